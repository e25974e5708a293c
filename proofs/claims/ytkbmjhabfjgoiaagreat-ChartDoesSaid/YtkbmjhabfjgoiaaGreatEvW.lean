/- Functions that are handed variables which hold pointers to other variables; all are only read. -/
import Derived.Test.YtkbmjhabfjgoiaaGreatEvV
noncomputable section
set_option linter.unusedSectionVars false
set_option linter.unusedVariables false
set_option linter.unusedSimpArgs false
namespace Go.Ev
open Go.RowKit
inductive VPar
 | ty (t : Ty)
 | rp (u : Ty)
 | ref (v : VPar)
 | pair (a b : VPar)
@[reducible] def VPar.ty' : VPar → Ty
 | .ty t => t
 | .rp u => u
 | .ref v => v.ty'
 | .pair a b => .prod a.ty' b.ty'
inductive QPar
 | arg (p : Par)
 | var (v : VPar)
 | pair (a b : QPar)
 | clo (f : FuncId) (a : QPar)
 | mv (f : FuncId) (v : VPar)
@[reducible] def QPar.ty : QPar → Ty
 | .arg p => p.ty
 | .var v => v.ty'
 | .pair a b => .prod a.ty b.ty
 | .clo _ a => a.ty
 | .mv _ v => v.ty'
def QPar.cap : QPar → Bool
 | .arg p => p.cap
 | .var _ => true
 | .pair a b => a.cap && b.cap
 | _ => false
def encV : Nat → (v : VPar) → v.ty'.T → List Cell × List AObj
 | nm,.ty t,x => encC 0 nm (t.comps x)
 | nm,.rp u,x => ([.eptr nm 0 0],[.row u [x] 0])
 | nm,.ref v,x => match encV (nm + 1) v x with | (cs,os) => ([.eptr nm 0 0],.rc cs :: os)
 | nm,.pair a b,x => match encV nm a x.1 with
  | (cs,os) => match encV (nm + os.length) b x.2 with
   | (cs',os') => (cs ++ cs',os ++ os')
def encQ : Nat → (p : QPar) → p.ty.T → List A0 × List AObj
 | nm,.arg p,x => encP 0 nm p x
 | nm,.var v,x => match encV (nm + 1) v x with | (cs,os) => ([.one (.eptr nm 0 0)],.rc cs :: os)
 | nm,.pair a b,x => match encQ nm a x.1 with
  | (as,os) => match encQ (nm + os.length) b x.2 with
   | (bs,os') => (as ++ bs,os ++ os')
 | nm,.clo f a,x => match encQ nm a x with | (as,os) => ([.one (.clo (.func f) [] (as.map refOf))],os)
 | nm,.mv f v,x => match encV (nm + 1) v x with | (cs,os) => ([.one (.mv f false [.elem nm 0])],.rc cs :: os)
def varOf (hp : HP) : Cell → Option (Nat × List Cell)
 | .ptr n 0 => match hp n with
  | some (.cells cs _) => some (n,cs)
  | _ => none
 | .eptr n 0 0 => match hp n with
  | some (.rc cs) => some (n,cs)
  | _ => none
 | _ => none
def decV (hp : HP) : (v : VPar) → List Cell → Option (v.ty'.T × List Cell × List Nat × Bool)
 | .ty t,cs => match decT hp t cs with
  | some (x,r,tc) => some (x,r,tc,true)
  | none => none
 | .rp u,cs => match cs with
  | c :: r => match decP hp (.ptr u) [.v (.one c)] with
   | some (x,[],tc,b) => some (x,r,tc,b)
   | _ => none
  | [] => none
 | .ref v,cs => match cs with
  | c :: r => match varOf hp c with
   | some (n,d :: ds) => match decV hp v (d :: ds) with
    | some (x,[],tc,b) => some (x,r,n :: tc,b)
    | _ => none
   | _ => none
  | [] => none
 | .pair a b,cs => match decV hp a cs with
  | some (x,r,tc,f) => match decV hp b r with
   | some (y,r',tc',f') => some ((x,y),r',tc ++ tc',f && f')
   | none => none
  | none => none
def decVar (hp : HP) (v : VPar) (c : Cell) : Option (v.ty'.T × List Nat × Bool) := match varOf hp c with
 | some (n,d :: ds) => match decV hp v (d :: ds) with
  | some (x,[],tc,b) => some (x,n :: tc,b)
  | _ => none
 | _ => none
def decQ (hp : HP) : (p : QPar) → List AV → Option (p.ty.T × List AV × List Nat × Bool)
 | .arg p,l => decP hp p l
 | .var v,l => match l with
  | .v (.one c) :: r => match decVar hp v c with
   | some (x,tc,b) => some (x,r,tc,b)
   | none => none
  | _ => none
 | .pair a b,l => match decQ hp a l with
  | some (x,r,tc,f) => match decQ hp b r with
   | some (y,r',tc',f') => some ((x,y),r',tc ++ tc',f && f')
   | none => none
  | none => none
 | .clo f a,l => match l with
  | .v (.one (.clo (.func g) [] cap)) :: r => if g = f then (match decQ hp a (cap.map ofRef) with
   | some (x,[],tc,b) => some (x,r,tc,a.cap && b)
   | _ => none) else none
  | _ => none
 | .mv f v,l => match l with
  | .v (.one (.mv g false [q])) :: r => if g = f then (match decVar hp v (refCell q) with
   | some (x,tc,b) => some (x,r,tc,b)
   | none => none) else none
  | _ => none
structure FnQ where
 p : QPar
 r : Par
 pre : p.ty.T → Prop
 f : p.ty.T → r.ty.T
def argsQ (d : QPar) (x : d.ty.T) : List AV := (encQ 0 d x).1.map .v
def heapQ (d : QPar) (x : d.ty.T) : List AObj := (encQ 0 d x).2
def fnSpecQ (s : FnQ) : Spec := fun _ args hp nm k => match decQ hp s.p args with
 | some (x,[],tc,b) => ob b (s.pre x ∧ ∀ y,y = s.f x → k { val := resV (encP 2 nm s.r y).1,fresh := (encP 2 nm s.r y).2,touch := tc })
 | _ => False
def altSpecQ (p : QPar) (s1 s2 : Spec) : Spec := fun X args hp nm k => match decQ hp p args with
 | some (_,[],_,_) => s1 X args hp nm k
 | _ => s2 X args hp nm k
theorem altSpecQ_ok {P : Program} {f : FuncId} {p : QPar} {s1 s2 : Spec} (h1 : SpecOk P f s1) (h2 : SpecOk P f s2) : SpecOk P f (altSpecQ p s1 s2) := by
 intro X args hp nm k h
 unfold altSpecQ at h
 split at h
 ·exact h1 _ _ _ _ _ h
 ·exact h2 _ _ _ _ _ h

theorem varOf_spec {hp : HP} {p : Cell} {n : Nat} {cs : List Cell} (h : varOf hp p = some (n,cs)) (hne : cs ≠ []) : ∀ {bor : Bor} {W : World} {ρ : Env} {Kn : Nat → Prop} {Γ : HP} {w : World},Γ n = hp n → St bor W ρ Kn Γ w →
  ∃ a,p.conc ρ = .pointer (some a) ∧ ∀ i c,cs[i]? = some c → w.cell? (a.add i) = some (c.conc ρ) := by
 unfold varOf at h
 intro bor W ρ Kn Γ w ht hst
 split at h
 ·rename_i m
  split at h <;> try (cases h; done)
  rename_i cs' e he
  cases h
  obtain ⟨b,hb,hh⟩ := hst.at_ n (.cells cs e) (by rw [ht,he])
  refine ⟨⟨b,0,none⟩,by simp [Cell.conc,addrOf,hb],fun i c hc => ?_⟩
  have e2 : (⟨b,0,none⟩ : Addr).add i = ⟨b,i,none⟩ := by unfold Addr.add; split <;> simp_all
  rw [e2,cell_of_heap hh,List.getElem?_map,hc]; rfl
 ·rename_i m
  split at h <;> try (cases h; done)
  rename_i cs' he
  cases h
  have g := hst.at_ n (.rc cs) (by rw [ht,he])
  obtain ⟨c0,r0,e0⟩ : ∃ c r,cs = c :: r := by
   cases cs with
   | nil => exact absurd rfl hne
   | cons c r => exact ⟨c,r,rfl⟩
  obtain ⟨a,ha,_⟩ := g.2 0 c0 (by rw [e0]; rfl)
  refine ⟨a,by simp [Cell.conc,ha,add_zero'],fun i c hc => ?_⟩
  obtain ⟨a',h1,h2,_⟩ := g.2 i c hc
  rw [ha] at h1; cases h1; exact h2
 ·cases h


def goodRc (w : World) (ρ : Env) : AObj → Loc → Prop
 | .rc cs,x => (x.blk = none ∧ x.ents = []) ∧ ∀ i c,cs[i]? = some c → ∃ a,x.base = some a ∧ w.cell? (a.add i) = some (c.conc ρ)
 | o,x => goodRow w o x
theorem goodRc_of {w : World} {ρ : Env} {o : AObj} {x : Loc} (h : goodRow w o x) : goodRc w ρ o x := by
 obtain ⟨u,l,rfl⟩ := goodRow_row h
 exact h
theorem goodRc_cases {w : World} {ρ : Env} {o : AObj} {x : Loc} (h : goodRc w ρ o x) : (∃ cs,o = .rc cs ∧ (x.blk = none ∧ x.ents = []) ∧ ∀ i c,cs[i]? = some c → ∃ a,x.base = some a ∧ w.cell? (a.add i) = some (c.conc ρ)) ∨ goodRow w o x := by
 cases o with
 | rc cs => exact .inl ⟨cs,rfl,h⟩
 | _ => exact .inr h
theorem St.beginQ {w : World} {os : List AObj} {xs : List Loc} (h : All2 (goodRc w fun n => xs.getD n {}) os xs) (hk : ∀ o ∈ os,o.ok (· < os.length)) :
  St noB w (fun n => xs.getD n {}) (· < os.length) (liveAt os) w := by
 have hcase : ∀ n o,liveAt os n = some o → n < os.length ∧ o ∈ os ∧ goodRc w (fun n => xs.getD n {}) o (xs.getD n {}) := fun n o ho => by
  have ho := liveAt_some ho
  obtain ⟨x,h1,h2⟩ := h.get n o ho
  exact ⟨(List.getElem?_eq_some_iff.1 ho).1,List.mem_of_getElem? ho,by simpa [h1] using h2⟩
 have hblk : ∀ n,(liveAt os n).isSome = true → (xs.getD n {}).blk = Option.none ∧ (xs.getD n {}).ents = [] := fun n hn => by
  obtain ⟨o,ho⟩ := Option.isSome_iff_exists.1 hn
  rcases goodRc_cases (hcase n o ho).2.2 with ⟨cs,rfl,h1,_⟩ | hg
  ·exact h1
  ·obtain ⟨u,l,rfl⟩ := goodRow_row hg
   exact hg.2.1
 have hhide : ∀ m S,liveAt os m ≠ some (.hide S) := fun m S hm => by
  rcases goodRc_cases (hcase m _ hm).2.2 with ⟨cs,e,_⟩ | hg
  ·cases e
  ·obtain ⟨u,l,e⟩ := goodRow_row hg; cases e
 have hfz : ∀ b,cellsB w b → fzB (fun n => xs.getD n {}) (liveAt os) w b := fun b hb => ⟨hb,by
  rintro (⟨m,g1,g2⟩ | ⟨m,S,g1,_⟩)
  ·exact noHas (hblk m g1) g2
  ·exact hhide m S g1⟩
 refine ⟨Fr.refl _ _,fun n o ho => ?_,fun n o ho => ⟨(hcase n o ho).1,hk o (hcase n o ho).2.1⟩,fun n m b hn hm hb => ?_,fun n b hn hb => ?_,fun b ⟨m,S,h1,_⟩ => (hhide m S h1).elim,fun n o ho => .inr (hblk n (by rw [ho]; rfl)).2⟩
 ·rcases goodRc_cases (hcase n o ho).2.2 with ⟨cs,rfl,h1,h2⟩ | hg
  ·refine ⟨h1.1,fun i c hi => ?_⟩
   obtain ⟨a,h3,h4⟩ := h2 i c hi
   refine ⟨a,h3,h4,hfz _ ?_⟩
   have := cellsB.of h4
   rwa [add_block] at this
  ·obtain ⟨u,l,rfl⟩ := goodRow_row hg
   obtain ⟨_,h1,h2,h3,h4,vals,h5,h6⟩ := hg
   obtain ⟨e1,e2⟩ := subOf_vals h5
   refine ⟨h2,h3,h4,subOf vals,fun i v hv => ?_,fun q u' l' hq => ?_,fun _ => h1.1,fun h => absurd rfl h⟩
   ·rw [e1] at hv
    obtain ⟨a,g1,g2,g3⟩ := h6 i v hv
    exact ⟨a,g1,g2,fun _ => hfz _ g3⟩
   ·exact (e2 q u' l' hq).weak fun b hb => ⟨hfz b hb,fun h => by cases h⟩
 ·exact (noHas (hblk n hn) hb).elim
 ·exact (noHas (hblk n hn) hb).elim

theorem decV_spec {hp : HP} : ∀ (v : VPar) (cs : List Cell) (x : v.ty'.T) (r : List Cell) (tc : List Nat),decV hp v cs = some (x,r,tc,true) →
  ∃ ys,cs = ys ++ r ∧ ∀ bor W ρ Kn Γ w,(∀ m ∈ tc,Γ m = hp m) → St bor W ρ Kn Γ w → ∀ nm,∃ xs : List Loc,xs.length = (encV nm v x).2.length ∧
   ∀ ρ1 : Env,(∀ i y,xs[i]? = some y → ρ1 (nm + i) = y) → All2 (goodRc w ρ1) (encV nm v x).2 xs ∧ ys.map (Cell.conc ρ) = (encV nm v x).1.map (Cell.conc ρ1)
 | .ty t,cs,x,r,tc,h => by
  simp only [decV] at h
  split at h <;> try (cases h; done)
  rename_i hd
  cases h
  obtain ⟨ys,e,_,hs⟩ := decT_spec hp t _ _ _ _ hd
  refine ⟨ys,e,fun bor W ρ Kn Γ w ht hst nm => ?_⟩
  obtain ⟨xs,h1,h2⟩ := encC_start _ _ nm (hs bor W ρ Kn Γ w ht hst)
  exact ⟨xs,h1.length.symm,fun ρ1 hr => ⟨h1.mono fun _ _ => goodRc_of,(h2 ρ1 hr).symm⟩⟩
 | .rp u,cs,x,r,tc,h => by
  simp only [decV] at h
  split at h <;> try (cases h; done)
  split at h <;> try (cases h; done)
  rename_i hd
  cases h
  obtain ⟨as,e,k⟩ := decP_spec (.ptr u) _ _ _ _ hd
  rw [List.append_nil] at e
  subst e
  refine ⟨[_],rfl,fun bor W ρ Kn Γ w ht hst nm => ?_⟩
  obtain ⟨xs,h1,h2⟩ := k bor W ρ Kn Γ w ht hst nm
  refine ⟨xs,h1.length.symm,fun ρ1 hr => ⟨h1.mono fun _ _ => goodRc_of,?_⟩⟩
  have := h2 ρ1 hr
  simp only [encP,List.map_cons,List.map_nil,List.cons.injEq,and_true] at this
  simp only [encV,List.map_cons,List.map_nil,List.cons.injEq,and_true]
  exact this
 | .ref v,cs,x,r,tc,h => by
  simp only [decV] at h
  split at h <;> try (cases h; done)
  rename_i c r'
  split at h <;> try (cases h; done)
  rename_i n d ds hv
  split at h <;> try (cases h; done)
  rename_i hd
  cases h
  obtain ⟨ys,e,k⟩ := decV_spec v _ _ _ _ hd
  rw [List.append_nil] at e
  subst e
  refine ⟨[_],rfl,fun bor W ρ Kn Γ w ht hst nm => ?_⟩
  obtain ⟨a,pe,pc⟩ := varOf_spec hv (by simp) (ht n (by simp)) hst
  obtain ⟨xs,h1,h2⟩ := k bor W ρ Kn Γ w (fun m hm => ht m (by simp [hm])) hst (nm + 1)
  refine ⟨{ base := some a } :: xs,by simp [encV,h1],fun ρ1 hr => ?_⟩
  obtain ⟨h3,h4⟩ := h2 ρ1 fun i y hy => by
   have := hr (i + 1) y (by simpa using hy)
   rwa [show nm + (i + 1) = nm + 1 + i by omega] at this
  have h0 := hr 0 _ rfl
  rw [Nat.add_zero] at h0
  refine ⟨⟨⟨⟨rfl,rfl⟩,fun i q hi => ⟨a,rfl,?_⟩⟩,h3⟩,?_⟩
  ·have h5 : ((d :: ds).map (Cell.conc ρ))[i]? = some (q.conc ρ1) := by rw [h4,List.getElem?_map,hi]; rfl
   rw [List.getElem?_map] at h5
   obtain ⟨q',h6,h7⟩ := Option.map_eq_some_iff.1 h5
   rw [pc i q' h6,h7]
  ·simp only [encV,List.map_cons,List.map_nil,List.cons.injEq,and_true]
   rw [pe]
   simp [Cell.conc,h0,add_zero']
 | .pair a b,cs,x,r,tc,h => by
  simp only [decV] at h
  split at h <;> try (cases h; done)
  rename_i x1 r1 tc1 f1 h1
  split at h <;> try (cases h; done)
  rename_i x2 r2 tc2 f2 h2
  simp only [Option.some.injEq,Prod.mk.injEq,Bool.and_eq_true] at h
  obtain ⟨rfl,rfl,rfl,rfl,rfl⟩ := h
  obtain ⟨ys,e,k⟩ := decV_spec a _ _ _ _ h1
  obtain ⟨zs,e',k'⟩ := decV_spec b _ _ _ _ h2
  refine ⟨ys ++ zs,by rw [e,e']; simp,fun bor W ρ Kn Γ w ht hst nm => ?_⟩
  obtain ⟨xs,g1,g2⟩ := k bor W ρ Kn Γ w (fun m hm => ht m (by simp [hm])) hst nm
  obtain ⟨xs',g3,g4⟩ := k' bor W ρ Kn Γ w (fun m hm => ht m (by simp [hm])) hst (nm + (encV nm a x1).2.length)
  refine ⟨xs ++ xs',by simp [encV,g1,g3],fun ρ1 hr => ?_⟩
  obtain ⟨g5,g6⟩ := g2 ρ1 fun i y hi => hr i y (by rw [List.getElem?_append_left (List.getElem?_eq_some_iff.1 hi).1]; exact hi)
  obtain ⟨g7,g8⟩ := g4 ρ1 fun i y hi => by
   have := hr (xs.length + i) y (by rw [List.getElem?_append_right (by omega)]; simpa using hi)
   rwa [g1,← Nat.add_assoc] at this
  exact ⟨g5.append g7,by simp only [encV,List.map_append,g6,g8]⟩
theorem decVar_spec {hp : HP} {v : VPar} {c : Cell} {x : v.ty'.T} {tc : List Nat} (h : decVar hp v c = some (x,tc,true)) {bor : Bor} {W : World} {ρ : Env} {Kn : Nat → Prop} {Γ : HP} {w : World} (ht : ∀ m ∈ tc,Γ m = hp m) (hst : St bor W ρ Kn Γ w) (nm:Nat) :
  ∃ xs : List Loc,xs.length = (encV (nm + 1) v x).2.length + 1 ∧ ∀ ρ1 : Env,(∀ i y,xs[i]? = some y → ρ1 (nm + i) = y) → All2 (goodRc w ρ1) (.rc (encV (nm + 1) v x).1 :: (encV (nm + 1) v x).2) xs ∧ c.conc ρ = (Cell.eptr nm 0 0).conc ρ1 := by
 have h' : decV hp (.ref v) [c] = some (x,[],tc,true) := by
  unfold decVar at h
  simp only [decV]
  split at h <;> try (cases h; done)
  split at h <;> try (cases h; done)
  cases h
  simp only [*]
 obtain ⟨ys,e,k⟩ := decV_spec (.ref v) _ _ _ _ h'
 rw [List.append_nil] at e
 subst e
 obtain ⟨xs,h1,h2⟩ := k bor W ρ Kn Γ w ht hst nm
 refine ⟨xs,by rw [h1]; rfl,fun ρ1 hr => ?_⟩
 obtain ⟨h3,h4⟩ := h2 ρ1 hr
 refine ⟨h3,?_⟩
 simp only [encV,List.map_cons,List.map_nil,List.cons.injEq,and_true] at h4
 exact h4
theorem ofRef_cell (ρ : Env) (q : Ref) : (refCell q).conc ρ = q.conc ρ := by
 cases q <;> first | rfl | simp [refCell,Cell.conc,Ref.conc]
theorem refsQ_conc {ρ : Env} : ∀ (p : QPar),p.cap = true → ∀ {nm : Nat} {x : p.ty.T},((encQ nm p x).1.map refOf).map (Ref.conc ρ) = (encQ nm p x).1.map (A0.conc ρ)
 | .arg p,h,nm,x => refs_conc p h
 | .var v,_,nm,x => rfl
 | .pair a b,h,nm,x => by
  simp only [QPar.cap,Bool.and_eq_true] at h
  simp only [encQ,List.map_append]
  rw [refsQ_conc a h.1,refsQ_conc b h.2]
 | .clo f a,h,_,_ => by cases h
 | .mv f v,h,_,_ => by cases h
theorem decQ_spec {hp : HP} : ∀ (p : QPar) (args : List AV) (x : p.ty.T) (r : List AV) (tc : List Nat),decQ hp p args = some (x,r,tc,true) →
  ∃ as,args = as ++ r ∧ ∀ bor W ρ Kn Γ w,(∀ m ∈ tc,Γ m = hp m) → St bor W ρ Kn Γ w → ∀ nm,∃ xs : List Loc,xs.length = (encQ nm p x).2.length ∧
   ∀ ρ1 : Env,(∀ i y,xs[i]? = some y → ρ1 (nm + i) = y) → All2 (goodRc w ρ1) (encQ nm p x).2 xs ∧ as.map (AV.conc ρ) = (encQ nm p x).1.map (A0.conc ρ1)
 | .arg p,args,x,r,tc,h => by
  obtain ⟨as,e,k⟩ := decP_spec p _ _ _ _ h
  refine ⟨as,e,fun bor W ρ Kn Γ w ht hst nm => ?_⟩
  obtain ⟨xs,h1,h2⟩ := k bor W ρ Kn Γ w ht hst nm
  exact ⟨xs,h1.length.symm,fun ρ1 hr => ⟨h1.mono fun _ _ => goodRc_of,h2 ρ1 hr⟩⟩
 | .var v,args,x,r,tc,h => by
  simp only [decQ] at h
  split at h <;> try (cases h; done)
  rename_i c r'
  split at h <;> try (cases h; done)
  rename_i hd
  cases h
  refine ⟨[_],rfl,fun bor W ρ Kn Γ w ht hst nm => ?_⟩
  obtain ⟨xs,h1,h2⟩ := decVar_spec hd ht hst nm
  refine ⟨xs,by rw [h1]; rfl,fun ρ1 hr => ?_⟩
  obtain ⟨h3,h4⟩ := h2 ρ1 hr
  refine ⟨h3,?_⟩
  simp only [encQ,List.map_cons,List.map_nil,AV.conc,A0.conc,h4]
 | .pair a b,args,x,r,tc,h => by
  simp only [decQ] at h
  split at h <;> try (cases h; done)
  rename_i x1 r1 tc1 f1 h1
  split at h <;> try (cases h; done)
  rename_i x2 r2 tc2 f2 h2
  simp only [Option.some.injEq,Prod.mk.injEq,Bool.and_eq_true] at h
  obtain ⟨rfl,rfl,rfl,rfl,rfl⟩ := h
  obtain ⟨ys,e,k⟩ := decQ_spec a _ _ _ _ h1
  obtain ⟨zs,e',k'⟩ := decQ_spec b _ _ _ _ h2
  refine ⟨ys ++ zs,by rw [e,e']; simp,fun bor W ρ Kn Γ w ht hst nm => ?_⟩
  obtain ⟨xs,g1,g2⟩ := k bor W ρ Kn Γ w (fun m hm => ht m (by simp [hm])) hst nm
  obtain ⟨xs',g3,g4⟩ := k' bor W ρ Kn Γ w (fun m hm => ht m (by simp [hm])) hst (nm + (encQ nm a x1).2.length)
  refine ⟨xs ++ xs',by simp [encQ,g1,g3],fun ρ1 hr => ?_⟩
  obtain ⟨g5,g6⟩ := g2 ρ1 fun i y hi => hr i y (by rw [List.getElem?_append_left (List.getElem?_eq_some_iff.1 hi).1]; exact hi)
  obtain ⟨g7,g8⟩ := g4 ρ1 fun i y hi => by
   have := hr (xs.length + i) y (by rw [List.getElem?_append_right (by omega)]; simpa using hi)
   rwa [g1,← Nat.add_assoc] at this
  exact ⟨g5.append g7,by simp only [encQ,List.map_append,g6,g8]⟩
 | .clo f a,args,x,r,tc,h => by
  simp only [decQ] at h
  split at h <;> try (cases h; done)
  rename_i g cap r'
  split at h <;> try (cases h; done)
  rename_i hg
  split at h <;> try (cases h; done)
  rename_i x1 tc1 b1 h1
  simp only [Option.some.injEq,Prod.mk.injEq,Bool.and_eq_true] at h
  obtain ⟨rfl,rfl,rfl,hc,rfl⟩ := h
  subst hg
  obtain ⟨as,e1,k1⟩ := decQ_spec a _ _ _ _ h1
  rw [List.append_nil] at e1
  refine ⟨[_],rfl,fun bor W ρ Kn Γ w ht hst nm => ?_⟩
  obtain ⟨xs,g1,g2⟩ := k1 bor W ρ Kn Γ w ht hst nm
  refine ⟨xs,g1,fun ρ1 hr => ?_⟩
  obtain ⟨h3,h2⟩ := g2 ρ1 hr
  have e2 : cap.map (Ref.conc ρ) = ((encQ nm a x1).1.map refOf).map (Ref.conc ρ1) := by
   rw [refsQ_conc a hc,← h2,← e1,List.map_map]
   exact List.map_congr_left fun q _ => (ofRef_conc ρ q).symm
  refine ⟨h3,?_⟩
  simp only [encQ,List.map_cons,List.map_nil,AV.conc,A0.conc,Cell.conc,e2]
 | .mv f v,args,x,r,tc,h => by
  simp only [decQ] at h
  split at h <;> try (cases h; done)
  rename_i g q r'
  split at h <;> try (cases h; done)
  rename_i hg
  subst hg
  split at h <;> try (cases h; done)
  rename_i hd
  cases h
  refine ⟨[_],rfl,fun bor W ρ Kn Γ w ht hst nm => ?_⟩
  obtain ⟨xs,h1,h2⟩ := decVar_spec hd ht hst nm
  refine ⟨xs,by rw [h1]; rfl,fun ρ1 hr => ?_⟩
  obtain ⟨h3,h4⟩ := h2 ρ1 hr
  refine ⟨h3,?_⟩
  rw [ofRef_cell] at h4
  simp only [encQ,List.map_cons,List.map_nil,AV.conc,A0.conc,Cell.conc,h4]
  simp [Ref.conc,Cell.conc]
theorem encV_ok : ∀ (v : VPar) (x : v.ty'.T) (nm:Nat),(∀ c ∈ (encV nm v x).1,c.ok fun m => nm ≤ m ∧ m < nm + (encV nm v x).2.length) ∧ ∀ o ∈ (encV nm v x).2,o.ok fun m => nm ≤ m ∧ m < nm + (encV nm v x).2.length
 | .ty t,x,nm => ⟨encC_ok 0 _ nm,fun o ho => by
  obtain ⟨u,l,rfl⟩ := encC_rows 0 _ nm o ho; trivial⟩
 | .rp u,x,nm => ⟨fun c hc => by
  simp only [encV,List.mem_singleton] at hc
  subst hc; simp only [encV,List.length_singleton,Cell.ok]; omega,fun o ho => by
  simp only [encV,List.mem_singleton] at ho
  subst ho; trivial⟩
 | .ref v,x,nm => by
  obtain ⟨h1,h2⟩ := encV_ok v x (nm + 1)
  refine ⟨fun c hc => ?_,fun o ho => ?_⟩
  ·simp only [encV,List.mem_singleton] at hc
   subst hc; simp only [encV,List.length_cons,Cell.ok]; omega
  ·simp only [encV,List.mem_cons] at ho
   rcases ho with rfl | ho
   ·exact fun c hc => Cell.ok_mono (fun m hm => by simp only [encV,List.length_cons]; omega) c (h1 c hc)
   ·exact AObj.ok_mono (fun m hm => by simp only [encV,List.length_cons]; omega) o (h2 o ho)
 | .pair a b,x,nm => by
  obtain ⟨h1,h2⟩ := encV_ok a x.1 nm
  obtain ⟨h3,h4⟩ := encV_ok b x.2 (nm + (encV nm a x.1).2.length)
  refine ⟨fun c hc => ?_,fun o ho => ?_⟩
  ·simp only [encV,List.mem_append] at hc
   rcases hc with hc | hc
   ·exact Cell.ok_mono (fun m hm => by simp only [encV,List.length_append]; omega) c (h1 c hc)
   ·exact Cell.ok_mono (fun m hm => by simp only [encV,List.length_append]; omega) c (h3 c hc)
  ·simp only [encV,List.mem_append] at ho
   rcases ho with ho | ho
   ·exact AObj.ok_mono (fun m hm => by simp only [encV,List.length_append]; omega) o (h2 o ho)
   ·exact AObj.ok_mono (fun m hm => by simp only [encV,List.length_append]; omega) o (h4 o ho)
theorem encP_row0 : ∀ (p : Par) (x : p.ty.T) (nm:Nat),∀ o ∈ (encP 0 nm p x).2,∃ u,∃ l : List u.T,o = .row u l 0
 | .one t,x,nm,o,h => encC_rows 0 _ nm o h
 | .agg t,x,nm,o,h => encC_rows 0 _ nm o h
 | .ptr t,x,nm,o,h => by
  simp only [encP,List.mem_singleton] at h
  exact ⟨_,_,h⟩
 | .clo f p,x,nm,o,h => encP_row0 p x nm o h
 | .mv f agg t,x,nm,o,h => encC_rows 0 _ nm o h
 | .pair a b,x,nm,o,h => by
  simp only [encP,List.mem_append] at h
  rcases h with h | h
  ·exact encP_row0 a x.1 nm o h
  ·exact encP_row0 b x.2 _ o h
 | .none,x,nm,o,h => by simp [encP] at h
theorem encQ_ok : ∀ (p : QPar) (x : p.ty.T) (nm:Nat),(∀ c ∈ (encQ nm p x).1,c.ok fun m => nm ≤ m ∧ m < nm + (encQ nm p x).2.length) ∧ ∀ o ∈ (encQ nm p x).2,o.ok fun m => nm ≤ m ∧ m < nm + (encQ nm p x).2.length
 | .arg p,x,nm => ⟨encP_ok 0 p x nm,fun o ho => by
  obtain ⟨u,l,rfl⟩ := encP_row0 p x nm o ho; trivial⟩
 | .var v,x,nm => by
  obtain ⟨h1,h2⟩ := encV_ok (.ref v) x nm
  refine ⟨fun c hc => ?_,h2⟩
  simp only [encQ,List.mem_singleton] at hc
  subst hc; simp only [encQ,List.length_cons,A0.ok,Cell.ok]; omega
 | .pair a b,x,nm => by
  obtain ⟨h1,h2⟩ := encQ_ok a x.1 nm
  obtain ⟨h3,h4⟩ := encQ_ok b x.2 (nm + (encQ nm a x.1).2.length)
  refine ⟨fun c hc => ?_,fun o ho => ?_⟩
  ·simp only [encQ,List.mem_append] at hc
   rcases hc with hc | hc
   ·exact A0.ok_mono (fun m hm => by simp only [encQ,List.length_append]; omega) c (h1 c hc)
   ·exact A0.ok_mono (fun m hm => by simp only [encQ,List.length_append]; omega) c (h3 c hc)
  ·simp only [encQ,List.mem_append] at ho
   rcases ho with ho | ho
   ·exact AObj.ok_mono (fun m hm => by simp only [encQ,List.length_append]; omega) o (h2 o ho)
   ·exact AObj.ok_mono (fun m hm => by simp only [encQ,List.length_append]; omega) o (h4 o ho)
 | .clo f a,x,nm => by
  obtain ⟨h1,h2⟩ := encQ_ok a x nm
  refine ⟨fun c hc => ?_,h2⟩
  simp only [encQ,List.mem_singleton] at hc
  subst hc
  intro q hq
  obtain ⟨a0,ha,rfl⟩ := List.mem_map.1 hq
  have := h1 a0 ha
  unfold refOf
  split
  ·exact this
  ·trivial
 | .mv f v,x,nm => by
  obtain ⟨h1,h2⟩ := encV_ok (.ref v) x nm
  refine ⟨fun c hc => ?_,h2⟩
  simp only [encQ,List.mem_singleton] at hc
  subst hc
  intro q hq
  simp only [List.mem_singleton] at hq
  subst hq
  simp only [encQ,List.length_cons,Ref.ok]; omega
section
variable {P : Program} {tt : List (Nat × TI)} {specs : List (Nat × Spec)}
theorem SpecOk.fnQ (hT : TOk P tt) (hS : SpecsOk P specs) (hm : P.follows .mixedOrders = true) {f : FuncId} {fn : Func} (hf : P.funcs[f]? = some fn) (hn : nodupB (ids (bodyOf fn)) = true) {s : FnQ} (hres : s.r.res = true)
  (h : ∀ x,s.pre x → ∃ lp its,ItsOk P noX its ∧ LpsOk P noX (bodyOf fn) lp ∧ fnE ⟨tt,specs,noX,lp,[],its⟩ fn (argsQ s.p x) (heapQ s.p x) (retE s.r (· = s.f x))) : SpecOk P f (fnSpecQ s) := by
 intro X args hp nm k hs
 unfold fnSpecQ at hs
 split at hs
 rotate_left
 ·exact hs.elim
 rename_i x tc b hd
 obtain ⟨rfl,hpre,hk⟩ := ob_spec hs
 have hk := hk _ rfl
 obtain ⟨as,e,hargs⟩ := decQ_spec s.p _ _ _ _ hd
 rw [List.append_nil] at e
 subst e
 refine ⟨_,⟨fun p hp' => absurd hp' (by simp),?_⟩,hk⟩
 intro bor W ρ Kn Γ w _ _ ht hfr hst
 obtain ⟨xs,hxl,hc⟩ := hargs bor W ρ Kn Γ w ht hst 0
 obtain ⟨hg,hcs⟩ := hc (fun n => xs.getD n {}) fun i y hy => by simp [hy]
 obtain ⟨hk1,hk2⟩ := encQ_ok s.p x 0
 have hb := St.beginQ hg fun o ho => AObj.ok_mono (fun m hm => by omega) o (hk2 o ho)
 have hoka : ∀ a ∈ argsQ s.p x,a.ok (· < (heapQ s.p x).length) := fun a ha => by
  obtain ⟨a0,h4,rfl⟩ := List.mem_map.1 ha
  exact A0.ok_mono (fun m hm => by simp only [heapQ]; omega) a0 (hk1 a0 h4)
 have ea : args.map (AV.conc ρ) = (argsQ s.p x).map (AV.conc fun n => xs.getD n {}) := by
  rw [hcs]; simp [argsQ,AV.conc,Function.comp_def]
 obtain ⟨lp,its,hi,hl,hfn⟩ := h x hpre
 have key := calls_of_fnE (ctx := ⟨tt,specs,noX,lp,[],its⟩) hT ⟨hS,YsOk.nil P,hi⟩ (noX.ok noB w) hm hf (fun c hc => by
  have : bodyOf fn = c := by unfold bodyOf; rw [hc]
  subst this
  exact lpOk_of (nodupB_spec hn) hl) hfn hoka hb
 rw [← ea] at key
 refine key.mono ?_
 rintro e w' ⟨st,ρ1,v,rfl,hv,hR,hst1⟩
 obtain ⟨y,rfl,hw⟩ := retE_spec hR
 have hat : AtS noB w [] ⟨[v],st.heap⟩ ρ1 { tmps := #[v.conc ρ1],defers := [] } w' := by
  refine ⟨fun t _ => ?_,rfl,rfl,fun t => ?_,hst1⟩
  ·match t with
   | 0 => rfl
   | t + 1 => rfl
  ·match t with
   | 0 => exact hv
   | t + 1 => exact und_ok _
 obtain ⟨ρ2,hat2⟩ := hat.weak hw
 have hrows := encP_rows 2 s.r (s.f x) 0 hres
 have he2 := fun d => (encP_shift 2 (ρ := ρ2) (ρ' := fun m => ρ2 (m - d)) (d := d) s.r (s.f x) 0 hres fun i _ => by simp).2
 have hlen : (encP 2 nm s.r (s.f x)).2 = (encP 2 0 s.r (s.f x)).2 := by simpa using he2 nm
 obtain ⟨ρ',r1,r2,r3⟩ := St.grow (v := resV (encP 2 nm s.r (s.f x)).1) (tc := tc) (nm := nm) hst (fun i hi => hfr i (by rw [hlen]; exact hi)) hrows hat2.st
 have hsh := (encP_shift 2 (ρ := ρ2) (ρ' := ρ') (d := nm) s.r (s.f x) 0 hres fun i hi => by rw [Nat.zero_add]; exact r2 i hi).1
 rw [Nat.zero_add] at hsh
 refine ⟨ρ',?_,r1,?_,?_⟩
 ·congr 1
  have h1 := hat2.tmps 0 (by
   show resV _ ≠ _
   generalize (encP 2 0 s.r (s.f x)).1 = l
   match l with
   | [] => exact fun h => by cases h
   | [_] => exact fun h => by cases h
   | _ :: _ :: _ => exact fun h => by cases h)
  have h2 : v.conc ρ1 = (resV (encP 2 0 s.r (s.f x)).1).conc ρ2 := h1
  rw [h2]
  exact (resV_conc hsh).symm
 ·exact resV_ok fun c hc => A0.ok_mono (fun m hm => .inr (by simpa using hm)) c (encP_ok 2 s.r (s.f x) nm c hc)
 ·rw [hlen]; exact r3
theorem SpecOk.trQ (s : FnQ) {i : Bool} (t : s.p.ty.T → Tr s.r.ty.T i) (hT : TOk P tt) (hS : SpecsOk P specs) (hm : P.follows .mixedOrders = true) {n : FuncId} {fn : Func} (hk : (P.funcs[n]?,nodupB (ids (bodyOf fn)),s.r.res) = (some fn,true,true))
  {its : List (Nat × ISpec)} {lp : s.p.ty.T → List (Nat × LSpec)} (hits : ItsOk P noX its) (hl : ∀ x,LpsOk P noX (bodyOf fn) (lp x)) (he : ∀ x,(s.pre x,s.f x) = (Tr.pI i (t x).pre,(t x).val))
  (h : ∀ x Q,fnE ⟨tt,specs,noX,lp x,[],its⟩ fn (argsQ s.p x) (heapQ s.p x) (retE s.r Q) = (t x).wp Q []) : SpecOk P n (fnSpecQ s) := by
 simp only [Prod.mk.injEq] at hk
 refine SpecOk.fnQ hT hS hm hk.1 hk.2.1 hk.2.2 fun x hx => ⟨lp x,its,hits,hl x,?_⟩
 have e := he x
 simp only [Prod.mk.injEq] at e
 rw [h]
 exact Tr.wp_of _ _ _ (by rw [← e.1]; exact hx) e.2.symm
end
namespace Tr
variable {τ : Type}
abbrev fnQ {i : Bool} (s : FnQ) (x : s.p.ty.T) (k : s.r.ty.T → Tr τ i) : Tr τ true := .call (s.pre x) (s.f x) k
end Tr
end Go.Ev
