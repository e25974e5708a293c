/- Contracts of functions of typed values. -/
import Derived.Test.YtleemdeodmdnkaaEvI
noncomputable section
set_option linter.unusedSectionVars false
set_option linter.unusedVariables false
set_option linter.unusedSimpArgs false
namespace Go.Ev
open Go.RowKit

inductive Par
 | one (t : Ty)
 | agg (t : Ty)
 | ptr (t : Ty)
 | pair (a b : Par)
 | clo (f : FuncId) (p : Par)
 | mv (f : FuncId) (agg : Bool) (t : Ty)
 | none
@[reducible] def Par.ty : Par → Ty
 | .one t => t
 | .agg t => t
 | .ptr t => t
 | .pair a b => .prod a.ty b.ty
 | .clo _ p => p.ty
 | .mv _ _ t => t
 | .none => .bool
def Par.cap : Par → Bool
 | .ptr _ => true
 | .pair a b => a.cap && b.cap
 | .none => true
 | _ => false
def refOf : A0 → Ref
 | .one (.eptr n j _) => .elem n j
 | _ => .ext undef
def refC (c : Cell) : Ref := match c with
 | .raw v => .ext v
 | .full n => .full n
 | _ => .ext undef
def encC (rk:Nat) : Nat → List Comp → List Cell × List AObj
 | _,[] => ([],[])
 | nm,.flat v :: r => match encC rk nm r with | (cs,os) => (.raw v :: cs,os)
 | nm,.sl u l :: r => match encC rk (nm + 1) r with | (cs,os) => (.full nm :: cs,.row u l rk :: os)
def encA (agg : Bool) (cs : List Cell) : A0 := match agg with
 | false => (match cs with | [c] => .one c | cs => .agg cs)
 | true => .agg cs
def encP (rk:Nat) : Nat → (p : Par) → p.ty.T → List A0 × List AObj
 | nm,.one t,x => match encC rk nm (t.comps x) with | (cs,os) => ([encA false cs],os)
 | nm,.agg t,x => match encC rk nm (t.comps x) with | (cs,os) => ([encA true cs],os)
 | nm,.ptr t,x => ([.one (.eptr nm 0 0)],[.row t [x] 0])
 | nm,.pair a b,x => match encP rk nm a x.1 with
  | (as,os) => match encP rk (nm + os.length) b x.2 with
   | (bs,os') => (as ++ bs,os ++ os')
 | nm,.clo f p,x => match encP rk nm p x with
  | (as,os) => ([.one (.clo (.func f) [] (as.map refOf))],os)
 | nm,.mv f agg t,x => match encC rk nm (t.comps x) with | (cs,os) => ([.one (.mv f agg (cs.map refC))],os)
 | _,.none,_ => ([],[])
def decP (hp : HP) : (p : Par) → List AV → Option (p.ty.T × List AV × List Nat × Bool)
 | .one t,l => match l with
  | .v (.one c) :: r => match decT hp t [c] with
   | some (x,[],tc) => some (x,r,tc,true)
   | _ => none
  | _ => none
 | .agg t,l => match l with
  | .v (.agg cs) :: r => match decT hp t cs with
   | some (x,[],tc) => some (x,r,tc,true)
   | _ => none
  | _ => none
 | .ptr t,l => match l with
  | .v (.one (.ptr n off)) :: r => match hp n with
   | some (.cells cs _) => match decT hp t ((cs.drop off).take t.size) with
    | some (x,[],tc) => if t.shallow then some (x,r,n :: tc,true) else none
    | _ => none
   | _ => none
  | .v (.one (.eptr n j 0)) :: r => match hp n with
   | some (.row u l _) => match castL u t l with
    | some l' => some (gd t l' j,r,[n],decide (j < l'.length))
    | none => none
   | _ => none
  | _ => none
 | .pair a b,l => match decP hp a l with
  | some (x,r,tc,f) => match decP hp b r with
   | some (y,r',tc',f') => some ((x,y),r',tc ++ tc',f && f')
   | none => none
  | none => none
 | .clo f p,l => match l with
  | .v (.one (.clo (.func g) [] cap)) :: r => if g = f then (match decP hp p (cap.map ofRef) with
   | some (x,[],tc,b) => some (x,r,tc,p.cap && b)
   | _ => none) else none
  | _ => none
 | .mv f agg t,l => match l with
  | .v (.one (.mv g agg' rs)) :: r => if g = f ∧ agg' = agg then (match decT hp t (rs.map refCell) with
   | some (x,[],tc) => some (x,r,tc,true)
   | _ => none) else none
  | _ => none
 | .none,l => some (false,l,[],true)
def resV : List A0 → AV
 | [a] => .v a
 | l => .tup l
def partsV : AV → Option (List A0)
 | .v a => some [a]
 | .tup l => match l with
  | [_] => none
  | l => some l
 | .dead => none
def ownC (hp : HP) : Ty → List Cell → Option (List Src × List Cell)
 | .prod a b,cs => match ownC hp a cs with
  | some (ss,r) => match ownC hp b r with
   | some (ss',r') => some (ss ++ ss',r')
   | none => none
  | none => none
 | .sl u,cs => match cs with
  | .raw (.slice none 0 0) :: r => some ([.nil],r)
  | .full n :: r => match hp n with
   | some (.row _ _ rk) => if rk = 2 then some ([.same n],r) else none
   | _ => none
  | .sl n 0 len c :: r => if c = len then (match hp n with
   | some (.cells cs _) => if u.flat && (decide (cs.length = len * u.size) && Nat.ble len 1099511627776) then some ([.cells n len],r) else none
   | _ => none) else none
  | _ => none
 | _,cs => match cs with
  | _ :: r => some ([],r)
  | [] => none
def decR (hp : HP) : (p : Par) → List A0 → Option (p.ty.T × List A0 × List Src)
 | .one t,l => match l with
  | .one c :: r => match decT hp t [c] with
   | some (y,[],_) => match ownC hp t [c] with
    | some (ss,_) => some (y,r,ss)
    | none => none
   | _ => none
  | _ => none
 | .agg t,l => match l with
  | .agg cs :: r => match decT hp t cs with
   | some (y,[],_) => match ownC hp t cs with
    | some (ss,_) => some (y,r,ss)
    | none => none
   | _ => none
  | _ => none
 | .ptr _,_ => none
 | .clo _ _,_ => none
 | .mv _ _ _,_ => none
 | .pair a b,l => match decR hp a l with
  | some (x,r,ss) => match decR hp b r with
   | some (y,r',ss') => some ((x,y),r',ss ++ ss')
   | none => none
  | none => none
 | .none,l => some (false,l,[])
def retE (r : Par) (Q : r.ty.T → Prop) (v : AV) (st : AS) : Prop := match partsV v with
 | some l => match decR (liveAt st.heap) r l with
  | some (y,[],ss) => if nodupL (ss.filterMap srcB) then Q y else False
  | _ => False
 | none => False
def argsE (p : Par) (x : p.ty.T) : List AV := (encP 0 0 p x).1.map .v
def heapE (p : Par) (x : p.ty.T) : List AObj := (encP 0 0 p x).2
structure FnS where
 p : Par
 r : Par
 pre : p.ty.T → Prop
 f : p.ty.T → r.ty.T
def fnSpec (s : FnS) : Spec := fun _ args hp nm k => match decP hp s.p args with
 | some (x,[],tc,b) => ob b (s.pre x ∧ ∀ y,y = s.f x → k { val := resV (encP 2 nm s.r y).1,fresh := (encP 2 nm s.r y).2,touch := tc })
 | _ => False

def goodRow (w : World) : AObj → Loc → Prop
 | .row u l rk,x => rk = 0 ∧ (x.blk = none ∧ x.ents = []) ∧ x.len = l.length ∧ x.es = u.size ∧ l.length ≤ x.cap ∧ RowAt w (inW w) x.base u l
 | _,_ => False
theorem encC_start {w : World} : ∀ (cs : List Comp) (vals : List Value) (nm:Nat),All2 (TopC w (inW w)) cs vals →
  ∃ xs,All2 (goodRow w) (encC 0 nm cs).2 xs ∧ ∀ ρ1 : Env,(∀ i x,xs[i]? = some x → ρ1 (nm + i) = x) → (encC 0 nm cs).1.map (Cell.conc ρ1) = vals
 | [],[],nm,_ => ⟨[],trivial,fun _ _ => rfl⟩
 | [],_ :: _,_,h => h.elim
 | _ :: _,[],_,h => h.elim
 | .flat v :: r,v' :: vr,nm,h => by
  obtain ⟨xs,h1,h2⟩ := encC_start r vr nm h.2
  refine ⟨xs,h1,fun ρ1 hr => ?_⟩
  have := h2 ρ1 hr
  have hv : v' = v := h.1
  simp only [encC,List.map_cons,this,hv]; rfl
 | .sl u l :: r,v' :: vr,nm,h => by
  obtain ⟨xs,h1,h2⟩ := encC_start r vr (nm + 1) h.2
  obtain ⟨a,c,hv,hc,hr⟩ := h.1
  refine ⟨{ blk := none,base := a,len := l.length,cap := c,es := u.size } :: xs,⟨⟨rfl,⟨rfl,rfl⟩,rfl,rfl,hc,hr⟩,h1⟩,fun ρ1 hr => ?_⟩
  have := h2 ρ1 fun i x hi => by
   have := hr (i + 1) x (by simpa using hi)
   rwa [show nm + (i + 1) = nm + 1 + i by omega] at this
  have h0 := hr 0 _ rfl
  rw [Nat.add_zero] at h0
  simp only [encC,List.map_cons,this,hv,Cell.conc,h0]
theorem add_zero' (a : Addr) : a.add 0 = a := by unfold Addr.add; split <;> simp_all
theorem refs_conc {rk nm : Nat} {ρ : Env} : ∀ (p : Par),p.cap = true → ∀ {x : p.ty.T},((encP rk nm p x).1.map refOf).map (Ref.conc ρ) = (encP rk nm p x).1.map (A0.conc ρ) := by
 intro p
 induction p generalizing nm with
 | ptr t => intro _ x; rfl
 | none => intro _ x; rfl
 | pair a b iha ihb =>
  intro h x
  simp only [Par.cap,Bool.and_eq_true] at h
  simp only [encP,List.map_append]
  rw [iha h.1,ihb h.2]
 | one t => intro h; cases h
 | agg t => intro h; cases h
 | clo f p _ => intro h; cases h
 | mv f agg t => intro h; cases h
theorem refC_conc (rk:Nat) (ρ : Env) : ∀ (cs : List Comp) (nm:Nat),((encC rk nm cs).1.map refC).map (Ref.conc ρ) = (encC rk nm cs).1.map (Cell.conc ρ)
 | [],_ => rfl
 | .flat v :: r,nm => by simp only [encC,List.map_cons,refC_conc rk ρ r nm]; rfl
 | .sl u l :: r,nm => by simp only [encC,List.map_cons,refC_conc rk ρ r (nm + 1)]; rfl
theorem decP_spec {hp : HP} : ∀ (p : Par) (args : List AV) (x : p.ty.T) (r : List AV) (tc : List Nat),decP hp p args = some (x,r,tc,true) →
  ∃ as,args = as ++ r ∧ ∀ bor W ρ Kn Γ w,(∀ m ∈ tc,Γ m = hp m) → St bor W ρ Kn Γ w → ∀ nm,∃ xs,All2 (goodRow w) (encP 0 nm p x).2 xs ∧
   ∀ ρ1 : Env,(∀ i x,xs[i]? = some x → ρ1 (nm + i) = x) → as.map (AV.conc ρ) = (encP 0 nm p x).1.map (A0.conc ρ1)
 | .one t,args,x,r,tc,h => by
  simp only [decP] at h
  split at h <;> try (cases h; done)
  rename_i c r'
  split at h <;> try (cases h; done)
  rename_i y tc' hd
  cases h
  obtain ⟨ys,e,hl,hs⟩ := decT_spec hp t _ _ _ _ hd
  rw [List.append_nil] at e
  subst e
  refine ⟨[_],rfl,fun bor W ρ Kn Γ w ht hst nm => ?_⟩
  obtain ⟨xs,h1,h2⟩ := encC_start _ _ nm (hs bor W ρ Kn Γ w ht hst)
  refine ⟨xs,h1,fun ρ1 hr => ?_⟩
  have := h2 ρ1 hr
  simp only [encP,List.map_cons,List.map_nil]
  simp only [List.map_cons,List.map_nil] at this
  obtain ⟨c',hc',e⟩ : ∃ c',(encC 0 nm (t.comps x)).1 = [c'] ∧ c'.conc ρ1 = c.conc ρ := by
   match hm : (encC 0 nm (t.comps x)).1,this with
   | [c'],h => simp only [List.map_cons,List.map_nil,List.cons.injEq,and_true] at h; exact ⟨c',rfl,h⟩
   | [],h => simp at h
   | _ :: _ :: _,h => simp at h
  rw [hc']
  simp only [encA,AV.conc,A0.conc,e]
 | .agg t,args,x,r,tc,h => by
  simp only [decP] at h
  split at h <;> try (cases h; done)
  rename_i cs r'
  split at h <;> try (cases h; done)
  rename_i y tc' hd
  cases h
  obtain ⟨ys,e,hl,hs⟩ := decT_spec hp t _ _ _ _ hd
  rw [List.append_nil] at e
  subst e
  refine ⟨[_],rfl,fun bor W ρ Kn Γ w ht hst nm => ?_⟩
  obtain ⟨xs,h1,h2⟩ := encC_start _ _ nm (hs bor W ρ Kn Γ w ht hst)
  refine ⟨xs,h1,fun ρ1 hr => ?_⟩
  have := h2 ρ1 hr
  simp only [encP,encA,List.map_cons,List.map_nil,AV.conc,A0.conc,this]
 | .ptr t,args,x,r,tc,h => by
  simp only [decP] at h
  split at h
  ·rename_i n off r'
   split at h <;> try (cases h; done)
   rename_i cs e he
   split at h <;> try (cases h; done)
   rename_i y tc' hd
   split at h <;> try (cases h; done)
   rename_i hsh
   cases h
   obtain ⟨ys,e1,hl,hs⟩ := decT_spec hp t _ _ _ _ hd
   rw [List.append_nil] at e1
   refine ⟨[_],rfl,fun bor W ρ Kn Γ w ht hst nm => ?_⟩
   have hall := top_nest t x _ hsh (hs bor W ρ Kn Γ w (fun m hm => ht m (by simp [hm])) hst)
   obtain ⟨b,hb,hh⟩ := hst.at_ n _ (by rw [ht n (by simp),he])
   refine ⟨[{ blk := none,base := addrOf ρ n off,len := 1,cap := 1,es := t.size }],⟨⟨rfl,⟨rfl,rfl⟩,rfl,rfl,by simp,ys.map (Cell.conc ρ),?_,fun i v hv => ?_⟩,trivial⟩,fun ρ1 hr => ?_⟩
   ·simpa [rowComps] using hall
   ·refine ⟨⟨b,off,none⟩,by simp [addrOf,hb],?_,?_⟩
    ·rw [add_mk',cell_of_heap (by simpa using hh)]
     rw [← e1,List.map_take,List.map_drop,List.getElem?_take] at hv
     split at hv
     ·rwa [List.getElem?_drop] at hv
     ·cases hv
    ·exact ⟨_,_,_,hh⟩
   ·have h0 := hr 0 _ rfl
    rw [Nat.add_zero] at h0
    simp only [encP,List.map_cons,List.map_nil,AV.conc,A0.conc,Cell.conc,h0]
    cases addrOf ρ n off <;> simp [add_zero']
  ·rename_i n j r'
   split at h <;> try (cases h; done)
   rename_i u l rk he
   split at h <;> try (cases h; done)
   rename_i l' hl'
   simp only [Option.some.injEq,Prod.mk.injEq,decide_eq_true_eq] at h
   obtain ⟨rfl,rfl,rfl,hj⟩ := h
   obtain ⟨e,e2⟩ := castL_eq hl'
   subst e
   dsimp only at e2
   subst e2
   refine ⟨[_],rfl,fun bor W ρ Kn Γ w ht hst nm => ?_⟩
   have hΓ : Γ n = some (.row u l rk) := by rw [ht n (by simp),he]
   have hra := hst.rowAt hΓ
   have hes : (ρ n).es = u.size := (hst.at_ n _ hΓ).2.1
   have hp := hra.part (a' := (ρ n).base.map (·.add (j * u.size))) j (some 1) fun _ => rfl
   have hpl : partL l j (some 1) = [gd u l j] := by
    simp only [partL,gd,List.getD_eq_getElem?_getD,List.getElem?_eq_getElem hj,Option.getD_some]
    rw [List.drop_eq_getElem_cons hj]; rfl
   rw [hpl] at hp
   refine ⟨[{ blk := none,base := (ρ n).base.map (·.add (j * u.size)),len := 1,cap := 1,es := u.size }],⟨⟨rfl,⟨rfl,rfl⟩,rfl,rfl,by simp,hp⟩,trivial⟩,fun ρ1 hr => ?_⟩
   have h0 := hr 0 _ rfl
   rw [Nat.add_zero] at h0
   simp only [encP,List.map_cons,List.map_nil,AV.conc,A0.conc,Cell.conc,h0,hes]
   cases (ρ n).base <;> simp [add_zero']
  ·cases h
 | .clo f p,args,x,r,tc,h => by
  simp only [decP] at h
  split at h <;> try (cases h; done)
  rename_i g cap r'
  split at h <;> try (cases h; done)
  rename_i hg
  split at h <;> try (cases h; done)
  rename_i x1 tc1 b1 h1
  simp only [Option.some.injEq,Prod.mk.injEq,Bool.and_eq_true] at h
  obtain ⟨rfl,rfl,rfl,hc,rfl⟩ := h
  subst hg
  obtain ⟨as,e1,k1⟩ := decP_spec p _ _ _ _ h1
  rw [List.append_nil] at e1
  refine ⟨[_],rfl,fun bor W ρ Kn Γ w ht hst nm => ?_⟩
  obtain ⟨xs,g1,g2⟩ := k1 bor W ρ Kn Γ w ht hst nm
  refine ⟨xs,g1,fun ρ1 hr => ?_⟩
  have h2 := g2 ρ1 hr
  have e2 : cap.map (Ref.conc ρ) = ((encP 0 nm p x1).1.map refOf).map (Ref.conc ρ1) := by
   rw [refs_conc p hc,← h2,← e1,List.map_map]
   exact List.map_congr_left fun q _ => (ofRef_conc ρ q).symm
  simp only [encP,List.map_cons,List.map_nil,AV.conc,A0.conc,Cell.conc,e2]
 | .mv f agg t,args,x,r,tc,h => by
  simp only [decP] at h
  split at h <;> try (cases h; done)
  rename_i g agg' rs r'
  split at h <;> try (cases h; done)
  rename_i hg
  split at h <;> try (cases h; done)
  rename_i y tc' hd
  cases h
  obtain ⟨rfl,rfl⟩ := hg
  obtain ⟨ys,e,hl,hs⟩ := decT_spec hp t _ _ _ _ hd
  rw [List.append_nil] at e
  refine ⟨[_],rfl,fun bor W ρ Kn Γ w ht hst nm => ?_⟩
  obtain ⟨xs,h1,h2⟩ := encC_start _ _ nm (hs bor W ρ Kn Γ w ht hst)
  refine ⟨xs,h1,fun ρ1 hr => ?_⟩
  have h3 := h2 ρ1 hr
  have e2 : rs.map (Ref.conc ρ) = ((encC 0 nm (t.comps x)).1.map refC).map (Ref.conc ρ1) := by
   rw [refC_conc,h3,← e,List.map_map]
   exact List.map_congr_left fun q _ => (refCell_conc ρ q).symm
  simp only [encP,List.map_cons,List.map_nil,AV.conc,A0.conc,Cell.conc,e2]
 | .pair a b,args,x,r,tc,h => by
  simp only [decP] at h
  split at h <;> try (cases h; done)
  rename_i x1 r1 tc1 f1 h1
  split at h <;> try (cases h; done)
  rename_i x2 r2 tc2 f2 h2
  simp only [Option.some.injEq,Prod.mk.injEq,Bool.and_eq_true] at h
  obtain ⟨rfl,rfl,rfl,rfl,rfl⟩ := h
  obtain ⟨as,e1,k1⟩ := decP_spec a _ _ _ _ h1
  obtain ⟨bs,e2,k2⟩ := decP_spec b _ _ _ _ h2
  refine ⟨as ++ bs,by rw [e1,e2]; simp,fun bor W ρ Kn Γ w ht hst nm => ?_⟩
  obtain ⟨xs,g1,g2⟩ := k1 bor W ρ Kn Γ w (fun m hm => ht m (by simp [hm])) hst nm
  obtain ⟨ys,g3,g4⟩ := k2 bor W ρ Kn Γ w (fun m hm => ht m (by simp [hm])) hst (nm + (encP 0 nm a x1).2.length)
  refine ⟨xs ++ ys,g1.append g3,fun ρ1 hr => ?_⟩
  have hl := g1.length
  simp only [encP,List.map_append]
  rw [g2 ρ1 fun i x hi => hr i x (by rw [List.getElem?_append_left (List.getElem?_eq_some_iff.1 hi).1]; exact hi),g4 ρ1 fun i x hi => by
   have := hr (xs.length + i) x (by rw [List.getElem?_append_right (by omega)]; simpa using hi)
   rwa [← hl,← Nat.add_assoc] at this]
 | .none,args,x,r,tc,h => by
  simp only [decP,Option.some.injEq,Prod.mk.injEq,and_true] at h
  obtain ⟨rfl,rfl,rfl⟩ := h
  exact ⟨[],rfl,fun bor W ρ Kn Γ w ht hst nm => ⟨[],trivial,fun _ _ => rfl⟩⟩
where add_mk' {b off m : Nat} : (⟨b,off,none⟩ : Addr).add m = ⟨b,off + m,none⟩ := by unfold Addr.add; split <;> simp_all
theorem goodRow_row {w : World} {o : AObj} {x : Loc} (h : goodRow w o x) : ∃ u,∃ l : List u.T,o = .row u l 0 := by
 cases o <;> first | exact h.elim | (obtain ⟨rfl,_⟩ := h; exact ⟨_,_,rfl⟩)
theorem St.begin {w : World} {os : List AObj} {xs : List Loc} (h : All2 (goodRow w) os xs) : St noB w (fun n => xs.getD n {}) (· < os.length) (liveAt os) w := by
 have hlive : ∀ n o,liveAt os n = some o → os[n]? = some o := fun n o ho => by
  unfold liveAt at ho
  split at ho
  ·cases ho
  ·exact ho
 have hx : ∀ n o,liveAt os n = some o → goodRow w o (xs.getD n {}) := fun n o ho => by
  obtain ⟨x,h1,h2⟩ := h.get n o (hlive n o ho)
  simpa [h1] using h2
 have hblk : ∀ n,(liveAt os n).isSome = true → (xs.getD n {}).blk = Option.none ∧ (xs.getD n {}).ents = [] := fun n hn => by
  obtain ⟨o,ho⟩ := Option.isSome_iff_exists.1 hn
  have := hx n o ho
  obtain ⟨u,l,rfl⟩ := goodRow_row this
  exact this.2.1
 refine ⟨Fr.refl _ _,fun n o ho => ?_,fun n o ho => ?_,fun n m b hn hm hb => ?_,fun n b hn hb => ?_,fun b ⟨m,S,h1,_⟩ => ?_,fun n o ho => .inr (hblk n (by rw [ho]; rfl)).2⟩
 rotate_right
 ·obtain ⟨u,l,e⟩ := goodRow_row (hx m _ h1)
  cases e
 ·have hg := hx n o ho
  obtain ⟨u,l,rfl⟩ := goodRow_row hg
  obtain ⟨_,h1,h2,h3,h4,vals,h5,h6⟩ := hg
  obtain ⟨e1,e2⟩ := subOf_vals h5
  have hfz : ∀ b,cellsB w b → fzB (fun n => xs.getD n {}) (liveAt os) w b := fun b hb => ⟨hb,by
   rintro (⟨m,g1,g2⟩ | ⟨m,S,g1,_⟩)
   ·exact noHas (hblk m g1) g2
   ·obtain ⟨u,l,e⟩ := goodRow_row (hx m _ g1)
    cases e⟩
  refine ⟨h2,h3,h4,subOf vals,fun i v hv => ?_,fun q u' l' hq => ?_,fun _ => h1.1,fun h => absurd rfl h⟩
  ·rw [e1] at hv
   obtain ⟨a,g1,g2,g3⟩ := h6 i v hv
   exact ⟨a,g1,g2,fun _ => hfz _ g3⟩
  ·exact (e2 q u' l' hq).weak fun b hb => ⟨hfz b hb,fun h => by cases h⟩
 ·obtain ⟨u,l,rfl⟩ := goodRow_row (hx n o ho)
  exact ⟨(List.getElem?_eq_some_iff.1 (hlive n _ ho)).1,trivial⟩
 ·exact (noHas (hblk n hn) hb).elim
 ·exact (noHas (hblk n hn) hb).elim
end Go.Ev
