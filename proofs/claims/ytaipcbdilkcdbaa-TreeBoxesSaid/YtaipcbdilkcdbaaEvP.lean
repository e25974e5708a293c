/- Functions that hand back what is only read. -/
import Derived.Test.YtaipcbdilkcdbaaEvO
noncomputable section
set_option linter.unusedSectionVars false
set_option linter.unusedVariables false
set_option linter.unusedSimpArgs false
namespace Go.Ev
open Go.RowKit

def ownedN (hp : HP) (n:Nat) : Bool := match hp n with
 | some (.row _ _ rk) => rk != 0
 | some (.alias _ _ _) => true
 | some (.cells _ _) => true
 | _ => false
def movedN (hp : HP) : List Nat → List Nat
 | [] => []
 | n :: r => if ownedN hp n then n :: movedN hp r else movedN hp r
def fnSpecR (s : FnS) : Spec := fun _ args hp nm k => match decP hp s.p args with
 | some (x,[],tc,b) => ob b (s.pre x ∧ ∀ y,y = s.f x → k { val := resV (encP 0 nm s.r y).1,fresh := (encP 0 nm s.r y).2,writes := (movedN hp tc).map fun n => (n,.gone),touch := tc })
 | _ => False
def decRo (hp : HP) : (p : Par) → List A0 → Option (p.ty.T × List A0)
 | .one t,l => match l with
  | .one c :: r => match decT hp t [c] with
   | some (y,[],_) => some (y,r)
   | _ => none
  | _ => none
 | .agg t,l => match l with
  | .agg cs :: r => match decT hp t cs with
   | some (y,[],_) => some (y,r)
   | _ => none
  | _ => none
 | .ptr _,_ => none
 | .clo _ _,_ => none
 | .mv _ _ _,_ => none
 | .pair a b,l => match decRo hp a l with
  | some (x,r) => match decRo hp b r with
   | some (y,r') => some ((x,y),r')
   | none => none
  | none => none
 | .none,l => some (false,l)
def hideIn (S : Nat → Prop) (K : Prop) : List AObj → Prop
 | [] => False
 | o :: r => match o with
  | .hide S' => S' = S ∧ K
  | _ => hideIn S K r
def retRo (r : Par) (S : Nat → Prop) (Q : r.ty.T → Prop) (v : AV) (st : AS) : Prop := match partsV v with
 | some l => match decRo (liveAt st.heap) r l with
  | some (y,[]) => hideIn S (Q y) st.heap
  | _ => False
 | none => False
theorem hideIn_spec {S : Nat → Prop} {K : Prop} : ∀ {h : List AObj},hideIn S K h → K ∧ ∃ n,liveAt h n = some (.hide S)
 | [],h => h.elim
 | o :: r,h => by
  have main : hideIn S K r → K ∧ ∃ n,liveAt (o :: r) n = some (.hide S) := fun h => by
   obtain ⟨h1,n,h2⟩ := hideIn_spec h
   exact ⟨h1,n + 1,by simpa [liveAt] using h2⟩
  cases o with
  | hide S' => obtain ⟨rfl,h⟩ := h; exact ⟨h,0,by simp [liveAt]⟩
  | _ => exact main h

def goodRowO (ok : Nat → Prop) (w : World) : AObj → Loc → Prop
 | .row u l rk,x => rk = 0 ∧ x.blk = none ∧ x.len = l.length ∧ x.es = u.size ∧ l.length ≤ x.cap ∧ RowAt w ok x.base u l
 | _,_ => False
theorem encC_startO {ok : Nat → Prop} {w : World} : ∀ (cs : List Comp) (vals : List Value) (nm:Nat),All2 (TopC w ok) cs vals →
  ∃ xs,All2 (goodRowO ok w) (encC 0 nm cs).2 xs ∧ ∀ ρ1 : Env,(∀ i x,xs[i]? = some x → ρ1 (nm + i) = x) → (encC 0 nm cs).1.map (Cell.conc ρ1) = vals
 | [],[],nm,_ => ⟨[],trivial,fun _ _ => rfl⟩
 | [],_ :: _,_,h => h.elim
 | _ :: _,[],_,h => h.elim
 | .flat v :: r,v' :: vr,nm,h => by
  obtain ⟨xs,h1,h2⟩ := encC_startO r vr nm h.2
  refine ⟨xs,h1,fun ρ1 hr => ?_⟩
  have := h2 ρ1 hr
  have hv : v' = v := h.1
  simp only [encC,List.map_cons,this,hv]; rfl
 | .sl u l :: r,v' :: vr,nm,h => by
  obtain ⟨xs,h1,h2⟩ := encC_startO r vr (nm + 1) h.2
  obtain ⟨a,c,hv,hc,hr⟩ := h.1
  refine ⟨{ blk := none,base := a,len := l.length,cap := c,es := u.size } :: xs,⟨⟨rfl,rfl,rfl,rfl,hc,hr⟩,h1⟩,fun ρ1 hr => ?_⟩
  have := h2 ρ1 fun i x hi => by
   have := hr (i + 1) x (by simpa using hi)
   rwa [show nm + (i + 1) = nm + 1 + i by omega] at this
  have h0 := hr 0 _ rfl
  rw [Nat.add_zero] at h0
  simp only [encC,List.map_cons,this,hv,Cell.conc,h0]
theorem decP_specO {hp : HP} : ∀ (p : Par) (args : List AV) (x : p.ty.T) (r : List AV) (tc : List Nat),decP hp p args = some (x,r,tc,true) →
  ∃ as,args = as ++ r ∧ ∀ bor W ρ Kn Γ w,(∀ m ∈ tc,Γ m = hp m) → St bor W ρ Kn Γ w → ∀ ok,OkFor ok ρ Γ w tc → ∀ nm,∃ xs,All2 (goodRowO ok w) (encP 0 nm p x).2 xs ∧
   ∀ ρ1 : Env,(∀ i x,xs[i]? = some x → ρ1 (nm + i) = x) → as.map (AV.conc ρ) = (encP 0 nm p x).1.map (A0.conc ρ1)
 | .one t,args,x,r,tc,h => by
  simp only [decP] at h
  split at h <;> try (cases h; done)
  rename_i c r'
  split at h <;> try (cases h; done)
  rename_i y tc' hd
  cases h
  obtain ⟨ys,e,hl,hs⟩ := decT_specO hp t _ _ _ _ hd
  rw [List.append_nil] at e
  subst e
  refine ⟨[_],rfl,fun bor W ρ Kn Γ w ht hst ok hok nm => ?_⟩
  obtain ⟨xs,h1,h2⟩ := encC_startO _ _ nm (hs bor W ρ Kn Γ w ht hst ok hok)
  refine ⟨xs,h1,fun ρ1 hr => ?_⟩
  have := h2 ρ1 hr
  simp only [encP,List.map_cons,List.map_nil]
  simp only [List.map_cons,List.map_nil] at this
  obtain ⟨c',hc',e⟩ : ∃ c',(encC 0 nm (t.comps x)).1 = [c'] ∧ c'.conc ρ1 = c.conc ρ := by
   match hm : (encC 0 nm (t.comps x)).1,this with
   | [c'],h => simp only [List.map_cons,List.map_nil,List.cons.injEq,and_true] at h; exact ⟨c',rfl,h⟩
   | [],h => simp at h
   | _ :: _ :: _,h => simp at h
  rw [hc']
  simp only [encA,AV.conc,A0.conc,e]
 | .agg t,args,x,r,tc,h => by
  simp only [decP] at h
  split at h <;> try (cases h; done)
  rename_i cs r'
  split at h <;> try (cases h; done)
  rename_i y tc' hd
  cases h
  obtain ⟨ys,e,hl,hs⟩ := decT_specO hp t _ _ _ _ hd
  rw [List.append_nil] at e
  subst e
  refine ⟨[_],rfl,fun bor W ρ Kn Γ w ht hst ok hok nm => ?_⟩
  obtain ⟨xs,h1,h2⟩ := encC_startO _ _ nm (hs bor W ρ Kn Γ w ht hst ok hok)
  refine ⟨xs,h1,fun ρ1 hr => ?_⟩
  have := h2 ρ1 hr
  simp only [encP,encA,List.map_cons,List.map_nil,AV.conc,A0.conc,this]
 | .ptr t,args,x,r,tc,h => by
  simp only [decP] at h
  split at h
  ·rename_i n off r'
   split at h <;> try (cases h; done)
   rename_i cs e he
   split at h <;> try (cases h; done)
   rename_i y tc' hd
   split at h <;> try (cases h; done)
   rename_i hsh
   cases h
   obtain ⟨ys,e1,hl,hs⟩ := decT_specO hp t _ _ _ _ hd
   rw [List.append_nil] at e1
   refine ⟨[_],rfl,fun bor W ρ Kn Γ w ht hst ok hok nm => ?_⟩
   have hall := top_nest t x _ hsh (hs bor W ρ Kn Γ w (fun m hm => ht m (by simp [hm])) hst ok (hok.sub fun m hm => by simp [hm]))
   obtain ⟨b,hb,hh⟩ := hst.at_ n _ (by rw [ht n (by simp),he])
   refine ⟨[{ blk := none,base := addrOf ρ n off,len := 1,cap := 1,es := t.size }],⟨⟨rfl,rfl,rfl,rfl,by simp,ys.map (Cell.conc ρ),?_,fun i v hv => ?_⟩,trivial⟩,fun ρ1 hr => ?_⟩
   ·simpa [rowComps] using hall
   ·refine ⟨⟨b,off,none⟩,by simp [addrOf,hb],?_,?_⟩
    ·rw [add_mk',cell_of_heap (by simpa using hh)]
     rw [← e1,List.map_take,List.map_drop,List.getElem?_take] at hv
     split at hv
     ·rwa [List.getElem?_drop] at hv
     ·cases hv
    ·exact hok.2 n (by simp) (by rw [ht n (by simp),he]; rfl) b hb ⟨_,_,_,hh⟩
   ·have h0 := hr 0 _ rfl
    rw [Nat.add_zero] at h0
    simp only [encP,List.map_cons,List.map_nil,AV.conc,A0.conc,Cell.conc,h0]
    cases addrOf ρ n off <;> simp [add_zero']
  ·rename_i n j r'
   split at h <;> try (cases h; done)
   rename_i u l rk he
   split at h <;> try (cases h; done)
   rename_i l' hl'
   simp only [Option.some.injEq,Prod.mk.injEq,decide_eq_true_eq] at h
   obtain ⟨rfl,rfl,rfl,hj⟩ := h
   obtain ⟨e,e2⟩ := castL_eq hl'
   subst e
   dsimp only at e2
   subst e2
   refine ⟨[_],rfl,fun bor W ρ Kn Γ w ht hst ok hok nm => ?_⟩
   have hΓ : Γ n = some (.row u l rk) := by rw [ht n (by simp),he]
   have hra := hst.rowAtO hΓ hok (by simp)
   have hes : (ρ n).es = u.size := (hst.at_ n _ hΓ).2.1
   have hp := hra.part (a' := (ρ n).base.map (·.add (j * u.size))) j (some 1) fun _ => rfl
   have hpl : partL l j (some 1) = [gd u l j] := by
    simp only [partL,gd,List.getD_eq_getElem?_getD,List.getElem?_eq_getElem hj,Option.getD_some]
    rw [List.drop_eq_getElem_cons hj]; rfl
   rw [hpl] at hp
   refine ⟨[{ blk := none,base := (ρ n).base.map (·.add (j * u.size)),len := 1,cap := 1,es := u.size }],⟨⟨rfl,rfl,rfl,rfl,by simp,hp⟩,trivial⟩,fun ρ1 hr => ?_⟩
   have h0 := hr 0 _ rfl
   rw [Nat.add_zero] at h0
   simp only [encP,List.map_cons,List.map_nil,AV.conc,A0.conc,Cell.conc,h0,hes]
   cases (ρ n).base <;> simp [add_zero']
  ·cases h
 | .clo f p,args,x,r,tc,h => by
  simp only [decP] at h
  split at h <;> try (cases h; done)
  rename_i g cap r'
  split at h <;> try (cases h; done)
  rename_i hg
  split at h <;> try (cases h; done)
  rename_i x1 tc1 b1 h1
  simp only [Option.some.injEq,Prod.mk.injEq,Bool.and_eq_true] at h
  obtain ⟨rfl,rfl,rfl,hc,rfl⟩ := h
  subst hg
  obtain ⟨as,e1,k1⟩ := decP_specO p _ _ _ _ h1
  rw [List.append_nil] at e1
  refine ⟨[_],rfl,fun bor W ρ Kn Γ w ht hst ok hok nm => ?_⟩
  obtain ⟨xs,g1,g2⟩ := k1 bor W ρ Kn Γ w ht hst ok hok nm
  refine ⟨xs,g1,fun ρ1 hr => ?_⟩
  have h2 := g2 ρ1 hr
  have e2 : cap.map (Ref.conc ρ) = ((encP 0 nm p x1).1.map refOf).map (Ref.conc ρ1) := by
   rw [refs_conc p hc,← h2,← e1,List.map_map]
   exact List.map_congr_left fun q _ => (ofRef_conc ρ q).symm
  simp only [encP,List.map_cons,List.map_nil,AV.conc,A0.conc,Cell.conc,e2]
 | .mv f agg t,args,x,r,tc,h => by
  simp only [decP] at h
  split at h <;> try (cases h; done)
  rename_i g agg' rs r'
  split at h <;> try (cases h; done)
  rename_i hg
  split at h <;> try (cases h; done)
  rename_i y tc' hd
  cases h
  obtain ⟨rfl,rfl⟩ := hg
  obtain ⟨ys,e,hl,hs⟩ := decT_specO hp t _ _ _ _ hd
  rw [List.append_nil] at e
  refine ⟨[_],rfl,fun bor W ρ Kn Γ w ht hst ok hok nm => ?_⟩
  obtain ⟨xs,h1,h2⟩ := encC_startO _ _ nm (hs bor W ρ Kn Γ w ht hst ok hok)
  refine ⟨xs,h1,fun ρ1 hr => ?_⟩
  have h3 := h2 ρ1 hr
  have e2 : rs.map (Ref.conc ρ) = ((encC 0 nm (t.comps x)).1.map refC).map (Ref.conc ρ1) := by
   rw [refC_conc,h3,← e,List.map_map]
   exact List.map_congr_left fun q _ => (refCell_conc ρ q).symm
  simp only [encP,List.map_cons,List.map_nil,AV.conc,A0.conc,Cell.conc,e2]
 | .pair a b,args,x,r,tc,h => by
  simp only [decP] at h
  split at h <;> try (cases h; done)
  rename_i x1 r1 tc1 f1 h1
  split at h <;> try (cases h; done)
  rename_i x2 r2 tc2 f2 h2
  simp only [Option.some.injEq,Prod.mk.injEq,Bool.and_eq_true] at h
  obtain ⟨rfl,rfl,rfl,rfl,rfl⟩ := h
  obtain ⟨as,e1,k1⟩ := decP_specO a _ _ _ _ h1
  obtain ⟨bs,e2,k2⟩ := decP_specO b _ _ _ _ h2
  refine ⟨as ++ bs,by rw [e1,e2]; simp,fun bor W ρ Kn Γ w ht hst ok hok nm => ?_⟩
  obtain ⟨xs,g1,g2⟩ := k1 bor W ρ Kn Γ w (fun m hm => ht m (by simp [hm])) hst ok (hok.sub fun m hm => by simp [hm]) nm
  obtain ⟨ys,g3,g4⟩ := k2 bor W ρ Kn Γ w (fun m hm => ht m (by simp [hm])) hst ok (hok.sub fun m hm => by simp [hm]) (nm + (encP 0 nm a x1).2.length)
  refine ⟨xs ++ ys,g1.append g3,fun ρ1 hr => ?_⟩
  have hl := g1.length
  simp only [encP,List.map_append]
  rw [g2 ρ1 fun i x hi => hr i x (by rw [List.getElem?_append_left (List.getElem?_eq_some_iff.1 hi).1]; exact hi),g4 ρ1 fun i x hi => by
   have := hr (xs.length + i) x (by rw [List.getElem?_append_right (by omega)]; simpa using hi)
   rwa [← hl,← Nat.add_assoc] at this]
 | .none,args,x,r,tc,h => by
  simp only [decP,Option.some.injEq,Prod.mk.injEq,and_true] at h
  obtain ⟨rfl,rfl,rfl⟩ := h
  exact ⟨[],rfl,fun bor W ρ Kn Γ w ht hst ok hok nm => ⟨[],trivial,fun _ _ => rfl⟩⟩
where add_mk' {b off m : Nat} : (⟨b,off,none⟩ : Addr).add m = ⟨b,off + m,none⟩ := by unfold Addr.add; split <;> simp_all

theorem goodRowO_row {ok : Nat → Prop} {w : World} {o : AObj} {x : Loc} (h : goodRowO ok w o x) : ∃ u,∃ l : List u.T,o = .row u l 0 := by
 cases o <;> first | exact h.elim | (obtain ⟨rfl,_⟩ := h; exact ⟨_,_,rfl⟩)
theorem liveAt_some {h : List AObj} {n : Nat} {o : AObj} (ho : liveAt h n = some o) : h[n]? = some o := by
 unfold liveAt at ho
 split at ho
 ·cases ho
 ·exact ho
theorem St.beginO {ok S : Nat → Prop} {w : World} {os : List AObj} {xs : List Loc} (h : All2 (goodRowO ok w) os xs) (hok : ∀ b,ok b → cellsB w b ∧ ¬ S b) (hS : ∀ b,S b → b < w.heap.size) :
  St noB w (fun n => xs.getD n {}) (· < (os ++ [AObj.hide S]).length) (liveAt (os ++ [AObj.hide S])) w := by
 have hl := h.length
 have hx : ∀ n o,liveAt (os ++ [AObj.hide S]) n = some o → (goodRowO ok w o (xs.getD n {}) ∧ n < os.length) ∨ (n = os.length ∧ o = .hide S) := fun n o ho => by
  have h1 := liveAt_some ho
  rcases Nat.lt_or_ge n os.length with h2 | h2
  ·rw [List.getElem?_append_left h2] at h1
   obtain ⟨x,h3,h4⟩ := h.get n o h1
   exact .inl ⟨by simpa [h3] using h4,h2⟩
  ·rw [List.getElem?_append_right h2] at h1
   have : n - os.length = 0 := by
    rcases Nat.eq_zero_or_pos (n - os.length) with h3 | h3
    ·exact h3
    ·rw [List.getElem?_eq_none (by simp; omega)] at h1; cases h1
   rw [this] at h1
   simp only [List.getElem?_cons_zero,Option.some.injEq] at h1
   exact .inr ⟨by omega,h1.symm⟩
 have hblk : ∀ n,(liveAt (os ++ [AObj.hide S]) n).isSome = true → (xs.getD n {}).blk = Option.none := fun n hn => by
  obtain ⟨o,ho⟩ := Option.isSome_iff_exists.1 hn
  rcases hx n o ho with ⟨h1,_⟩ | ⟨rfl,_⟩
  ·obtain ⟨u,l,rfl⟩ := goodRowO_row h1
   exact h1.2.1
  ·simp [List.getD,List.getElem?_eq_none (show xs.length ≤ os.length by omega)]
 refine ⟨Fr.refl _ _,fun n o ho => ?_,fun n o ho => ?_,fun n m b hn hm hb => ?_,fun n b hn hb => ?_,fun b ⟨m,S',h1,h2⟩ => ?_⟩
 rotate_right
 ·rcases hx m _ h1 with ⟨h3,_⟩ | ⟨_,e⟩
  ·obtain ⟨u,l,e⟩ := goodRowO_row h3
   cases e
  ·cases e
   refine ⟨hS b h2,?_⟩
   rintro ⟨n,h3,h4⟩
   rw [hblk n h3] at h4; cases h4
 ·rcases hx n o ho with ⟨hg,_⟩ | ⟨rfl,rfl⟩
  ·obtain ⟨u,l,rfl⟩ := goodRowO_row hg
   obtain ⟨_,h1,h2,h3,h4,vals,h5,h6⟩ := hg
   obtain ⟨e1,e2⟩ := subOf_vals h5
   have hfz : ∀ b,ok b → fzB (fun n => xs.getD n {}) (liveAt (os ++ [AObj.hide S])) w b := fun b hb => ⟨(hok b hb).1,by
    rintro (⟨m,g1,g2⟩ | ⟨m,S',g1,g2⟩)
    ·rw [hblk m g1] at g2; cases g2
    ·rcases hx m _ g1 with ⟨g3,_⟩ | ⟨_,e⟩
     ·obtain ⟨u,l,e⟩ := goodRowO_row g3
      cases e
     ·cases e; exact (hok b hb).2 g2⟩
   refine ⟨h2,h3,h4,subOf vals,fun i v hv => ?_,fun q u' l' hq => ?_,fun _ => h1,fun h => absurd rfl h⟩
   ·rw [e1] at hv
    obtain ⟨a,g1,g2,g3⟩ := h6 i v hv
    exact ⟨a,g1,g2,fun _ => hfz _ g3⟩
   ·exact (e2 q u' l' hq).weak fun b hb => ⟨hfz b hb,fun h => by cases h⟩
  ·exact hblk _ (by rw [ho]; rfl)
 ·rcases hx n o ho with ⟨hg,hlt⟩ | ⟨rfl,rfl⟩
  ·obtain ⟨u,l,rfl⟩ := goodRowO_row hg
   exact ⟨by simp; omega,trivial⟩
  ·exact ⟨by simp,trivial⟩
 ·rw [hblk n hn] at hb; cases hb
 ·rw [hblk n hn] at hb; cases hb

theorem decRo_spec {h : List AObj} : ∀ (p : Par) (l : List A0) (y : p.ty.T) (r : List A0),decRo (liveAt h) p l = some (y,r) →
  ∃ ys,l = ys ++ r ∧ ∀ bor W ρ Kn w,St bor W ρ Kn (liveAt h) w → ∀ ok,(∀ b,fzB ρ (liveAt h) w b → ok b) → (∀ m,(liveAt h m).isSome = true → ∀ b,(ρ m).blk = some b → cellsB w b → ok b) → ∀ nm,∃ xs,All2 (goodRowO ok w) (encP 0 nm p y).2 xs ∧
   ∀ ρ1 : Env,(∀ i x,xs[i]? = some x → ρ1 (nm + i) = x) → ys.map (A0.conc ρ) = (encP 0 nm p y).1.map (A0.conc ρ1)
 | .one t,l,y,r,hd => by
  simp only [decRo] at hd
  split at hd <;> try (cases hd; done)
  rename_i c r1
  split at hd <;> try (cases hd; done)
  rename_i x tc h1
  cases hd
  obtain ⟨ys,e,hl,hs⟩ := decT_specO _ t _ _ _ _ h1
  rw [List.append_nil] at e
  subst e
  refine ⟨[_],rfl,fun bor W ρ Kn w hst ok hf ho nm => ?_⟩
  obtain ⟨xs,g1,g2⟩ := encC_startO (ok := ok) _ _ nm (hs bor W ρ Kn _ w (fun _ _ => rfl) hst ok ⟨hf,fun m _ => ho m⟩)
  refine ⟨xs,g1,fun ρ1 hr => ?_⟩
  have := g2 ρ1 hr
  simp only [encP,List.map_cons,List.map_nil]
  simp only [List.map_cons,List.map_nil] at this
  obtain ⟨c',hc',e⟩ : ∃ c',(encC 0 nm (t.comps y)).1 = [c'] ∧ c'.conc ρ1 = c.conc ρ := by
   match hm : (encC 0 nm (t.comps y)).1,this with
   | [c'],h => simp only [List.map_cons,List.map_nil,List.cons.injEq,and_true] at h; exact ⟨c',rfl,h⟩
   | [],h => simp at h
   | _ :: _ :: _,h => simp at h
  rw [hc']
  simp only [encA,A0.conc,e]
 | .agg t,l,y,r,hd => by
  simp only [decRo] at hd
  split at hd <;> try (cases hd; done)
  rename_i cs r1
  split at hd <;> try (cases hd; done)
  rename_i x tc h1
  cases hd
  obtain ⟨ys,e,hl,hs⟩ := decT_specO _ t _ _ _ _ h1
  rw [List.append_nil] at e
  subst e
  refine ⟨[_],rfl,fun bor W ρ Kn w hst ok hf ho nm => ?_⟩
  obtain ⟨xs,g1,g2⟩ := encC_startO (ok := ok) _ _ nm (hs bor W ρ Kn _ w (fun _ _ => rfl) hst ok ⟨hf,fun m _ => ho m⟩)
  refine ⟨xs,g1,fun ρ1 hr => ?_⟩
  have := g2 ρ1 hr
  simp only [encP,encA,List.map_cons,List.map_nil,A0.conc,this]
 | .ptr t,l,y,r,hd => by simp [decRo] at hd
 | .clo f p,l,y,r,hd => by simp [decRo] at hd
 | .mv f agg t,l,y,r,hd => by simp [decRo] at hd
 | .pair a b,l,y,r,hd => by
  simp only [decRo] at hd
  split at hd <;> try (cases hd; done)
  rename_i x1 r1 h1
  split at hd <;> try (cases hd; done)
  rename_i x2 r2 h2
  cases hd
  obtain ⟨ys,e1,k1⟩ := decRo_spec a _ _ _ h1
  obtain ⟨zs,e2,k2⟩ := decRo_spec b _ _ _ h2
  refine ⟨ys ++ zs,by rw [e1,e2]; simp,fun bor W ρ Kn w hst ok hf ho nm => ?_⟩
  obtain ⟨xs,g1,g2⟩ := k1 bor W ρ Kn w hst ok hf ho nm
  obtain ⟨us,g3,g4⟩ := k2 bor W ρ Kn w hst ok hf ho (nm + (encP 0 nm a x1).2.length)
  refine ⟨xs ++ us,g1.append g3,fun ρ1 hr => ?_⟩
  have hl := g1.length
  simp only [encP,List.map_append]
  rw [g2 ρ1 fun i x hi => hr i x (by rw [List.getElem?_append_left (List.getElem?_eq_some_iff.1 hi).1]; exact hi),g4 ρ1 fun i x hi => by
   have := hr (xs.length + i) x (by rw [List.getElem?_append_right (by omega)]; simpa using hi)
   rwa [← hl,← Nat.add_assoc] at this]
 | .none,l,y,r,hd => by
  simp only [decRo,Option.some.injEq,Prod.mk.injEq] at hd
  obtain ⟨rfl,rfl⟩ := hd
  exact ⟨[],rfl,fun bor W ρ Kn w hst ok hf ho nm => ⟨[],trivial,fun _ _ => rfl⟩⟩

theorem St.addRows {bor : Bor} {W w : World} {ρ : Env} {Kn : Nat → Prop} {Γ : HP} {ok : Nat → Prop} {nm : Nat} {os : List AObj} {xs : List Loc} {v : AV} {tc G : List Nat} (h : St bor W ρ Kn Γ w) (hn : ∀ i,i < os.length → ¬ Kn (nm + i)) (hg : All2 (goodRowO ok w) os xs)
  (hok : ∀ b,ok b → cellsB w b ∧ ¬ HI Γ b ∧ ∀ m,m ∉ G → (Γ m).isSome = true → (ρ m).blk ≠ some b) :
  ∃ ρ',(∀ m,Kn m → ρ' m = ρ m) ∧ (∀ i x,xs[i]? = some x → ρ' (nm + i) = x) ∧ St bor W ρ' (knR Kn nm { val := v,fresh := os,writes := G.map fun n => (n,.gone),touch := tc }) (appH { val := v,fresh := os,writes := G.map fun n => (n,.gone),touch := tc } nm Γ) w := by
 have hlen := hg.length
 let ρ' : Env := fun m => if nm ≤ m ∧ m < nm + os.length then xs.getD (m - nm) {} else ρ m
 have hold : ∀ m,Kn m → ρ' m = ρ m := fun m hm => by
  simp only [ρ']
  rw [if_neg]
  rintro ⟨h2,h3⟩
  exact hn (m - nm) (by omega) (by rw [show nm + (m - nm) = m by omega]; exact hm)
 have hnew : ∀ i x,xs[i]? = some x → ρ' (nm + i) = x := fun i x hi => by
  have := (List.getElem?_eq_some_iff.1 hi).1
  simp only [ρ']
  rw [if_pos (by omega),show nm + i - nm = i by omega]
  simp [hi]
 have hΓ : ∀ m o,appH { val := v,fresh := os,writes := G.map fun n => (n,.gone),touch := tc } nm Γ m = some o → (∃ i x,m = nm + i ∧ i < os.length ∧ xs[i]? = some x ∧ goodRowO ok w o x) ∨ (Γ m = some o ∧ m ∉ G ∧ Kn m) := by
  intro m o ho
  simp only [appH] at ho
  split at ho
  ·rename_i hc
   have hlt : m - nm < os.length := by omega
   rw [List.getElem?_eq_getElem hlt] at ho
   obtain ⟨x,h1,h2⟩ := hg.get (m - nm) _ (List.getElem?_eq_getElem hlt)
   obtain ⟨u,l,e⟩ := goodRowO_row h2
   rw [e] at ho h2
   simp only [live,Option.some.injEq] at ho
   subst ho
   exact .inl ⟨m - nm,x,by omega,hlt,h1,h2⟩
  ·rw [lastW_gone] at ho
   by_cases hm : m ∈ G
   ·rw [if_pos hm] at ho; simp [live] at ho
   ·rw [if_neg hm] at ho
    exact .inr ⟨ho,hm,(h.kn m o ho).1⟩
 have hblk : ∀ m b,(appH { val := v,fresh := os,writes := G.map fun n => (n,.gone),touch := tc } nm Γ m).isSome = true → (ρ' m).blk = some b → (Γ m).isSome = true ∧ m ∉ G ∧ (ρ m).blk = some b := fun m b h1 h2 => by
  obtain ⟨o,ho⟩ := Option.isSome_iff_exists.1 h1
  rcases hΓ m o ho with ⟨i,x,rfl,_,h3,h4⟩ | ⟨h3,h4,h5⟩
  ·rw [hnew i x h3] at h2
   obtain ⟨u,l,rfl⟩ := goodRowO_row h4
   rw [h4.2.1] at h2; cases h2
  ·rw [hold m h5] at h2
   exact ⟨by rw [h3]; rfl,h4,h2⟩
 have hHI : ∀ b,HI (appH { val := v,fresh := os,writes := G.map fun n => (n,.gone),touch := tc } nm Γ) b → HI Γ b := fun b ⟨m,S,h1,h2⟩ => by
  rcases hΓ m _ h1 with ⟨i,x,_,_,_,h4⟩ | ⟨h3,_,_⟩
  ·obtain ⟨u,l,e⟩ := goodRowO_row h4
   cases e
  ·exact ⟨m,S,h3,h2⟩
 have hfz : ∀ b,fzB ρ Γ w b → fzB ρ' (appH { val := v,fresh := os,writes := G.map fun n => (n,.gone),touch := tc } nm Γ) w b ∧ w.heap[b]? = w.heap[b]? := fun b hb => by
  refine ⟨⟨hb.1,?_⟩,rfl⟩
  rintro (⟨m,h1,h2⟩ | hh)
  ·obtain ⟨h3,_,h4⟩ := hblk m b h1 h2
   exact hb.2 (.inl ⟨m,h3,h4⟩)
  ·exact hb.2 (.inr (hHI b hh))
 have hfz2 : ∀ b,ok b → fzB ρ' (appH { val := v,fresh := os,writes := G.map fun n => (n,.gone),touch := tc } nm Γ) w b := fun b hb => by
  obtain ⟨k1,k2,k3⟩ := hok b hb
  refine ⟨k1,?_⟩
  rintro (⟨m,h1,h2⟩ | hh)
  ·obtain ⟨h3,h4,h5⟩ := hblk m b h1 h2
   exact k3 m h4 h3 h5
  ·exact k2 (hHI b hh)
 refine ⟨ρ',hold,hnew,h.fr,fun m o ho => ?_,fun m o ho => ?_,fun m m' b hm hm' hb1 hb2 => ?_,fun m b hm hb => ?_,fun b hh => ?_⟩
 ·rcases hΓ m o ho with ⟨i,x,rfl,hi,h3,h4⟩ | ⟨h3,_,h5⟩
  ·obtain ⟨u,l,rfl⟩ := goodRowO_row h4
   obtain ⟨_,g1,g2,g3,g4,vals,g5,g6⟩ := h4
   obtain ⟨e1,e2⟩ := subOf_vals g5
   rw [objAt,hnew i x h3]
   refine ⟨g2,g3,g4,subOf vals,fun i v hv => ?_,fun q u' l' hq => ?_,fun _ => g1,fun h => absurd rfl h⟩
   ·rw [e1] at hv
    obtain ⟨a,k1,k2,k3⟩ := g6 i v hv
    exact ⟨a,k1,k2,fun _ => hfz2 _ k3⟩
   ·exact (e2 q u' l' hq).weak fun b hb => ⟨hfz2 b hb,fun h => by cases h⟩
  ·exact objAt_keep (Kn := Kn) (h.at_ m o h3) hold h5 (h.kn m o h3).2 hfz (fun _ _ h => h) fun _ _ => rfl
 ·rcases hΓ m o ho with ⟨i,x,rfl,hi,h3,h4⟩ | ⟨h3,_,h5⟩
  ·obtain ⟨u,l,rfl⟩ := goodRowO_row h4
   exact ⟨.inr (by simp only []; omega),trivial⟩
  ·exact ⟨.inl h5,AObj.ok_mono (fun _ => .inl) o (h.kn m o h3).2⟩
 ·obtain ⟨h1,_,h2⟩ := hblk m b hm hb1
  obtain ⟨h3,_,h4⟩ := hblk m' b hm' hb2
  exact h.inj m m' b h1 h3 h2 h4
 ·obtain ⟨h1,_,h2⟩ := hblk m b hm hb
  exact h.own m b h1 h2
 ·obtain ⟨h1,h2⟩ := h.hid b (hHI b hh)
  refine ⟨h1,?_⟩
  rintro ⟨m,h3,h4⟩
  obtain ⟨h5,_,h6⟩ := hblk m b h3 h4
  exact h2 ⟨m,h5,h6⟩
theorem partsV_res {v : AV} {l : List A0} (h : partsV v = some l) : resV l = v := by
 cases v with
 | v a => simp only [partsV,Option.some.injEq] at h; subst h; rfl
 | tup l' =>
  simp only [partsV] at h
  split at h
  ·cases h
  ·rename_i hne
   cases h
   match l,hne with
   | [],_ => rfl
   | [a],hne => exact absurd rfl (hne a)
   | _ :: _ :: _,_ => rfl
 | dead => simp [partsV] at h
theorem mem_moved {hp : HP} : ∀ {l : List Nat} {n : Nat},n ∈ movedN hp l ↔ n ∈ l ∧ ownedN hp n = true
 | [],n => by simp [movedN]
 | m :: r,n => by
  simp only [movedN]
  split
  ·rename_i h
   simp only [List.mem_cons,mem_moved (l := r)]
   constructor
   ·rintro (rfl | ⟨h1,h2⟩)
    ·exact ⟨.inl rfl,h⟩
    ·exact ⟨.inr h1,h2⟩
   ·rintro ⟨rfl | h1,h2⟩
    ·exact .inl rfl
    ·exact .inr ⟨h1,h2⟩
  ·rename_i h
   simp only [List.mem_cons,mem_moved (l := r)]
   constructor
   ·rintro ⟨h1,h2⟩; exact ⟨.inr h1,h2⟩
   ·rintro ⟨rfl | h1,h2⟩
    ·exact absurd h2 h
    ·exact ⟨h1,h2⟩
section
variable {P : Program} {tt : List (Nat × TI)} {specs : List (Nat × Spec)}
theorem SpecOk.fnR (hT : TOk P tt) (hS : SpecsOk P specs) (hm : P.follows .mixedOrders = true) {f : FuncId} {fn : Func} (hf : P.funcs[f]? = some fn) (hn : nodupB (ids (bodyOf fn)) = true) (p r : Par) (pre : p.ty.T → Prop) (g : p.ty.T → r.ty.T)
  (h : ∀ x,pre x → ∀ S,∃ lp its,ItsOk P noX its ∧ LpsOk P noX (bodyOf fn) lp ∧ Vc (fnE ⟨tt,specs,noX,lp,[],its⟩ fn (argsE p x) (heapE p x ++ [.hide S]) (retRo r S (· = g x)))) : SpecOk P f (fnSpecR ⟨p,r,pre,g⟩) := by
 intro X args hp nm k hs
 unfold fnSpecR at hs
 split at hs
 rotate_left
 ·exact hs.elim
 rename_i x tc b hd
 obtain ⟨rfl,hpre,hk⟩ := ob_spec hs
 have hk := hk _ rfl
 obtain ⟨as,e,hargs⟩ := decP_specO p _ _ _ _ hd
 rw [List.append_nil] at e
 subst e
 refine ⟨_,⟨fun q hq => ?_,?_⟩,hk⟩
 ·obtain ⟨n,hn1,rfl⟩ := List.mem_map.1 hq
  have := (mem_moved.1 hn1).2
  unfold ownedN at this
  intro h0
  simp only [h0] at this
  cases this
 intro bor W ρ Kn Γ w _ _ ht hfr hst
 obtain ⟨S,hSd⟩ : ∃ S : Nat → Prop,S = fun b => HI Γ b ∨ ∃ m,m ∉ movedN hp tc ∧ (Γ m).isSome = true ∧ (ρ m).blk = some b := ⟨_,rfl⟩
 have hSlt : ∀ b,S b → b < w.heap.size := fun b hb => by
  rw [hSd] at hb
  rcases hb with hb | ⟨m,_,h1,h2⟩
  ·exact (hst.hid b hb).1
  ·obtain ⟨o,ho⟩ := Option.isSome_iff_exists.1 h1
   exact objAt_lt (hst.at_ m o ho) h2
 have hok : OkFor (fun b => cellsB w b ∧ ¬ S b) ρ Γ w tc := by
  refine ⟨fun b hb => ⟨hb.1,fun hs => ?_⟩,fun m hm h1 b hb hc => ⟨hc,fun hs => ?_⟩⟩
  ·rw [hSd] at hs
   rcases hs with hs | ⟨m,_,h1,h2⟩
   ·exact hb.2 (.inr hs)
   ·exact hb.2 (.inl ⟨m,h1,h2⟩)
  ·rw [hSd] at hs
   rcases hs with hs | ⟨m',h2,h3,h4⟩
   ·exact (hst.hid b hs).2 ⟨m,h1,hb⟩
   ·have := hst.inj m' m b h3 h1 h4 hb
    subst this
    refine h2 (mem_moved.2 ⟨hm,?_⟩)
    obtain ⟨o,ho⟩ := Option.isSome_iff_exists.1 h1
    have hat := hst.at_ m' o ho
    rw [ht m' hm] at ho
    unfold ownedN
    rw [ho]
    cases o with
    | cells cs e => rfl
    | row t l rk =>
     obtain ⟨_,_,_,sub,_,_,h5,_⟩ := hat
     by_cases e : rk = 0
     ·rw [h5 e] at hb; cases hb
     ·simpa using e
    | alias => rfl
    | gone => exact hat.elim
    | loop r' s j =>
     obtain ⟨b',hb',hh⟩ := hat
     rw [hb] at hb'; cases hb'
     obtain ⟨_,_,_,h6⟩ := hc
     rw [hh] at h6; cases h6
    | pin => rw [hat.1] at hb; cases hb
    | hide => rw [show (ρ m').blk = Option.none from hat] at hb; cases hb
    | map ka va k v l =>
     obtain ⟨_,_,b',es,clk,hb',hh,_⟩ := hat
     rw [hb] at hb'; cases hb'
     obtain ⟨_,_,_,h6⟩ := hc
     rw [hh] at h6; cases h6
 obtain ⟨xs,hg,hc⟩ := hargs bor W ρ Kn Γ w ht hst _ hok 0
 have hb := St.beginO hg (fun b hb => hb) hSlt
 obtain ⟨lp,its,hi,hl,hfn⟩ := h x hpre S
 have hcs := hc (fun n => xs.getD n {}) fun i y hy => by simp [hy]
 have key := calls_of_fnE (ctx := ⟨tt,specs,noX,lp,[],its⟩) hT ⟨hS,YsOk.nil P,hi⟩ (noX.ok noB w) hm hf (fun c hc => by
  have : bodyOf fn = c := by unfold bodyOf; rw [hc]
  subst this
  exact lpOk_of (nodupB_spec hn) hl) hfn.h (fun y hy => by
   obtain ⟨a,ha,rfl⟩ := List.mem_map.1 hy
   exact A0.ok_mono (fun m hm => by simp [heapE] at hm ⊢; omega) a (encP_ok 0 p x 0 a ha)) hb
 have ea : (argsE p x).map (AV.conc fun n => xs.getD n {}) = args.map (AV.conc ρ) := by
  rw [hcs]; simp [argsE,AV.conc,Function.comp_def]
 rw [ea] at key
 refine key.mono ?_
 rintro e w' ⟨st,ρ1,v,rfl,hv,hR,hst1⟩
 unfold retRo at hR
 split at hR
 rotate_left
 ·exact hR.elim
 rename_i l hpl
 split at hR
 rotate_left
 ·exact hR.elim
 rename_i y hdr
 obtain ⟨rfl,nh,hh⟩ := hideIn_spec hR
 obtain ⟨ys,e1,hdec⟩ := decRo_spec r _ _ _ hdr
 rw [List.append_nil] at e1
 subst e1
 obtain ⟨us,hgu,hcu⟩ := hdec noB w ρ1 _ w' hst1 (fun b => cellsB w' b ∧ ¬ S b) (fun b hb => ⟨hb.1,fun hs => hb.2 (.inr ⟨nh,S,hh,hs⟩)⟩) (fun m h1 b h2 h3 => ⟨h3,fun hs => (hst1.hid b ⟨nh,S,hh,hs⟩).2 ⟨m,h1,h2⟩⟩) nm
 obtain ⟨ρ',r1,r2,r3⟩ := (hst.called hst1.fr).addRows (v := resV (encP 0 nm r (g x)).1) (tc := tc) (G := movedN hp tc) (nm := nm) hfr hgu (fun b hb => by
  refine ⟨hb.1,fun h1 => hb.2 (by rw [hSd]; exact .inl h1),fun m h1 h2 h3 => hb.2 (by rw [hSd]; exact .inr ⟨m,h1,h2,h3⟩)⟩)
 refine ⟨ρ',?_,r1,?_,r3⟩
 ·congr 1
  rw [← partsV_res hpl]
  exact resV_conc (hcu ρ' r2)
 ·exact resV_ok fun c hc => A0.ok_mono (fun m hm => .inr (by simpa using hm)) c (encP_ok 0 r (g x) nm c hc)
end
def deadIt : ISpec := fun _ _ _ _ => False
theorem deadIt_ok {P : Program} {X : Addr → Value → Prop} {f : FuncId} : ISpecOk P X f deadIt := fun _ _ _ _ h => h.elim
end Go.Ev
