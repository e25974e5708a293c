/- Proofs of printed conditions: how the parts are joined. -/
import Derived.Test.YtleemdeodmdnkaaEvL
noncomputable section
set_option linter.unusedSectionVars false
set_option linter.unusedVariables false
set_option linter.unusedSimpArgs false
namespace Go.Ev
abbrev I2 : Type := Int × Int
abbrev I3 : Type := Int × (Int × Int)
abbrev I9 : Type := (Int × (Int × Int)) × ((Int × (Int × Int)) × (Int × (Int × Int)))
abbrev zz2 : Int × Int := ((0:Int),(0:Int))
abbrev zz3 : Int × (Int × Int) := ((0:Int),((0:Int),(0:Int)))
abbrev zz9 : (Int × (Int × Int)) × ((Int × (Int × Int)) × (Int × (Int × Int))) := (((0:Int),((0:Int),(0:Int))),(((0:Int),((0:Int),(0:Int))),((0:Int),((0:Int),(0:Int)))))
abbrev yi : Ty := .int .i64
abbrev yy2 : Ty := Ty.prod (Ty.int IntKind.i64) (Ty.int IntKind.i64)
abbrev yy3 : Ty := Ty.prod (Ty.int IntKind.i64) (Ty.prod (Ty.int IntKind.i64) (Ty.int IntKind.i64))
abbrev yy9 : Ty := Ty.prod (Ty.prod (Ty.int IntKind.i64) (Ty.prod (Ty.int IntKind.i64) (Ty.int IntKind.i64))) (Ty.prod (Ty.prod (Ty.int IntKind.i64) (Ty.prod (Ty.int IntKind.i64) (Ty.int IntKind.i64))) (Ty.prod (Ty.int IntKind.i64) (Ty.prod (Ty.int IntKind.i64) (Ty.int IntKind.i64))))
def letV {α β : Type} (a : α) (f : α → β) : β := f a
def letP {α : Type} (a : α) (f : α → Prop) : Prop := f a
theorem cB_d {α : Type} {Q : α → Prop} {p : Prop} [Decidable p] {x y : α} {t1 t2 : Prop} (hq : Q (if p then x else y)) (h1 : p → Q x → t1) (h2 : ¬ p → Q y → t2) : cB (decide p) t1 t2 := by
 by_cases h : p
 ·rw [if_pos h] at hq; rw [decide_eq_true h]; exact h1 h hq
 ·rw [if_neg h] at hq; rw [decide_eq_false h]; exact h2 h hq
theorem cB_b {α : Type} {Q : α → Prop} {b : Bool} {x y : α} {t1 t2 : Prop} (hq : Q (if b = true then x else y)) (h1 : b = true → Q x → t1) (h2 : ¬ b = true → Q y → t2) : cB b t1 t2 := by
 cases b with
 | true => exact h1 rfl hq
 | false => exact h2 (by simp) hq
theorem ob_k {b : Bool} {t : Prop} (h : b = true) (ht : t) : ob b t := by subst h; exact ht
theorem and_t {b c : Bool} (h1 : b = true) (h2 : c = true) : (b && c) = true := by rw [h1,h2]; rfl
theorem ren_ok {π : List Src} {st st' : AS} (h1 : tmpsR π st.tmps st'.tmps) (h2 : heapR π st.heap π st'.heap) (h3 : nodupL (srcs π st'.heap) = true) : Weak st st' := ⟨π,h1,h2,h3⟩
theorem ren_same {π : List Src} {h : List AObj} {m : Nat} {o p : AObj} (h1 : liveAt h m = some p) (h2 : renO π o = some p) : objR π h (.same m) o := ⟨p,h1,h2⟩
theorem ren_nil {π : List Src} {h : List AObj} {t : Ty} : objR π h .nil (.row t [] 2) := ⟨t,2,rfl,by decide⟩
theorem SpecsOk.ctxI {P : Program} {tt : List (Nat × TI)} {specs : List (Nat × Spec)} {X : Addr → Value → Prop} {lp : List (Nat × LSpec)} {its : List (Nat × ISpec)} (h : SpecsOk P specs) (hi : ItsOk P X its) : CtxOk P ⟨tt,specs,X,lp,[],its⟩ := ⟨h,YsOk.nil P,hi⟩
structure Vc (p : Prop) : Prop where
 h : p
structure CertOk (ctx : Ctx) (c : Code) (id:Nat) (sp : LSpec) : Prop where
 h : ∀ st K,sp st K → codeE ctx c st (wrapB id (orWeak K))
section
variable {ctx : Ctx} {c : Code} {id : Nat}
end
section
variable {P : Program} {tt : List (Nat × TI)} {specs : List (Nat × Spec)}
end
end Go.Ev

namespace Go.Ev
open Go.RowKit

def goodRowO (ok : Nat → Prop) (w : World) : AObj → Loc → Prop
 | .row u l rk,x => rk = 0 ∧ (x.blk = none ∧ x.ents = []) ∧ x.len = l.length ∧ x.es = u.size ∧ l.length ≤ x.cap ∧ RowAt w ok x.base u l
 | _,_ => False
theorem encC_startO {ok : Nat → Prop} {w : World} : ∀ (cs : List Comp) (vals : List Value) (nm:Nat),All2 (TopC w ok) cs vals →
  ∃ xs,All2 (goodRowO ok w) (encC 0 nm cs).2 xs ∧ ∀ ρ1 : Env,(∀ i x,xs[i]? = some x → ρ1 (nm + i) = x) → (encC 0 nm cs).1.map (Cell.conc ρ1) = vals
 | [],[],nm,_ => ⟨[],trivial,fun _ _ => rfl⟩
 | [],_ :: _,_,h => h.elim
 | _ :: _,[],_,h => h.elim
 | .flat v :: r,v' :: vr,nm,h => by
  obtain ⟨xs,h1,h2⟩ := encC_startO r vr nm h.2
  refine ⟨xs,h1,fun ρ1 hr => ?_⟩
  have := h2 ρ1 hr
  have hv : v' = v := h.1
  simp only [encC,List.map_cons,this,hv]; rfl
 | .sl u l :: r,v' :: vr,nm,h => by
  obtain ⟨xs,h1,h2⟩ := encC_startO r vr (nm + 1) h.2
  obtain ⟨a,c,hv,hc,hr⟩ := h.1
  refine ⟨{ blk := none,base := a,len := l.length,cap := c,es := u.size } :: xs,⟨⟨rfl,⟨rfl,rfl⟩,rfl,rfl,hc,hr⟩,h1⟩,fun ρ1 hr => ?_⟩
  have := h2 ρ1 fun i x hi => by
   have := hr (i + 1) x (by simpa using hi)
   rwa [show nm + (i + 1) = nm + 1 + i by omega] at this
  have h0 := hr 0 _ rfl
  rw [Nat.add_zero] at h0
  simp only [encC,List.map_cons,this,hv,Cell.conc,h0]
theorem decP_specO {hp : HP} : ∀ (p : Par) (args : List AV) (x : p.ty.T) (r : List AV) (tc : List Nat),decP hp p args = some (x,r,tc,true) →
  ∃ as,args = as ++ r ∧ ∀ bor W ρ Kn Γ w,(∀ m ∈ tc,Γ m = hp m) → St bor W ρ Kn Γ w → ∀ ok,OkFor ok ρ Γ w tc → ∀ nm,∃ xs,All2 (goodRowO ok w) (encP 0 nm p x).2 xs ∧
   ∀ ρ1 : Env,(∀ i x,xs[i]? = some x → ρ1 (nm + i) = x) → as.map (AV.conc ρ) = (encP 0 nm p x).1.map (A0.conc ρ1)
 | .one t,args,x,r,tc,h => by
  simp only [decP] at h
  split at h <;> try (cases h; done)
  rename_i c r'
  split at h <;> try (cases h; done)
  rename_i y tc' hd
  cases h
  obtain ⟨ys,e,hl,hs⟩ := decT_specO hp t _ _ _ _ hd
  rw [List.append_nil] at e
  subst e
  refine ⟨[_],rfl,fun bor W ρ Kn Γ w ht hst ok hok nm => ?_⟩
  obtain ⟨xs,h1,h2⟩ := encC_startO _ _ nm (hs bor W ρ Kn Γ w ht hst ok hok)
  refine ⟨xs,h1,fun ρ1 hr => ?_⟩
  have := h2 ρ1 hr
  simp only [encP,List.map_cons,List.map_nil]
  simp only [List.map_cons,List.map_nil] at this
  obtain ⟨c',hc',e⟩ : ∃ c',(encC 0 nm (t.comps x)).1 = [c'] ∧ c'.conc ρ1 = c.conc ρ := by
   match hm : (encC 0 nm (t.comps x)).1,this with
   | [c'],h => simp only [List.map_cons,List.map_nil,List.cons.injEq,and_true] at h; exact ⟨c',rfl,h⟩
   | [],h => simp at h
   | _ :: _ :: _,h => simp at h
  rw [hc']
  simp only [encA,AV.conc,A0.conc,e]
 | .agg t,args,x,r,tc,h => by
  simp only [decP] at h
  split at h <;> try (cases h; done)
  rename_i cs r'
  split at h <;> try (cases h; done)
  rename_i y tc' hd
  cases h
  obtain ⟨ys,e,hl,hs⟩ := decT_specO hp t _ _ _ _ hd
  rw [List.append_nil] at e
  subst e
  refine ⟨[_],rfl,fun bor W ρ Kn Γ w ht hst ok hok nm => ?_⟩
  obtain ⟨xs,h1,h2⟩ := encC_startO _ _ nm (hs bor W ρ Kn Γ w ht hst ok hok)
  refine ⟨xs,h1,fun ρ1 hr => ?_⟩
  have := h2 ρ1 hr
  simp only [encP,encA,List.map_cons,List.map_nil,AV.conc,A0.conc,this]
 | .ptr t,args,x,r,tc,h => by
  simp only [decP] at h
  split at h
  ·rename_i n off r'
   split at h <;> try (cases h; done)
   rename_i cs e he
   split at h <;> try (cases h; done)
   rename_i y tc' hd
   split at h <;> try (cases h; done)
   rename_i hsh
   cases h
   obtain ⟨ys,e1,hl,hs⟩ := decT_specO hp t _ _ _ _ hd
   rw [List.append_nil] at e1
   refine ⟨[_],rfl,fun bor W ρ Kn Γ w ht hst ok hok nm => ?_⟩
   have hall := top_nest t x _ hsh (hs bor W ρ Kn Γ w (fun m hm => ht m (by simp [hm])) hst ok (hok.sub fun m hm => by simp [hm]))
   obtain ⟨b,hb,hh⟩ := hst.at_ n _ (by rw [ht n (by simp),he])
   refine ⟨[{ blk := none,base := addrOf ρ n off,len := 1,cap := 1,es := t.size }],⟨⟨rfl,⟨rfl,rfl⟩,rfl,rfl,by simp,ys.map (Cell.conc ρ),?_,fun i v hv => ?_⟩,trivial⟩,fun ρ1 hr => ?_⟩
   ·simpa [rowComps] using hall
   ·refine ⟨⟨b,off,none⟩,by simp [addrOf,hb],?_,?_⟩
    ·rw [add_mk',cell_of_heap (by simpa using hh)]
     rw [← e1,List.map_take,List.map_drop,List.getElem?_take] at hv
     split at hv
     ·rwa [List.getElem?_drop] at hv
     ·cases hv
    ·exact hok.2 n (by simp) (by rw [ht n (by simp),he]; rfl) b (.inl hb) ⟨_,_,_,hh⟩
   ·have h0 := hr 0 _ rfl
    rw [Nat.add_zero] at h0
    simp only [encP,List.map_cons,List.map_nil,AV.conc,A0.conc,Cell.conc,h0]
    cases addrOf ρ n off <;> simp [add_zero']
  ·rename_i n j r'
   split at h <;> try (cases h; done)
   rename_i u l rk he
   split at h <;> try (cases h; done)
   rename_i l' hl'
   simp only [Option.some.injEq,Prod.mk.injEq,decide_eq_true_eq] at h
   obtain ⟨rfl,rfl,rfl,hj⟩ := h
   obtain ⟨e,e2⟩ := castL_eq hl'
   subst e
   dsimp only at e2
   subst e2
   refine ⟨[_],rfl,fun bor W ρ Kn Γ w ht hst ok hok nm => ?_⟩
   have hΓ : Γ n = some (.row u l rk) := by rw [ht n (by simp),he]
   have hra := hst.rowAtO hΓ hok (by simp)
   have hes : (ρ n).es = u.size := (hst.at_ n _ hΓ).2.1
   have hp := hra.part (a' := (ρ n).base.map (·.add (j * u.size))) j (some 1) fun _ => rfl
   have hpl : partL l j (some 1) = [gd u l j] := by
    simp only [partL,gd,List.getD_eq_getElem?_getD,List.getElem?_eq_getElem hj,Option.getD_some]
    rw [List.drop_eq_getElem_cons hj]; rfl
   rw [hpl] at hp
   refine ⟨[{ blk := none,base := (ρ n).base.map (·.add (j * u.size)),len := 1,cap := 1,es := u.size }],⟨⟨rfl,⟨rfl,rfl⟩,rfl,rfl,by simp,hp⟩,trivial⟩,fun ρ1 hr => ?_⟩
   have h0 := hr 0 _ rfl
   rw [Nat.add_zero] at h0
   simp only [encP,List.map_cons,List.map_nil,AV.conc,A0.conc,Cell.conc,h0,hes]
   cases (ρ n).base <;> simp [add_zero']
  ·cases h
 | .clo f p,args,x,r,tc,h => by
  simp only [decP] at h
  split at h <;> try (cases h; done)
  rename_i g cap r'
  split at h <;> try (cases h; done)
  rename_i hg
  split at h <;> try (cases h; done)
  rename_i x1 tc1 b1 h1
  simp only [Option.some.injEq,Prod.mk.injEq,Bool.and_eq_true] at h
  obtain ⟨rfl,rfl,rfl,hc,rfl⟩ := h
  subst hg
  obtain ⟨as,e1,k1⟩ := decP_specO p _ _ _ _ h1
  rw [List.append_nil] at e1
  refine ⟨[_],rfl,fun bor W ρ Kn Γ w ht hst ok hok nm => ?_⟩
  obtain ⟨xs,g1,g2⟩ := k1 bor W ρ Kn Γ w ht hst ok hok nm
  refine ⟨xs,g1,fun ρ1 hr => ?_⟩
  have h2 := g2 ρ1 hr
  have e2 : cap.map (Ref.conc ρ) = ((encP 0 nm p x1).1.map refOf).map (Ref.conc ρ1) := by
   rw [refs_conc p hc,← h2,← e1,List.map_map]
   exact List.map_congr_left fun q _ => (ofRef_conc ρ q).symm
  simp only [encP,List.map_cons,List.map_nil,AV.conc,A0.conc,Cell.conc,e2]
 | .mv f agg t,args,x,r,tc,h => by
  simp only [decP] at h
  split at h <;> try (cases h; done)
  rename_i g agg' rs r'
  split at h <;> try (cases h; done)
  rename_i hg
  split at h <;> try (cases h; done)
  rename_i y tc' hd
  cases h
  obtain ⟨rfl,rfl⟩ := hg
  obtain ⟨ys,e,hl,hs⟩ := decT_specO hp t _ _ _ _ hd
  rw [List.append_nil] at e
  refine ⟨[_],rfl,fun bor W ρ Kn Γ w ht hst ok hok nm => ?_⟩
  obtain ⟨xs,h1,h2⟩ := encC_startO _ _ nm (hs bor W ρ Kn Γ w ht hst ok hok)
  refine ⟨xs,h1,fun ρ1 hr => ?_⟩
  have h3 := h2 ρ1 hr
  have e2 : rs.map (Ref.conc ρ) = ((encC 0 nm (t.comps x)).1.map refC).map (Ref.conc ρ1) := by
   rw [refC_conc,h3,← e,List.map_map]
   exact List.map_congr_left fun q _ => (refCell_conc ρ q).symm
  simp only [encP,List.map_cons,List.map_nil,AV.conc,A0.conc,Cell.conc,e2]
 | .pair a b,args,x,r,tc,h => by
  simp only [decP] at h
  split at h <;> try (cases h; done)
  rename_i x1 r1 tc1 f1 h1
  split at h <;> try (cases h; done)
  rename_i x2 r2 tc2 f2 h2
  simp only [Option.some.injEq,Prod.mk.injEq,Bool.and_eq_true] at h
  obtain ⟨rfl,rfl,rfl,rfl,rfl⟩ := h
  obtain ⟨as,e1,k1⟩ := decP_specO a _ _ _ _ h1
  obtain ⟨bs,e2,k2⟩ := decP_specO b _ _ _ _ h2
  refine ⟨as ++ bs,by rw [e1,e2]; simp,fun bor W ρ Kn Γ w ht hst ok hok nm => ?_⟩
  obtain ⟨xs,g1,g2⟩ := k1 bor W ρ Kn Γ w (fun m hm => ht m (by simp [hm])) hst ok (hok.sub fun m hm => by simp [hm]) nm
  obtain ⟨ys,g3,g4⟩ := k2 bor W ρ Kn Γ w (fun m hm => ht m (by simp [hm])) hst ok (hok.sub fun m hm => by simp [hm]) (nm + (encP 0 nm a x1).2.length)
  refine ⟨xs ++ ys,g1.append g3,fun ρ1 hr => ?_⟩
  have hl := g1.length
  simp only [encP,List.map_append]
  rw [g2 ρ1 fun i x hi => hr i x (by rw [List.getElem?_append_left (List.getElem?_eq_some_iff.1 hi).1]; exact hi),g4 ρ1 fun i x hi => by
   have := hr (xs.length + i) x (by rw [List.getElem?_append_right (by omega)]; simpa using hi)
   rwa [← hl,← Nat.add_assoc] at this]
 | .none,args,x,r,tc,h => by
  simp only [decP,Option.some.injEq,Prod.mk.injEq,and_true] at h
  obtain ⟨rfl,rfl,rfl⟩ := h
  exact ⟨[],rfl,fun bor W ρ Kn Γ w ht hst ok hok nm => ⟨[],trivial,fun _ _ => rfl⟩⟩
where add_mk' {b off m : Nat} : (⟨b,off,none⟩ : Addr).add m = ⟨b,off + m,none⟩ := by unfold Addr.add; split <;> simp_all

theorem goodRowO_row {ok : Nat → Prop} {w : World} {o : AObj} {x : Loc} (h : goodRowO ok w o x) : ∃ u,∃ l : List u.T,o = .row u l 0 := by
 cases o <;> first | exact h.elim | (obtain ⟨rfl,_⟩ := h; exact ⟨_,_,rfl⟩)
theorem liveAt_some {h : List AObj} {n : Nat} {o : AObj} (ho : liveAt h n = some o) : h[n]? = some o := by
 unfold liveAt at ho
 split at ho
 ·cases ho
 ·exact ho
section
variable {P : Program} {tt : List (Nat × TI)} {specs : List (Nat × Spec)}
end
def deadIt : ISpec := fun _ _ _ _ => False
theorem deadIt_ok {P : Program} {X : Addr → Value → Prop} {f : FuncId} : ISpecOk P X f deadIt := fun _ _ _ _ h => h.elim
end Go.Ev
