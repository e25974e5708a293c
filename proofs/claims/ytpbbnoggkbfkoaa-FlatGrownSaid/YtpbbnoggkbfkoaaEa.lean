/- Plain laws: what 'overlap' comes to. -/
import Derived.Test.YtpbbnoggkbfkoaaQd
import Derived.Test.YtpbbnoggkbfkoaaFc
noncomputable section
set_option linter.unusedSectionVars false
set_option linter.unusedVariables false
set_option linter.unusedSimpArgs false
namespace Go.Proofs.Ytpbbnoggkbfkoaa
open Go Go.Ev Go.Proofs
theorem mside_law {p a b : P2} (n:Int) (hp : Sm p) (ha : Sm a) (hb : Sm b) : mside (p,(a,(b,sg n))) = sg n * sg (Det a b p) := by
 unfold mside
 rw [sside_law,if_pos ⟨ha,hb,hp⟩]
 dsimp only [letV]
 rcases sg_cases n with ⟨_,e⟩ | ⟨_,e⟩ | ⟨_,e⟩ <;> rcases sg_cases (Det a b p) with ⟨_,f⟩ | ⟨_,f⟩ | ⟨_,f⟩ <;> rw [e,f] <;> rfl
def Bel (m : P2 → Int) (k:Int) (l : List P2) : Bool := l.all fun p => decide (m p < k)
theorem bel_loop (c k:Int) (l : List P2) (hl : l.length < 4611686018427387904) (m : P2 → Int) (step : Int × (Bool × Int) → (Int × (Bool × Int)) ⊕ (Int × Bool)) (hT : Term step (fun _ => True) (c,(true,0)))
  (h1 : ∀ (i:Nat) (p : P2),l[i]? = some p → step (c,(true,(i:Int))) = .inl (c,(decide (m p < k),w64 ((i:Int) + 1))))
  (h2 : ∀ (i:Nat) (p : P2),l[i]? = some p → step (c,(false,(i:Int))) = .inl (c,(false,w64 ((i:Int) + 1))))
  (h3 : ∀ b,step (c,(b,(l.length:Int))) = .inr (c,b)) : run step (c,(true,0)) = (c,Bel m k l) := by
 obtain ⟨_,h⟩ := loop_inv (step := step) (pre := fun _ => True) (fun s => ∃ i : Nat,s = (c,(Bel m k (l.take i),(i:Int))) ∧ i ≤ l.length) (fun s => l.length - s.2.2.toNat) (fun r => r = (c,Bel m k l)) (fun s ⟨i,e,hi⟩ => by
  subst e
  refine ⟨trivial,?_⟩
  rcases Nat.lt_or_ge i l.length with hlt | hge
  ·have hg := List.getElem?_eq_getElem hlt
   have hs : step (c,(Bel m k (l.take i),(i:Int))) = .inl (c,(Bel m k (l.take (i + 1)),w64 ((i:Int) + 1))) := by
    rw [List.take_succ_eq_append_getElem hlt]
    have e : Bel m k (l.take i ++ [l[i]]) = (Bel m k (l.take i) && decide (m l[i] < k)) := by unfold Bel; rw [List.all_append,List.all_cons,List.all_nil,Bool.and_true]
    rw [e]
    cases Bel m k (l.take i) with
    | true => rw [h1 i _ hg]; rfl
    | false => rw [h2 i _ hg]; rfl
   refine ⟨fun s' q => ?_,fun r q => ?_⟩
   ·rw [hs] at q
    cases q
    rw [cnt hlt hl]
    exact ⟨⟨i + 1,rfl,hlt⟩,by simp only [Int.toNat_natCast]; omega⟩
   ·rw [hs] at q; cases q
  ·have : i = l.length := by omega
   subst this
   rw [h3,List.take_length]
   exact ⟨fun s' q => (by cases q),fun r q => by cases q; rfl⟩) (c,(true,0)) ⟨0,rfl,Nat.zero_le _⟩
 exact h
theorem term_true {S R : Type} {step : S → S ⊕ R} {pre : S → Prop} {s : S} (h : Term step pre s) : Term step (fun _ => True) s := by
 induction h with
 | mk s _ _ ih => exact .mk s trivial ih
theorem mapart_law {a b c : P2} (hr : Right a b c) (k:Int) (l : List P2) (hs : ∀ p ∈ l,Sm p) (hl : l.length < 4611686018427387904) :
  mapart ((a,(b,c)),(k,l)) = (Bel (Sd a b c) k l || Bel (Sd b c a) k l || Bel (Sd c a b) k l) := by
 have hT := apart_tm ((a,(b,c)),(k,l)) hl (sg (Det a b c))
 have e1 : run (mapart_l2_13_step ((a,(b,c)),(k,l))) (sg (Det a b c),(true,0)) = (sg (Det a b c),Bel (Sd a b c) k l) := by
  refine bel_loop _ k l hl _ _ (term_true hT.1) (fun i p hp => ?_) (fun i p hp => ?_) (fun q => ?_)
  ·have hlt := lt_of_get hp
   unfold mapart_l2_13_step
   dsimp only [letV]
   rw [if_pos (by omega),if_pos rfl,Int.toNat_natCast,getD_of hp,mside_law _ (hs p (List.mem_of_getElem? hp)) hr.1.1 hr.1.2.1]; rfl
  ·have hlt := lt_of_get hp
   unfold mapart_l2_13_step
   dsimp only [letV]
   rw [if_pos (by omega),if_neg (by decide)]
  ·unfold mapart_l2_13_step
   dsimp only
   rw [if_neg (by omega)]
 have e2 : run (mapart_l2_16_step ((a,(b,c)),(k,l))) (sg (Det a b c),(true,0)) = (sg (Det a b c),Bel (Sd b c a) k l) := by
  refine bel_loop _ k l hl _ _ (term_true hT.2.1) (fun i p hp => ?_) (fun i p hp => ?_) (fun q => ?_)
  ·have hlt := lt_of_get hp
   unfold mapart_l2_16_step
   dsimp only [letV]
   rw [if_pos (by omega),if_pos rfl,Int.toNat_natCast,getD_of hp,mside_law _ (hs p (List.mem_of_getElem? hp)) hr.1.2.1 hr.1.2.2]
   unfold Sd; rw [det_turn a b c]
  ·have hlt := lt_of_get hp
   unfold mapart_l2_16_step
   dsimp only [letV]
   rw [if_pos (by omega),if_neg (by decide)]
  ·unfold mapart_l2_16_step
   dsimp only
   rw [if_neg (by omega)]
 have e3 : run (mapart_l2_19_step ((a,(b,c)),(k,l))) (sg (Det a b c),(true,0)) = (sg (Det a b c),Bel (Sd c a b) k l) := by
  refine bel_loop _ k l hl _ _ (term_true hT.2.2) (fun i p hp => ?_) (fun i p hp => ?_) (fun q => ?_)
  ·have hlt := lt_of_get hp
   unfold mapart_l2_19_step
   dsimp only [letV]
   rw [if_pos (by omega),if_pos rfl,Int.toNat_natCast,getD_of hp,mside_law _ (hs p (List.mem_of_getElem? hp)) hr.1.2.2 hr.1.1]
   unfold Sd; rw [det_turn b c a,det_turn a b c]
  ·have hlt := lt_of_get hp
   unfold mapart_l2_19_step
   dsimp only [letV]
   rw [if_pos (by omega),if_neg (by decide)]
  ·unfold mapart_l2_19_step
   dsimp only
   rw [if_neg (by omega)]
 unfold mapart
 dsimp only [letV]
 rw [sside_law,if_pos hr.1]
 dsimp only
 rw [e1]
 dsimp only
 rw [e2]
 dsimp only
 rw [e3]
 dsimp only
 generalize Bel (Sd a b c) k l = x
 generalize Bel (Sd b c a) k l = y
 generalize Bel (Sd c a b) k l = z
 cases x <;> cases y <;> cases z <;> rfl
def Out1 (a b c : P2) (k:Int) (l : List P2) : Bool := Bel (Sd a b c) k l || Bel (Sd b c a) k l || Bel (Sd c a b) k l
abbrev Rt (t : T2) : Prop := Right t.1 t.2.1 t.2.2
def Ov (t u : T2) : Bool := !Out1 t.1 t.2.1 t.2.2 1 (tp u) && !Out1 u.1 u.2.1 u.2.2 1 (tp t)
theorem tp_sm {t : T2} (h : Rt t) : ∀ p ∈ tp t,Sm p := fun p hp => by
 simp only [tp,List.mem_cons,List.not_mem_nil,or_false] at hp
 rcases hp with rfl | rfl | rfl
 ·exact h.1.1
 ·exact h.1.2.1
 ·exact h.1.2.2
theorem moverlap_law (t u : T2) : moverlap (t,u) = if Rt t ∧ Rt u then (Ov t u,0) else (false,1) := by
 obtain ⟨a,b,c⟩ := t
 obtain ⟨d,e,f⟩ := u
 unfold moverlap mboth
 dsimp only [letV]
 rw [mright_law,mright_law]
 by_cases ht : Rt (a,(b,c))
 ·by_cases hu : Rt (d,(e,f))
  ·have e1 := mapart_law ht 1 (tp (d,(e,f))) (tp_sm hu) (by simp [tp])
   have e2 := mapart_law hu 1 (tp (a,(b,c))) (tp_sm ht) (by simp [tp])
   dsimp only [tp] at e1 e2
   rw [decide_eq_true ht,decide_eq_true hu,if_neg (by decide),if_neg (by decide),if_pos (show Rt (a,(b,c)) ∧ Rt (d,(e,f)) from ⟨ht,hu⟩),e1,e2]
   unfold Ov
   show (if (!Out1 a b c 1 [d,e,f]) = true then (!Out1 d e f 1 [a,b,c],(0:Int)) else (false,0)) = (!Out1 a b c 1 [d,e,f] && !Out1 d e f 1 [a,b,c],0)
   cases Out1 a b c 1 [d,e,f] <;> rfl
  ·rw [decide_eq_true ht,decide_eq_false hu,if_neg (by decide),if_pos (by decide),if_neg (fun q => hu q.2)]
 ·rw [decide_eq_false ht,if_pos (by decide),if_neg (fun q => ht q.1)]
theorem free_law (t u : T2) : Free t u = true ↔ Rt t ∧ Rt u ∧ Ov t u = false := by
 rw [free_iff,moverlap_law]
 by_cases h : Rt t ∧ Rt u
 ·rw [if_pos h]; exact ⟨fun q => ⟨h.1,h.2,q.1⟩,fun q => ⟨q.2.2,rfl⟩⟩
 ·rw [if_neg h]; exact ⟨fun q => absurd q.2 (by decide),fun q => absurd ⟨q.1,q.2.1⟩ h⟩
end Go.Proofs.Ytpbbnoggkbfkoaa

namespace Go.Proofs.Ytpbbnoggkbfkoaa
open Go Go.Ev Go.Proofs
theorem key_143 : KeyE tt 143 yy2 := fun x y => by
 obtain ⟨a,b⟩ := x
 obtain ⟨c,d⟩ := y
 show some ((a == c) && ((b == d) && true)) = some ((a == c) && (b == d))
 rw [Bool.and_true]
def epairs_l0 (x : I9) : LoopD := ⟨[],⟨pvs 36 0 [(1,.v (.one (.ptr 0 0))),(3,.v (.one (.full 1))),(8,.v (.agg [.i .i64,.i .i64,.i .i64,.i .i64,.i .i64,.i .i64,.i .i64,.i .i64,.i .i64])),(9,.v (.one (.i .i64)))],[.cells [.i .i64,.i .i64,.i .i64,.i .i64,.i .i64,.i .i64,.i .i64,.i .i64,.i .i64] 72,.row yy2 2],0,none,[],[0,1,2,3,4,5,6,7,8,10,11,12,13,14,15,16,17,18],[19,9],[(.l yy2),.i],[.i x.1.1,.i x.1.2.1,.i x.1.2.2,.i x.2.1.1,.i x.2.1.2.1,.i x.2.1.2.2,.i x.2.2.1,.i x.2.2.2.1,.i x.2.2.2.2,.i x.1.1,.i x.1.2.1,.i x.1.2.2,.i x.2.1.1,.i x.2.1.2.1,.i x.2.1.2.2,.i x.2.2.1,.i x.2.2.2.1,.i x.2.2.2.2]⟩,[⟨(.exit 0),.normal,⟨pvs 36 0 [(3,.v (.one (.full 0)))],[.row yy2 2],0,none,[],[],[0],[(.l yy2)],[]⟩⟩]⟩
def epairs_l0_step (x : I9) (s : ((List I2) × Int)) : ((List I2) × Int) ⊕ (List I2) :=
 (if (s.2 < (3:Int)) then
 (if (((List.getD [x.1.1,x.1.2.1,x.1.2.2,x.2.1.1,x.2.1.2.1,x.2.1.2.2,x.2.2.1,x.2.2.2.1,x.2.2.2.2] ((Int.toNat s.2) * 3) (0:Int)) != (List.getD [x.1.1,x.1.2.1,x.1.2.2,x.2.1.1,x.2.1.2.1,x.2.1.2.2,x.2.2.1,x.2.2.2.1,x.2.2.2.2] ((0 + ((Int.toNat (Int.tmod (w64 (s.2 + (1:Int))) (3:Int))) * 3)) + 0) (0:Int))) = true) then
 (Sum.inl ((s.1 ++ [((minI (List.getD [x.1.1,x.1.2.1,x.1.2.2,x.2.1.1,x.2.1.2.1,x.2.1.2.2,x.2.2.1,x.2.2.2.1,x.2.2.2.2] ((Int.toNat s.2) * 3) (0:Int)) (List.getD [x.1.1,x.1.2.1,x.1.2.2,x.2.1.1,x.2.1.2.1,x.2.1.2.2,x.2.2.1,x.2.2.2.1,x.2.2.2.2] ((0 + ((Int.toNat (Int.tmod (w64 (s.2 + (1:Int))) (3:Int))) * 3)) + 0) (0:Int))),(maxI (List.getD [x.1.1,x.1.2.1,x.1.2.2,x.2.1.1,x.2.1.2.1,x.2.1.2.2,x.2.2.1,x.2.2.2.1,x.2.2.2.2] ((Int.toNat s.2) * 3) (0:Int)) (List.getD [x.1.1,x.1.2.1,x.1.2.2,x.2.1.1,x.2.1.2.1,x.2.1.2.2,x.2.2.1,x.2.2.2.1,x.2.2.2.2] ((0 + ((Int.toNat (Int.tmod (w64 (s.2 + (1:Int))) (3:Int))) * 3)) + 0) (0:Int))))]),(w64 (s.2 + (1:Int))))) else
 (Sum.inl (s.1,(w64 (s.2 + (1:Int)))))) else
 (Sum.inr (s.1)))
def epairs_l0_pre (x : I9) (s : ((List I2) × Int)) : Prop :=
 ((s.2 < (3:Int)) →
 ((((0:Int) ≤ s.2) ∧ (s.2 < (3:Int))) ∧
 ((((0:Int) ≤ (Int.tmod (w64 (s.2 + (1:Int))) (3:Int))) ∧ ((Int.tmod (w64 (s.2 + (1:Int))) (3:Int)) < (3:Int))) ∧
 (((((0 + ((Int.toNat (Int.tmod (w64 (s.2 + (1:Int))) (3:Int))) * 3)) + 0) + 1) ≤ 9) ∧
 ((((List.getD [x.1.1,x.1.2.1,x.1.2.2,x.2.1.1,x.2.1.2.1,x.2.1.2.2,x.2.2.1,x.2.2.2.1,x.2.2.2.2] ((Int.toNat s.2) * 3) (0:Int)) != (List.getD [x.1.1,x.1.2.1,x.1.2.2,x.2.1.1,x.2.1.2.1,x.2.1.2.2,x.2.2.1,x.2.2.2.1,x.2.2.2.2] ((0 + ((Int.toNat (Int.tmod (w64 (s.2 + (1:Int))) (3:Int))) * 3)) + 0) (0:Int))) = true) →
 (((List.length s.1) + 1) < 1099511627776))))))
def epairs_l0_t (x : I9) (s : ((List I2) × Int)) : Tr (((List I2) × Int) ⊕ (List I2)) true :=
 (.i10 (s.2 < (3:Int))
 (.oR s.2 (3:Int)
 (.oR (Int.tmod (w1 s.2) (3:Int)) (3:Int)
 (.od ((((0 + ((tN (Int.tmod (w1 s.2) (3:Int))) * 3)) + 0) + 1) ≤ 9)
 (.b10 ((List.getD [x.1.1,x.1.2.1,x.1.2.2,x.2.1.1,x.2.1.2.1,x.2.1.2.2,x.2.2.1,x.2.2.2.1,x.2.2.2.2] ((tN s.2) * 3) z0) != (List.getD [x.1.1,x.1.2.1,x.1.2.2,x.2.1.1,x.2.1.2.1,x.2.1.2.2,x.2.2.1,x.2.2.2.1,x.2.2.2.2] ((0 + ((tN (Int.tmod (w1 s.2) (3:Int))) * 3)) + 0) z0))
 (.od (((List.length s.1) + 1) < 1099511627776)
 (.ret (.inl ((s.1 ++ [((minI (List.getD [x.1.1,x.1.2.1,x.1.2.2,x.2.1.1,x.2.1.2.1,x.2.1.2.2,x.2.2.1,x.2.2.2.1,x.2.2.2.2] ((tN s.2) * 3) z0) (List.getD [x.1.1,x.1.2.1,x.1.2.2,x.2.1.1,x.2.1.2.1,x.2.1.2.2,x.2.2.1,x.2.2.2.1,x.2.2.2.2] ((0 + ((tN (Int.tmod (w1 s.2) (3:Int))) * 3)) + 0) z0)),(maxI (List.getD [x.1.1,x.1.2.1,x.1.2.2,x.2.1.1,x.2.1.2.1,x.2.1.2.2,x.2.2.1,x.2.2.2.1,x.2.2.2.2] ((tN s.2) * 3) z0) (List.getD [x.1.1,x.1.2.1,x.1.2.2,x.2.1.1,x.2.1.2.1,x.2.1.2.2,x.2.2.1,x.2.2.2.1,x.2.2.2.2] ((0 + ((tN (Int.tmod (w1 s.2) (3:Int))) * 3)) + 0) z0)))]),(w1 s.2)))))
 (.ret (.inl (s.1,(w1 s.2))))))))
 (.ret (.inr (s.1))))
def epairs (x : I9) : (List I2) :=
 (letV (run (epairs_l0_step x) ([],(0:Int))) fun r =>
 r)
def epairs_pre (x : I9) : Prop :=
 (Term (epairs_l0_step x) (epairs_l0_pre x) ([],(0:Int)))
def epairs_t (x : I9) : Tr (List I2) true :=
 (LoopD.lp (epairs_l0 x) (epairs_l0_t x) ([],z0) fun r =>
 (.ret r))
abbrev epairs_S : FnS := ⟨(.agg yy9),(.one (Ty.sl yy2)),epairs_pre,epairs⟩
theorem epairs_ok : SpecOk Try.prog 82 (fnSpec epairs_S) := SpecOk.tr epairs_S epairs_t (fn := Try.f82) tt_ok sp_moverlap_ok mixed (by kernel_rfl) (ItsOk.nil _ _) (fun x => (LpsOk.tr tt_ok (SpecsOk.ctxI sp_moverlap_ok (ItsOk.nil _ _)) mixed 0 (epairs_l0 x) (epairs_l0_t x) LpsOk.nil (by kernel_rfl) fun g s Q => (by kernel_rfl))) (fun x => (by kernel_rfl)) fun x Q => (by kernel_rfl)
def sp_epairs : List (Nat × Ev.Spec) := (82,fnSpec epairs_S) :: sp_moverlap
theorem sp_epairs_ok : SpecsOk Try.prog sp_epairs := SpecsOk.add (fn := Try.f82) (by kernel_rfl) epairs_ok sp_moverlap_ok
def etable_l2 (x : ((List I3) × ((List I2) × ((List I3) × (List I9))))) : LoopD := ⟨[],⟨pvs 50 0 [(3,.v (.one (.mp 0))),(4,.v (.one (.i .i64))),(11,.v (.one (.full 2))),(12,.v (.one (.i .i64))),(13,.v (.one (.i .i64))),(19,.v (.one (.full 3))),(20,.v (.one (.i .i64))),(21,.v (.one (.i .i64)))],[.grp Bool.true yy2 yi 1,.set 0,.row yy9 0,.row yy2 2],0,none,[],[1,6],[5,0,2,7,3,4],[(.l (.prod yy2 (.sl yi))),.i,.i,(.l yy2),.i,.i],[.i (x.2.2.2.length:Int),.l yy9 x.2.2.2]⟩,[⟨(.exit 2),.normal,⟨pvs 50 0 [(3,.v (.one (.mp 0))),(11,.v (.one (.full 2))),(12,.v (.one (.i .i64))),(13,.v (.one (.i .i64)))],[.grp Bool.true yy2 yi 1,.set 0,.row yy9 0],0,none,[],[0,3],[2,1],[(.l (.prod yy2 (.sl yi))),.i],[.i (x.2.2.2.length:Int),.l yy9 x.2.2.2]⟩⟩]⟩
def etable_l2_step (x : ((List I3) × ((List I2) × ((List I3) × (List I9))))) (s : ((List (I2 × (List Int))) × (Int × (Int × ((List I2) × I2))))) : ((List (I2 × (List Int))) × (Int × (Int × ((List I2) × I2)))) ⊕ ((List (I2 × (List Int))) × Int) :=
 (if (s.2.2.2.2.2 < s.2.2.2.2.1) then
 (letV (lookD (k := yy2) s.1 (List.getD s.2.2.2.1 (Int.toNat s.2.2.2.2.2) ((0:Int),(0:Int))) []) fun y =>
 (if (((y.length:Int) == (0:Int)) = true) then
 (letV (putM (k := yy2) s.1 (List.getD s.2.2.2.1 (Int.toNat s.2.2.2.2.2) ((0:Int),(0:Int))) (y ++ [s.2.1])) fun y_1 =>
 (Sum.inl (y_1,(s.2.1,(s.2.2.1,(s.2.2.2.1,(s.2.2.2.2.1,(w64 (s.2.2.2.2.2 + (1:Int)))))))))) else
 (if (((List.getD y (Int.toNat (w64 ((y.length:Int) - (1:Int)))) (0:Int)) != s.2.1) = true) then
 (letV (putM (k := yy2) s.1 (List.getD s.2.2.2.1 (Int.toNat s.2.2.2.2.2) ((0:Int),(0:Int))) (y ++ [s.2.1])) fun y_1 =>
 (Sum.inl (y_1,(s.2.1,(s.2.2.1,(s.2.2.2.1,(s.2.2.2.2.1,(w64 (s.2.2.2.2.2 + (1:Int)))))))))) else
 (Sum.inl (s.1,(s.2.1,(s.2.2.1,(s.2.2.2.1,(s.2.2.2.2.1,(w64 (s.2.2.2.2.2 + (1:Int)))))))))))) else
 (Sum.inr ((s.1,s.2.2.1))))
def etable_l2_pre (x : ((List I3) × ((List I2) × ((List I3) × (List I9))))) (s : ((List (I2 × (List Int))) × (Int × (Int × ((List I2) × I2))))) : Prop :=
 ((s.2.2.2.2.2 < s.2.2.2.2.1) →
 ((((0:Int) ≤ s.2.2.2.2.2) ∧ (s.2.2.2.2.2 < (s.2.2.2.1.length:Int))) ∧
 (((Int.toNat s.2.2.2.2.2) < (List.length s.2.2.2.1)) ∧
 (((Int.toNat s.2.2.2.2.2) < (List.length s.2.2.2.1)) ∧
 (letP (lookD (k := yy2) s.1 (List.getD s.2.2.2.1 (Int.toNat s.2.2.2.2.2) ((0:Int),(0:Int))) []) fun y =>
 (((((y.length:Int) == (0:Int)) = true) →
 (((List.length y) + 1) < 1099511627776)) ∧
 (¬ (((y.length:Int) == (0:Int)) = true) →
 ((((0:Int) ≤ (w64 ((y.length:Int) - (1:Int)))) ∧ ((w64 ((y.length:Int) - (1:Int))) < (y.length:Int))) ∧
 (((Int.toNat (w64 ((y.length:Int) - (1:Int)))) < (List.length y)) ∧
 (((Int.toNat (w64 ((y.length:Int) - (1:Int)))) < (List.length y)) ∧
 ((((List.getD y (Int.toNat (w64 ((y.length:Int) - (1:Int)))) (0:Int)) != s.2.1) = true) →
 (((List.length y) + 1) < 1099511627776))))))))))))
def etable_l2_t (x : ((List I3) × ((List I2) × ((List I3) × (List I9))))) (s : ((List (I2 × (List Int))) × (Int × (Int × ((List I2) × I2))))) : Tr (((List (I2 × (List Int))) × (Int × (Int × ((List I2) × I2)))) ⊕ ((List (I2 × (List Int))) × Int)) true :=
 (.i10 (s.2.2.2.2.2 < s.2.2.2.2.1)
 (.oI2 s.2.2.2.2.2 s.2.2.2.1
 (.fact (KeyE tt 143 yy2) key_143
 (.lt (lookD (k := yy2) s.1 (gT s.2.2.2.1 s.2.2.2.2.2 zz2) []) fun y =>
 (.b11 ((nL y) == z0)
 (.og (true && (decide (((List.length y) + 1) < 1099511627776))) (((List.length y) + 1) < 1099511627776) (fun h => (and_t rfl (decide_eq_true h)))
 (.fact (KeyE tt 143 yy2) key_143
 (.fact ((gT s.2.2.2.1 s.2.2.2.2.2 zz2) = (gT s.2.2.2.1 s.2.2.2.2.2 zz2)) rfl
 (.lt (putM (k := yy2) s.1 (gT s.2.2.2.1 s.2.2.2.2.2 zz2) (y ++ [s.2.1])) fun y_1 =>
 (.ret (.inl (y_1,(s.2.1,(s.2.2.1,(s.2.2.2.1,(s.2.2.2.2.1,(w1 s.2.2.2.2.2))))))))))))
 (.oI2 (wm (nL y)) y
 (.b10 ((gI y (wm (nL y))) != s.2.1)
 (.og (true && (decide (((List.length y) + 1) < 1099511627776))) (((List.length y) + 1) < 1099511627776) (fun h => (and_t rfl (decide_eq_true h)))
 (.fact (KeyE tt 143 yy2) key_143
 (.fact ((gT s.2.2.2.1 s.2.2.2.2.2 zz2) = (gT s.2.2.2.1 s.2.2.2.2.2 zz2)) rfl
 (.lt (putM (k := yy2) s.1 (gT s.2.2.2.1 s.2.2.2.2.2 zz2) (y ++ [s.2.1])) fun y_1 =>
 (.ret (.inl (y_1,(s.2.1,(s.2.2.1,(s.2.2.2.1,(s.2.2.2.2.1,(w1 s.2.2.2.2.2))))))))))))
 (.ret (.inl (s.1,(s.2.1,(s.2.2.1,(s.2.2.2.1,(s.2.2.2.2.1,(w1 s.2.2.2.2.2))))))))))))))
 (.ret (.inr ((s.1,s.2.2.1)))))
def etable_l0 (x : ((List I3) × ((List I2) × ((List I3) × (List I9))))) : LoopD := ⟨[],⟨pvs 50 0 [(3,.v (.one (.mp 0))),(11,.v (.one (.full 2))),(12,.v (.one (.i .i64))),(13,.v (.one (.i .i64)))],[.grp Bool.true yy2 yi 1,.set 0,.row yy9 0],0,none,[],[0,3],[2,1],[(.l (.prod yy2 (.sl yi))),.i],[.i (x.2.2.2.length:Int),.l yy9 x.2.2.2]⟩,[⟨(.exit 0),.normal,⟨pvs 50 0 [(3,.v (.one (.mp 0)))],[.grp Bool.true yy2 yi 1,.set 0],0,none,[],[],[0],[(.l (.prod yy2 (.sl yi)))],[]⟩⟩]⟩
def etable_l0_step (x : ((List I3) × ((List I2) × ((List I3) × (List I9))))) (s : ((List (I2 × (List Int))) × Int)) : ((List (I2 × (List Int))) × Int) ⊕ (List (I2 × (List Int))) :=
 (if (s.2 < (x.2.2.2.length:Int)) then
 (letV (epairs (List.getD x.2.2.2 (Int.toNat s.2) (((0:Int),((0:Int),(0:Int))),(((0:Int),((0:Int),(0:Int))),((0:Int),((0:Int),(0:Int))))))) fun y =>
 (letV (run (etable_l2_step x) (s.1,(s.2,(s.2,(y,((y.length:Int),(0:Int))))))) fun r =>
 (Sum.inl (r.1,(w64 (r.2 + (1:Int))))))) else
 (Sum.inr (s.1)))
def etable_l0_pre (x : ((List I3) × ((List I2) × ((List I3) × (List I9))))) (s : ((List (I2 × (List Int))) × Int)) : Prop :=
 ((s.2 < (x.2.2.2.length:Int)) →
 ((((0:Int) ≤ s.2) ∧ (s.2 < (x.2.2.2.length:Int))) ∧
 (((Int.toNat s.2) < (List.length x.2.2.2)) ∧
 (((Int.toNat s.2) < (List.length x.2.2.2)) ∧
 ((epairs_pre (List.getD x.2.2.2 (Int.toNat s.2) (((0:Int),((0:Int),(0:Int))),(((0:Int),((0:Int),(0:Int))),((0:Int),((0:Int),(0:Int))))))) ∧
 letP (epairs (List.getD x.2.2.2 (Int.toNat s.2) (((0:Int),((0:Int),(0:Int))),(((0:Int),((0:Int),(0:Int))),((0:Int),((0:Int),(0:Int))))))) fun y =>
 (Term (etable_l2_step x) (etable_l2_pre x) (s.1,(s.2,(s.2,(y,((y.length:Int),(0:Int))))))))))))
def etable_l0_t (x : ((List I3) × ((List I2) × ((List I3) × (List I9))))) (s : ((List (I2 × (List Int))) × Int)) : Tr (((List (I2 × (List Int))) × Int) ⊕ (List (I2 × (List Int)))) true :=
 (.i10 (s.2 < (nL x.2.2.2))
 (.oI2 s.2 x.2.2.2
 (.fn epairs_S (gT x.2.2.2 s.2 zz9) fun y =>
 (LoopD.lp (etable_l2 x) (etable_l2_t x) (s.1,(s.2,(s.2,(y,((nL y),z0))))) fun r =>
 (.ret (.inl (r.1,(w1 r.2)))))))
 (.ret (.inr (s.1))))
def etable (x : ((List I3) × ((List I2) × ((List I3) × (List I9))))) : (List (I2 × (List Int))) :=
 (letV (run (etable_l0_step x) ([],(0:Int))) fun r =>
 r)
def etable_pre (x : ((List I3) × ((List I2) × ((List I3) × (List I9))))) : Prop :=
 (Term (etable_l0_step x) (etable_l0_pre x) ([],(0:Int)))
def etable_t (x : ((List I3) × ((List I2) × ((List I3) × (List I9))))) : Tr (List (I2 × (List Int))) true :=
 (LoopD.lp (etable_l0 x) (etable_l0_t x) ([],z0) fun r =>
 (.ret r))
abbrev etable_S : FnG := ⟨(.agg (Ty.prod (Ty.sl yy3) (Ty.prod (Ty.sl yy2) (Ty.prod (Ty.sl yy3) (Ty.sl yy9))))),(GPar.mk true yy2 yi),etable_pre,etable⟩
theorem etable_ok : SpecOk Try.prog 70 (fnSpecG etable_S) := SpecOk.trG etable_S etable_t (fn := Try.f70) tt_ok sp_epairs_ok mixed (by kernel_rfl) (ItsOk.nil _ _) (fun x => (LpsOk.tr tt_ok (SpecsOk.ctxI sp_epairs_ok (ItsOk.nil _ _)) mixed 0 (etable_l0 x) (etable_l0_t x) (LpsOk.tr tt_ok (SpecsOk.ctxI sp_epairs_ok (ItsOk.nil _ _)) mixed 2 (etable_l2 x) (etable_l2_t x) LpsOk.nil (by kernel_rfl) fun g s Q => (by kernel_rfl)) (by kernel_rfl) fun g s Q => (by kernel_rfl))) (fun x => (by kernel_rfl)) fun x Q => (by kernel_rfl)
def sp_etable : List (Nat × Ev.Spec) := (70,fnSpecG etable_S) :: sp_epairs
theorem sp_etable_ok : SpecsOk Try.prog sp_etable := SpecsOk.add (fn := Try.f70) (by kernel_rfl) etable_ok sp_epairs_ok
end Go.Proofs.Ytpbbnoggkbfkoaa
