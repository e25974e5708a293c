/- Models of the law's functions that need no reference. -/
import Derived.Test.YtpdhabfebpjihaaDg
namespace Go.Proofs.Ytpdhabfebpjihaa
open Go Go.Ev Go.Proofs
set_option linter.unusedVariables false
noncomputable def l11lift (x : ((Int × Int) × (((Int × Int) × ((Int × Int) × (Int × Int))) × ((Int × (Int × Int)) × ((Int × (Int × Int)) × (Int × (Int × Int))))))) : Bool :=
 (letV (nlift x) fun y =>
 (if ((y.2 != (0 : Int)) = true) then
 (letV (l11neared false) fun y_1 =>
 (if (y_1 = true) then
 ((y.1.1 == (0 : Int)) && ((y.1.2.1 == (0 : Int)) && ((y.1.2.2 == (0 : Int)) && true))) else
 false)) else
 (letV (nlift (x.2.1.1, x.2)) fun y_1 =>
 (letV (nlift (x.1, (x.2.1, (x.2.2.1, (x.2.2.1, x.2.2.1))))) fun y_2 =>
 (if ((y_1.2 != (0 : Int)) = true) then
 false else
 (if ((!((y_1.1.1 == x.2.2.1.1) && ((y_1.1.2.1 == x.2.2.1.2.1) && ((y_1.1.2.2 == x.2.2.1.2.2) && true)))) = true) then
 false else
 (if ((y_2.2 != (0 : Int)) = true) then
 false else
 (if ((!((y_2.1.1 == x.2.2.1.1) && ((y_2.1.2.1 == x.2.2.1.2.1) && ((y_2.1.2.2 == x.2.2.1.2.2) && true)))) = true) then
 false else
 (letV (nlift (x.2.1.2.1, x.2)) fun y_3 =>
 (letV (nlift (x.1, (x.2.1, (x.2.2.2.1, (x.2.2.2.1, x.2.2.2.1))))) fun y_4 =>
 (if ((y_3.2 != (0 : Int)) = true) then
 false else
 (if ((!((y_3.1.1 == x.2.2.2.1.1) && ((y_3.1.2.1 == x.2.2.2.1.2.1) && ((y_3.1.2.2 == x.2.2.2.1.2.2) && true)))) = true) then
 false else
 (if ((y_4.2 != (0 : Int)) = true) then
 false else
 (if ((!((y_4.1.1 == x.2.2.2.1.1) && ((y_4.1.2.1 == x.2.2.2.1.2.1) && ((y_4.1.2.2 == x.2.2.2.1.2.2) && true)))) = true) then
 false else
 (letV (nlift (x.2.1.2.2, x.2)) fun y_5 =>
 (letV (nlift (x.1, (x.2.1, (x.2.2.2.2, (x.2.2.2.2, x.2.2.2.2))))) fun y_6 =>
 (if ((y_5.2 != (0 : Int)) = true) then
 false else
 (if ((!((y_5.1.1 == x.2.2.2.2.1) && ((y_5.1.2.1 == x.2.2.2.2.2.1) && ((y_5.1.2.2 == x.2.2.2.2.2.2) && true)))) = true) then
 false else
 (if ((y_6.2 != (0 : Int)) = true) then
 false else
 (if ((!((y_6.1.1 == x.2.2.2.2.1) && ((y_6.1.2.1 == x.2.2.2.2.2.1) && ((y_6.1.2.2 == x.2.2.2.2.2.2) && true)))) = true) then
 false else
 (letV (mIn (x.1, x.2.1)) fun y_7 =>
 (if ((y_7.2 != (0 : Int)) = true) then
 (letV (l11neared false) fun y_8 =>
 (if (y_8 = true) then
 (y_7.2 == (0 : Int)) else
 false)) else
 (if ((y_7.1 == (0 : Int)) = true) then
 (letV (l11neared false) fun y_8 =>
 (if (y_8 = true) then
 (y_7.2 == (0 : Int)) else
 false)) else
 (letV (l11neared false) fun y_8 =>
 (if (y_8 = true) then
 (if (y.1.1 ≥ (minI (minI x.2.2.1.1 x.2.2.2.1.1) x.2.2.2.2.1)) then
 (if (y.1.1 ≤ (maxI (maxI x.2.2.1.1 x.2.2.2.1.1) x.2.2.2.2.1)) then
 (if (y.1.2.1 ≥ (minI (minI x.2.2.1.2.1 x.2.2.2.1.2.1) x.2.2.2.2.2.1)) then
 (if (y.1.2.1 ≤ (maxI (maxI x.2.2.1.2.1 x.2.2.2.1.2.1) x.2.2.2.2.2.1)) then
 (if (y.1.2.2 ≥ (minI (minI x.2.2.1.2.2 x.2.2.2.1.2.2) x.2.2.2.2.2.2)) then
 (decide (y.1.2.2 ≤ (maxI (maxI x.2.2.1.2.2 x.2.2.2.1.2.2) x.2.2.2.2.2.2))) else
 false) else
 false) else
 false) else
 false) else
 false) else
 false)))))))))))))))))))))))))
noncomputable def l11lift_pre (x : ((Int × Int) × (((Int × Int) × ((Int × Int) × (Int × Int))) × ((Int × (Int × Int)) × ((Int × (Int × Int)) × (Int × (Int × Int))))))) : Prop :=
 ((nlift_pre x) ∧
 letP (nlift x) fun y =>
 ((((y.2 != (0 : Int)) = true) →
 (l11neared_pre false)) ∧
 (¬ ((y.2 != (0 : Int)) = true) →
 ((nlift_pre (x.2.1.1, x.2)) ∧
 letP (nlift (x.2.1.1, x.2)) fun y_1 =>
 ((nlift_pre (x.1, (x.2.1, (x.2.2.1, (x.2.2.1, x.2.2.1))))) ∧
 letP (nlift (x.1, (x.2.1, (x.2.2.1, (x.2.2.1, x.2.2.1))))) fun y_2 =>
 (¬ ((y_1.2 != (0 : Int)) = true) →
 (¬ ((!((y_1.1.1 == x.2.2.1.1) && ((y_1.1.2.1 == x.2.2.1.2.1) && ((y_1.1.2.2 == x.2.2.1.2.2) && true)))) = true) →
 (¬ ((y_2.2 != (0 : Int)) = true) →
 (¬ ((!((y_2.1.1 == x.2.2.1.1) && ((y_2.1.2.1 == x.2.2.1.2.1) && ((y_2.1.2.2 == x.2.2.1.2.2) && true)))) = true) →
 ((nlift_pre (x.2.1.2.1, x.2)) ∧
 letP (nlift (x.2.1.2.1, x.2)) fun y_3 =>
 ((nlift_pre (x.1, (x.2.1, (x.2.2.2.1, (x.2.2.2.1, x.2.2.2.1))))) ∧
 letP (nlift (x.1, (x.2.1, (x.2.2.2.1, (x.2.2.2.1, x.2.2.2.1))))) fun y_4 =>
 (¬ ((y_3.2 != (0 : Int)) = true) →
 (¬ ((!((y_3.1.1 == x.2.2.2.1.1) && ((y_3.1.2.1 == x.2.2.2.1.2.1) && ((y_3.1.2.2 == x.2.2.2.1.2.2) && true)))) = true) →
 (¬ ((y_4.2 != (0 : Int)) = true) →
 (¬ ((!((y_4.1.1 == x.2.2.2.1.1) && ((y_4.1.2.1 == x.2.2.2.1.2.1) && ((y_4.1.2.2 == x.2.2.2.1.2.2) && true)))) = true) →
 ((nlift_pre (x.2.1.2.2, x.2)) ∧
 letP (nlift (x.2.1.2.2, x.2)) fun y_5 =>
 ((nlift_pre (x.1, (x.2.1, (x.2.2.2.2, (x.2.2.2.2, x.2.2.2.2))))) ∧
 letP (nlift (x.1, (x.2.1, (x.2.2.2.2, (x.2.2.2.2, x.2.2.2.2))))) fun y_6 =>
 (¬ ((y_5.2 != (0 : Int)) = true) →
 (¬ ((!((y_5.1.1 == x.2.2.2.2.1) && ((y_5.1.2.1 == x.2.2.2.2.2.1) && ((y_5.1.2.2 == x.2.2.2.2.2.2) && true)))) = true) →
 (¬ ((y_6.2 != (0 : Int)) = true) →
 (¬ ((!((y_6.1.1 == x.2.2.2.2.1) && ((y_6.1.2.1 == x.2.2.2.2.2.1) && ((y_6.1.2.2 == x.2.2.2.2.2.2) && true)))) = true) →
 ((mIn_pre (x.1, x.2.1)) ∧
 letP (mIn (x.1, x.2.1)) fun y_7 =>
 ((((y_7.2 != (0 : Int)) = true) →
 (l11neared_pre false)) ∧
 (¬ ((y_7.2 != (0 : Int)) = true) →
 ((((y_7.1 == (0 : Int)) = true) →
 (l11neared_pre false)) ∧
 (¬ ((y_7.1 == (0 : Int)) = true) →
 (l11neared_pre false)))))))))))))))))))))))))))
theorem l11lift_vc (x : ((Int × Int) × (((Int × Int) × ((Int × Int) × (Int × Int))) × ((Int × (Int × Int)) × ((Int × (Int × Int)) × (Int × (Int × Int))))))) (Q : Bool → Prop) : fnE ⟨tt, sp_l11neared, noX, [(0, unrolled tt sp_l11neared noX [] [] [] 0 (cI (blk 0 (bodyOf Try.f7))) 4)], [], []⟩ Try.f7 (argsE (.pair (.agg (Ty.prod (Ty.int IntKind.i64) (Ty.int IntKind.i64))) (.pair (.agg (Ty.prod (Ty.prod (Ty.int IntKind.i64) (Ty.int IntKind.i64)) (Ty.prod (Ty.prod (Ty.int IntKind.i64) (Ty.int IntKind.i64)) (Ty.prod (Ty.int IntKind.i64) (Ty.int IntKind.i64))))) (.agg (Ty.prod (Ty.prod (Ty.int IntKind.i64) (Ty.prod (Ty.int IntKind.i64) (Ty.int IntKind.i64))) (Ty.prod (Ty.prod (Ty.int IntKind.i64) (Ty.prod (Ty.int IntKind.i64) (Ty.int IntKind.i64))) (Ty.prod (Ty.int IntKind.i64) (Ty.prod (Ty.int IntKind.i64) (Ty.int IntKind.i64)))))))) x) (heapE (.pair (.agg (Ty.prod (Ty.int IntKind.i64) (Ty.int IntKind.i64))) (.pair (.agg (Ty.prod (Ty.prod (Ty.int IntKind.i64) (Ty.int IntKind.i64)) (Ty.prod (Ty.prod (Ty.int IntKind.i64) (Ty.int IntKind.i64)) (Ty.prod (Ty.int IntKind.i64) (Ty.int IntKind.i64))))) (.agg (Ty.prod (Ty.prod (Ty.int IntKind.i64) (Ty.prod (Ty.int IntKind.i64) (Ty.int IntKind.i64))) (Ty.prod (Ty.prod (Ty.int IntKind.i64) (Ty.prod (Ty.int IntKind.i64) (Ty.int IntKind.i64))) (Ty.prod (Ty.int IntKind.i64) (Ty.prod (Ty.int IntKind.i64) (Ty.int IntKind.i64)))))))) x) (retE (.one Ty.bool) Q) =
 ((nlift_pre x) ∧ ∀ y : ((Int × (Int × Int)) × Int), y = (nlift x) →
 (cB (y.2 != (0 : Int))
 ((l11neared_pre false) ∧ ∀ y_1 : Bool, y_1 = (l11neared false) →
 (cB y_1
 (Q ((y.1.1 == (0 : Int)) && ((y.1.2.1 == (0 : Int)) && ((y.1.2.2 == (0 : Int)) && true))))
 (Q false)))
 ((nlift_pre (x.2.1.1, x.2)) ∧ ∀ y_1 : ((Int × (Int × Int)) × Int), y_1 = (nlift (x.2.1.1, x.2)) →
 ((nlift_pre (x.1, (x.2.1, (x.2.2.1, (x.2.2.1, x.2.2.1))))) ∧ ∀ y_2 : ((Int × (Int × Int)) × Int), y_2 = (nlift (x.1, (x.2.1, (x.2.2.1, (x.2.2.1, x.2.2.1))))) →
 (cB (y_1.2 != (0 : Int))
 (Q false)
 (cB (!((y_1.1.1 == x.2.2.1.1) && ((y_1.1.2.1 == x.2.2.1.2.1) && ((y_1.1.2.2 == x.2.2.1.2.2) && true))))
 (Q false)
 (cB (y_2.2 != (0 : Int))
 (Q false)
 (cB (!((y_2.1.1 == x.2.2.1.1) && ((y_2.1.2.1 == x.2.2.1.2.1) && ((y_2.1.2.2 == x.2.2.1.2.2) && true))))
 (Q false)
 ((nlift_pre (x.2.1.2.1, x.2)) ∧ ∀ y_3 : ((Int × (Int × Int)) × Int), y_3 = (nlift (x.2.1.2.1, x.2)) →
 ((nlift_pre (x.1, (x.2.1, (x.2.2.2.1, (x.2.2.2.1, x.2.2.2.1))))) ∧ ∀ y_4 : ((Int × (Int × Int)) × Int), y_4 = (nlift (x.1, (x.2.1, (x.2.2.2.1, (x.2.2.2.1, x.2.2.2.1))))) →
 (cB (y_3.2 != (0 : Int))
 (Q false)
 (cB (!((y_3.1.1 == x.2.2.2.1.1) && ((y_3.1.2.1 == x.2.2.2.1.2.1) && ((y_3.1.2.2 == x.2.2.2.1.2.2) && true))))
 (Q false)
 (cB (y_4.2 != (0 : Int))
 (Q false)
 (cB (!((y_4.1.1 == x.2.2.2.1.1) && ((y_4.1.2.1 == x.2.2.2.1.2.1) && ((y_4.1.2.2 == x.2.2.2.1.2.2) && true))))
 (Q false)
 ((nlift_pre (x.2.1.2.2, x.2)) ∧ ∀ y_5 : ((Int × (Int × Int)) × Int), y_5 = (nlift (x.2.1.2.2, x.2)) →
 ((nlift_pre (x.1, (x.2.1, (x.2.2.2.2, (x.2.2.2.2, x.2.2.2.2))))) ∧ ∀ y_6 : ((Int × (Int × Int)) × Int), y_6 = (nlift (x.1, (x.2.1, (x.2.2.2.2, (x.2.2.2.2, x.2.2.2.2))))) →
 (cB (y_5.2 != (0 : Int))
 (Q false)
 (cB (!((y_5.1.1 == x.2.2.2.2.1) && ((y_5.1.2.1 == x.2.2.2.2.2.1) && ((y_5.1.2.2 == x.2.2.2.2.2.2) && true))))
 (Q false)
 (cB (y_6.2 != (0 : Int))
 (Q false)
 (cB (!((y_6.1.1 == x.2.2.2.2.1) && ((y_6.1.2.1 == x.2.2.2.2.2.1) && ((y_6.1.2.2 == x.2.2.2.2.2.2) && true))))
 (Q false)
 ((mIn_pre (x.1, x.2.1)) ∧ ∀ y_7 : (Int × Int), y_7 = (mIn (x.1, x.2.1)) →
 (cB (y_7.2 != (0 : Int))
 ((l11neared_pre false) ∧ ∀ y_8 : Bool, y_8 = (l11neared false) →
 (cB y_8
 (Q (y_7.2 == (0 : Int)))
 (Q false)))
 (cB (y_7.1 == (0 : Int))
 ((l11neared_pre false) ∧ ∀ y_8 : Bool, y_8 = (l11neared false) →
 (cB y_8
 (Q (y_7.2 == (0 : Int)))
 (Q false)))
 ((l11neared_pre false) ∧ ∀ y_8 : Bool, y_8 = (l11neared false) →
 (cB y_8
 (cB (decide (y.1.1 ≥ (minI (minI x.2.2.1.1 x.2.2.2.1.1) x.2.2.2.2.1)))
 (cB (decide (y.1.1 ≤ (maxI (maxI x.2.2.1.1 x.2.2.2.1.1) x.2.2.2.2.1)))
 (cB (decide (y.1.2.1 ≥ (minI (minI x.2.2.1.2.1 x.2.2.2.1.2.1) x.2.2.2.2.2.1)))
 (cB (decide (y.1.2.1 ≤ (maxI (maxI x.2.2.1.2.1 x.2.2.2.1.2.1) x.2.2.2.2.2.1)))
 (cB (decide (y.1.2.2 ≥ (minI (minI x.2.2.1.2.2 x.2.2.2.1.2.2) x.2.2.2.2.2.2)))
 (Q (decide (y.1.2.2 ≤ (maxI (maxI x.2.2.1.2.2 x.2.2.2.1.2.2) x.2.2.2.2.2.2))))
 (Q false))
 (Q false))
 (Q false))
 (Q false))
 (Q false))
 (Q false)))))))))))))))))))))))))) := by kernel_rfl
theorem l11lift_fn (x : ((Int × Int) × (((Int × Int) × ((Int × Int) × (Int × Int))) × ((Int × (Int × Int)) × ((Int × (Int × Int)) × (Int × (Int × Int))))))) (Q : Bool → Prop) (hp : l11lift_pre x) (hq : Q (l11lift x)) : Vc (fnE ⟨tt, sp_l11neared, noX, [(0, unrolled tt sp_l11neared noX [] [] [] 0 (cI (blk 0 (bodyOf Try.f7))) 4)], [], []⟩ Try.f7 (argsE (.pair (.agg (Ty.prod (Ty.int IntKind.i64) (Ty.int IntKind.i64))) (.pair (.agg (Ty.prod (Ty.prod (Ty.int IntKind.i64) (Ty.int IntKind.i64)) (Ty.prod (Ty.prod (Ty.int IntKind.i64) (Ty.int IntKind.i64)) (Ty.prod (Ty.int IntKind.i64) (Ty.int IntKind.i64))))) (.agg (Ty.prod (Ty.prod (Ty.int IntKind.i64) (Ty.prod (Ty.int IntKind.i64) (Ty.int IntKind.i64))) (Ty.prod (Ty.prod (Ty.int IntKind.i64) (Ty.prod (Ty.int IntKind.i64) (Ty.int IntKind.i64))) (Ty.prod (Ty.int IntKind.i64) (Ty.prod (Ty.int IntKind.i64) (Ty.int IntKind.i64)))))))) x) (heapE (.pair (.agg (Ty.prod (Ty.int IntKind.i64) (Ty.int IntKind.i64))) (.pair (.agg (Ty.prod (Ty.prod (Ty.int IntKind.i64) (Ty.int IntKind.i64)) (Ty.prod (Ty.prod (Ty.int IntKind.i64) (Ty.int IntKind.i64)) (Ty.prod (Ty.int IntKind.i64) (Ty.int IntKind.i64))))) (.agg (Ty.prod (Ty.prod (Ty.int IntKind.i64) (Ty.prod (Ty.int IntKind.i64) (Ty.int IntKind.i64))) (Ty.prod (Ty.prod (Ty.int IntKind.i64) (Ty.prod (Ty.int IntKind.i64) (Ty.int IntKind.i64))) (Ty.prod (Ty.int IntKind.i64) (Ty.prod (Ty.int IntKind.i64) (Ty.int IntKind.i64)))))))) x) (retE (.one Ty.bool) Q)) := .eq (l11lift_vc x Q) (have hp := Eq.mp (l11lift_pre.eq_1 x) hp; have hq := Eq.mp (congrArg Q (l11lift.eq_1 x)) hq;
 (And.intro hp.1 (let_k (Q := Q) hp.2 hq fun y hp hq => (cB_b (Q := Q) hq (fun c hq => have hp := (hp.1 c); (And.intro hp (let_0 (Q := Q) hq fun y_1 hq => (cB_b (Q := Q) hq (fun c hq => hq) (fun c hq => hq))))) (fun c hq => have hp := (hp.2 c); (And.intro hp.1 (let_k (Q := Q) hp.2 hq fun y_1 hp hq => (And.intro hp.1 (let_k (Q := Q) hp.2 hq fun y_2 hp hq => (cB_b (Q := Q) hq (fun c hq => hq) (fun c hq => have hp := (hp c); (cB_b (Q := Q) hq (fun c hq => hq) (fun c hq => have hp := (hp c); (cB_b (Q := Q) hq (fun c hq => hq) (fun c hq => have hp := (hp c); (cB_b (Q := Q) hq (fun c hq => hq) (fun c hq => have hp := (hp c); (And.intro hp.1 (let_k (Q := Q) hp.2 hq fun y_3 hp hq => (And.intro hp.1 (let_k (Q := Q) hp.2 hq fun y_4 hp hq => (cB_b (Q := Q) hq (fun c hq => hq) (fun c hq => have hp := (hp c); (cB_b (Q := Q) hq (fun c hq => hq) (fun c hq => have hp := (hp c); (cB_b (Q := Q) hq (fun c hq => hq) (fun c hq => have hp := (hp c); (cB_b (Q := Q) hq (fun c hq => hq) (fun c hq => have hp := (hp c); (And.intro hp.1 (let_k (Q := Q) hp.2 hq fun y_5 hp hq => (And.intro hp.1 (let_k (Q := Q) hp.2 hq fun y_6 hp hq => (cB_b (Q := Q) hq (fun c hq => hq) (fun c hq => have hp := (hp c); (cB_b (Q := Q) hq (fun c hq => hq) (fun c hq => have hp := (hp c); (cB_b (Q := Q) hq (fun c hq => hq) (fun c hq => have hp := (hp c); (cB_b (Q := Q) hq (fun c hq => hq) (fun c hq => have hp := (hp c); (And.intro hp.1 (let_k (Q := Q) hp.2 hq fun y_7 hp hq => (cB_b (Q := Q) hq (fun c hq => have hp := (hp.1 c); (And.intro hp (let_0 (Q := Q) hq fun y_8 hq => (cB_b (Q := Q) hq (fun c hq => hq) (fun c hq => hq))))) (fun c hq => have hp := (hp.2 c); (cB_b (Q := Q) hq (fun c hq => have hp := (hp.1 c); (And.intro hp (let_0 (Q := Q) hq fun y_8 hq => (cB_b (Q := Q) hq (fun c hq => hq) (fun c hq => hq))))) (fun c hq => have hp := (hp.2 c); (And.intro hp (let_0 (Q := Q) hq fun y_8 hq => (cB_b (Q := Q) hq (fun c hq => (cB_d (Q := Q) hq (fun c hq => (cB_d (Q := Q) hq (fun c hq => (cB_d (Q := Q) hq (fun c hq => (cB_d (Q := Q) hq (fun c hq => (cB_d (Q := Q) hq (fun c hq => hq) (fun c hq => hq))) (fun c hq => hq))) (fun c hq => hq))) (fun c hq => hq))) (fun c hq => hq))) (fun c hq => hq)))))))))))))))))))))))))))))))))))))))))))))))))))
noncomputable def l11lift_S : FnS := ⟨(.pair (.agg (Ty.prod (Ty.int IntKind.i64) (Ty.int IntKind.i64))) (.pair (.agg (Ty.prod (Ty.prod (Ty.int IntKind.i64) (Ty.int IntKind.i64)) (Ty.prod (Ty.prod (Ty.int IntKind.i64) (Ty.int IntKind.i64)) (Ty.prod (Ty.int IntKind.i64) (Ty.int IntKind.i64))))) (.agg (Ty.prod (Ty.prod (Ty.int IntKind.i64) (Ty.prod (Ty.int IntKind.i64) (Ty.int IntKind.i64))) (Ty.prod (Ty.prod (Ty.int IntKind.i64) (Ty.prod (Ty.int IntKind.i64) (Ty.int IntKind.i64))) (Ty.prod (Ty.int IntKind.i64) (Ty.prod (Ty.int IntKind.i64) (Ty.int IntKind.i64)))))))), (.one Ty.bool), l11lift_pre, l11lift⟩
theorem l11lift_ok : SpecOk Try.prog 7 (fnSpec l11lift_S) := SpecOk.fnT' (fn := Try.f7) tt_ok sp_l11neared_ok mixed (by kernel_rfl) (by kernel_rfl) (.pair (.agg (Ty.prod (Ty.int IntKind.i64) (Ty.int IntKind.i64))) (.pair (.agg (Ty.prod (Ty.prod (Ty.int IntKind.i64) (Ty.int IntKind.i64)) (Ty.prod (Ty.prod (Ty.int IntKind.i64) (Ty.int IntKind.i64)) (Ty.prod (Ty.int IntKind.i64) (Ty.int IntKind.i64))))) (.agg (Ty.prod (Ty.prod (Ty.int IntKind.i64) (Ty.prod (Ty.int IntKind.i64) (Ty.int IntKind.i64))) (Ty.prod (Ty.prod (Ty.int IntKind.i64) (Ty.prod (Ty.int IntKind.i64) (Ty.int IntKind.i64))) (Ty.prod (Ty.int IntKind.i64) (Ty.prod (Ty.int IntKind.i64) (Ty.int IntKind.i64)))))))) (.one Ty.bool) l11lift_pre l11lift (by kernel_rfl) fun x hp => ⟨_, _, (ItsOk.nil _ _), (LpsOk.unroll tt_ok (SpecsOk.ctxI sp_l11neared_ok (ItsOk.nil _ _)) mixed _ LpsOk.nil (by kernel_rfl) (by kernel_rfl)), l11lift_fn x (fun y => y = l11lift x) hp rfl⟩
def sp_l11lift : List (Nat × Ev.Spec) := (7, fnSpec l11lift_S) :: sp_l11neared
theorem sp_l11lift_ok : SpecsOk Try.prog sp_l11lift := SpecsOk.cons (Enters.of (fn := Try.f7) (by kernel_rfl) (by kernel_rfl) (by kernel_rfl)) l11lift_ok sp_l11neared_ok
end Go.Proofs.Ytpdhabfebpjihaa
