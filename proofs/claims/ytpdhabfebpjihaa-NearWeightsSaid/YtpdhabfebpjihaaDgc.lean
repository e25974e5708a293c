/- Models of the law's functions that need no reference. -/
import Derived.Test.YtpdhabfebpjihaaDg
namespace Go.Proofs.Ytpdhabfebpjihaa
open Go Go.Ev Go.Proofs
set_option linter.unusedVariables false
noncomputable def l11weights (x : ((Int × Int) × ((Int × Int) × ((Int × Int) × (Int × Int))))) : Bool :=
 (letV (weights x) fun y =>
 (letV (mIn x) fun y_1 =>
 (if ((y.2.2 != (0 : Int)) = true) then
 (letV (l11neared false) fun y_2 =>
 (if (y_2 = true) then
 (if ((y_1.2 == y.2.2) = true) then
 (y.2.1 == (0 : Int)) else
 false) else
 false)) else
 (if ((y_1.2 != (0 : Int)) = true) then
 false else
 (if (y.2.1 ≤ (0 : Int)) then
 false else
 (if (((w64 ((w64 (y.1.1 + y.1.2.1)) + y.1.2.2)) != y.2.1) = true) then
 false else
 (if (y.1.1 ≥ (0 : Int)) then
 (if (y.1.2.1 ≥ (0 : Int)) then
 (if (y.1.1 > (0 : Int)) then
 (if (y.1.2.1 > (0 : Int)) then
 (letV (l11neared false) fun y_2 =>
 (if (y_2 = true) then
 (if (((w64 ((w64 ((w64 (y.1.1 * x.2.1.1)) + (w64 (y.1.2.1 * x.2.2.1.1)))) + (w64 (y.1.2.2 * x.2.2.2.1)))) == (w64 (y.2.1 * x.1.1))) = true) then
 (if (((w64 ((w64 ((w64 (y.1.1 * x.2.1.2)) + (w64 (y.1.2.1 * x.2.2.1.2)))) + (w64 (y.1.2.2 * x.2.2.2.2)))) == (w64 (y.2.1 * x.1.2))) = true) then
 (if (((decide (y.1.2.2 ≥ (0 : Int))) == (decide (y_1.1 > (0 : Int)))) = true) then
 ((decide (y.1.2.2 > (0 : Int))) == (y_1.1 == (2 : Int))) else
 false) else
 false) else
 false) else
 false)) else
 (letV (l11neared false) fun y_2 =>
 (if (y_2 = true) then
 (if (((w64 ((w64 ((w64 (y.1.1 * x.2.1.1)) + (w64 (y.1.2.1 * x.2.2.1.1)))) + (w64 (y.1.2.2 * x.2.2.2.1)))) == (w64 (y.2.1 * x.1.1))) = true) then
 (if (((w64 ((w64 ((w64 (y.1.1 * x.2.1.2)) + (w64 (y.1.2.1 * x.2.2.1.2)))) + (w64 (y.1.2.2 * x.2.2.2.2)))) == (w64 (y.2.1 * x.1.2))) = true) then
 (if (((decide (y.1.2.2 ≥ (0 : Int))) == (decide (y_1.1 > (0 : Int)))) = true) then
 (false == (y_1.1 == (2 : Int))) else
 false) else
 false) else
 false) else
 false))) else
 (letV (l11neared false) fun y_2 =>
 (if (y_2 = true) then
 (if (((w64 ((w64 ((w64 (y.1.1 * x.2.1.1)) + (w64 (y.1.2.1 * x.2.2.1.1)))) + (w64 (y.1.2.2 * x.2.2.2.1)))) == (w64 (y.2.1 * x.1.1))) = true) then
 (if (((w64 ((w64 ((w64 (y.1.1 * x.2.1.2)) + (w64 (y.1.2.1 * x.2.2.1.2)))) + (w64 (y.1.2.2 * x.2.2.2.2)))) == (w64 (y.2.1 * x.1.2))) = true) then
 (if (((decide (y.1.2.2 ≥ (0 : Int))) == (decide (y_1.1 > (0 : Int)))) = true) then
 (false == (y_1.1 == (2 : Int))) else
 false) else
 false) else
 false) else
 false))) else
 (if (y.1.1 > (0 : Int)) then
 (if (y.1.2.1 > (0 : Int)) then
 (letV (l11neared false) fun y_2 =>
 (if (y_2 = true) then
 (if (((w64 ((w64 ((w64 (y.1.1 * x.2.1.1)) + (w64 (y.1.2.1 * x.2.2.1.1)))) + (w64 (y.1.2.2 * x.2.2.2.1)))) == (w64 (y.2.1 * x.1.1))) = true) then
 (if (((w64 ((w64 ((w64 (y.1.1 * x.2.1.2)) + (w64 (y.1.2.1 * x.2.2.1.2)))) + (w64 (y.1.2.2 * x.2.2.2.2)))) == (w64 (y.2.1 * x.1.2))) = true) then
 (if ((false == (decide (y_1.1 > (0 : Int)))) = true) then
 ((decide (y.1.2.2 > (0 : Int))) == (y_1.1 == (2 : Int))) else
 false) else
 false) else
 false) else
 false)) else
 (letV (l11neared false) fun y_2 =>
 (if (y_2 = true) then
 (if (((w64 ((w64 ((w64 (y.1.1 * x.2.1.1)) + (w64 (y.1.2.1 * x.2.2.1.1)))) + (w64 (y.1.2.2 * x.2.2.2.1)))) == (w64 (y.2.1 * x.1.1))) = true) then
 (if (((w64 ((w64 ((w64 (y.1.1 * x.2.1.2)) + (w64 (y.1.2.1 * x.2.2.1.2)))) + (w64 (y.1.2.2 * x.2.2.2.2)))) == (w64 (y.2.1 * x.1.2))) = true) then
 (if ((false == (decide (y_1.1 > (0 : Int)))) = true) then
 (false == (y_1.1 == (2 : Int))) else
 false) else
 false) else
 false) else
 false))) else
 (letV (l11neared false) fun y_2 =>
 (if (y_2 = true) then
 (if (((w64 ((w64 ((w64 (y.1.1 * x.2.1.1)) + (w64 (y.1.2.1 * x.2.2.1.1)))) + (w64 (y.1.2.2 * x.2.2.2.1)))) == (w64 (y.2.1 * x.1.1))) = true) then
 (if (((w64 ((w64 ((w64 (y.1.1 * x.2.1.2)) + (w64 (y.1.2.1 * x.2.2.1.2)))) + (w64 (y.1.2.2 * x.2.2.2.2)))) == (w64 (y.2.1 * x.1.2))) = true) then
 (if ((false == (decide (y_1.1 > (0 : Int)))) = true) then
 (false == (y_1.1 == (2 : Int))) else
 false) else
 false) else
 false) else
 false)))) else
 (if (y.1.1 > (0 : Int)) then
 (if (y.1.2.1 > (0 : Int)) then
 (letV (l11neared false) fun y_2 =>
 (if (y_2 = true) then
 (if (((w64 ((w64 ((w64 (y.1.1 * x.2.1.1)) + (w64 (y.1.2.1 * x.2.2.1.1)))) + (w64 (y.1.2.2 * x.2.2.2.1)))) == (w64 (y.2.1 * x.1.1))) = true) then
 (if (((w64 ((w64 ((w64 (y.1.1 * x.2.1.2)) + (w64 (y.1.2.1 * x.2.2.1.2)))) + (w64 (y.1.2.2 * x.2.2.2.2)))) == (w64 (y.2.1 * x.1.2))) = true) then
 (if ((false == (decide (y_1.1 > (0 : Int)))) = true) then
 ((decide (y.1.2.2 > (0 : Int))) == (y_1.1 == (2 : Int))) else
 false) else
 false) else
 false) else
 false)) else
 (letV (l11neared false) fun y_2 =>
 (if (y_2 = true) then
 (if (((w64 ((w64 ((w64 (y.1.1 * x.2.1.1)) + (w64 (y.1.2.1 * x.2.2.1.1)))) + (w64 (y.1.2.2 * x.2.2.2.1)))) == (w64 (y.2.1 * x.1.1))) = true) then
 (if (((w64 ((w64 ((w64 (y.1.1 * x.2.1.2)) + (w64 (y.1.2.1 * x.2.2.1.2)))) + (w64 (y.1.2.2 * x.2.2.2.2)))) == (w64 (y.2.1 * x.1.2))) = true) then
 (if ((false == (decide (y_1.1 > (0 : Int)))) = true) then
 (false == (y_1.1 == (2 : Int))) else
 false) else
 false) else
 false) else
 false))) else
 (letV (l11neared false) fun y_2 =>
 (if (y_2 = true) then
 (if (((w64 ((w64 ((w64 (y.1.1 * x.2.1.1)) + (w64 (y.1.2.1 * x.2.2.1.1)))) + (w64 (y.1.2.2 * x.2.2.2.1)))) == (w64 (y.2.1 * x.1.1))) = true) then
 (if (((w64 ((w64 ((w64 (y.1.1 * x.2.1.2)) + (w64 (y.1.2.1 * x.2.2.1.2)))) + (w64 (y.1.2.2 * x.2.2.2.2)))) == (w64 (y.2.1 * x.1.2))) = true) then
 (if ((false == (decide (y_1.1 > (0 : Int)))) = true) then
 (false == (y_1.1 == (2 : Int))) else
 false) else
 false) else
 false) else
 false))))))))))
noncomputable def l11weights_pre (x : ((Int × Int) × ((Int × Int) × ((Int × Int) × (Int × Int))))) : Prop :=
 ((weights_pre x) ∧
 letP (weights x) fun y =>
 ((mIn_pre x) ∧
 letP (mIn x) fun y_1 =>
 ((((y.2.2 != (0 : Int)) = true) →
 (l11neared_pre false)) ∧
 (¬ ((y.2.2 != (0 : Int)) = true) →
 (¬ ((y_1.2 != (0 : Int)) = true) →
 (¬ (y.2.1 ≤ (0 : Int)) →
 (¬ (((w64 ((w64 (y.1.1 + y.1.2.1)) + y.1.2.2)) != y.2.1) = true) →
 (((y.1.1 ≥ (0 : Int)) →
 (((y.1.2.1 ≥ (0 : Int)) →
 (((y.1.1 > (0 : Int)) →
 (((y.1.2.1 > (0 : Int)) →
 (l11neared_pre false)) ∧
 (¬ (y.1.2.1 > (0 : Int)) →
 (l11neared_pre false)))) ∧
 (¬ (y.1.1 > (0 : Int)) →
 (l11neared_pre false)))) ∧
 (¬ (y.1.2.1 ≥ (0 : Int)) →
 (((y.1.1 > (0 : Int)) →
 (((y.1.2.1 > (0 : Int)) →
 (l11neared_pre false)) ∧
 (¬ (y.1.2.1 > (0 : Int)) →
 (l11neared_pre false)))) ∧
 (¬ (y.1.1 > (0 : Int)) →
 (l11neared_pre false)))))) ∧
 (¬ (y.1.1 ≥ (0 : Int)) →
 (((y.1.1 > (0 : Int)) →
 (((y.1.2.1 > (0 : Int)) →
 (l11neared_pre false)) ∧
 (¬ (y.1.2.1 > (0 : Int)) →
 (l11neared_pre false)))) ∧
 (¬ (y.1.1 > (0 : Int)) →
 (l11neared_pre false))))))))))))
theorem l11weights_vc (x : ((Int × Int) × ((Int × Int) × ((Int × Int) × (Int × Int))))) (Q : Bool → Prop) : fnE ⟨tt, sp_l11neared, noX, [], [], []⟩ Try.f5 (argsE (.pair (.agg (Ty.prod (Ty.int IntKind.i64) (Ty.int IntKind.i64))) (.agg (Ty.prod (Ty.prod (Ty.int IntKind.i64) (Ty.int IntKind.i64)) (Ty.prod (Ty.prod (Ty.int IntKind.i64) (Ty.int IntKind.i64)) (Ty.prod (Ty.int IntKind.i64) (Ty.int IntKind.i64)))))) x) (heapE (.pair (.agg (Ty.prod (Ty.int IntKind.i64) (Ty.int IntKind.i64))) (.agg (Ty.prod (Ty.prod (Ty.int IntKind.i64) (Ty.int IntKind.i64)) (Ty.prod (Ty.prod (Ty.int IntKind.i64) (Ty.int IntKind.i64)) (Ty.prod (Ty.int IntKind.i64) (Ty.int IntKind.i64)))))) x) (retE (.one Ty.bool) Q) =
 ((weights_pre x) ∧ ∀ y : ((Int × (Int × Int)) × (Int × Int)), y = (weights x) →
 ((mIn_pre x) ∧ ∀ y_1 : (Int × Int), y_1 = (mIn x) →
 (cB (y.2.2 != (0 : Int))
 ((l11neared_pre false) ∧ ∀ y_2 : Bool, y_2 = (l11neared false) →
 (cB y_2
 (cB (y_1.2 == y.2.2)
 (Q (y.2.1 == (0 : Int)))
 (Q false))
 (Q false)))
 (cB (y_1.2 != (0 : Int))
 (Q false)
 (cB (decide (y.2.1 ≤ (0 : Int)))
 (Q false)
 (cB ((w64 ((w64 (y.1.1 + y.1.2.1)) + y.1.2.2)) != y.2.1)
 (Q false)
 (cB (decide (y.1.1 ≥ (0 : Int)))
 (cB (decide (y.1.2.1 ≥ (0 : Int)))
 (cB (decide (y.1.1 > (0 : Int)))
 (cB (decide (y.1.2.1 > (0 : Int)))
 ((l11neared_pre false) ∧ ∀ y_2 : Bool, y_2 = (l11neared false) →
 (cB y_2
 (cB ((w64 ((w64 ((w64 (y.1.1 * x.2.1.1)) + (w64 (y.1.2.1 * x.2.2.1.1)))) + (w64 (y.1.2.2 * x.2.2.2.1)))) == (w64 (y.2.1 * x.1.1)))
 (cB ((w64 ((w64 ((w64 (y.1.1 * x.2.1.2)) + (w64 (y.1.2.1 * x.2.2.1.2)))) + (w64 (y.1.2.2 * x.2.2.2.2)))) == (w64 (y.2.1 * x.1.2)))
 (cB ((decide (y.1.2.2 ≥ (0 : Int))) == (decide (y_1.1 > (0 : Int))))
 (Q ((decide (y.1.2.2 > (0 : Int))) == (y_1.1 == (2 : Int))))
 (Q false))
 (Q false))
 (Q false))
 (Q false)))
 ((l11neared_pre false) ∧ ∀ y_2 : Bool, y_2 = (l11neared false) →
 (cB y_2
 (cB ((w64 ((w64 ((w64 (y.1.1 * x.2.1.1)) + (w64 (y.1.2.1 * x.2.2.1.1)))) + (w64 (y.1.2.2 * x.2.2.2.1)))) == (w64 (y.2.1 * x.1.1)))
 (cB ((w64 ((w64 ((w64 (y.1.1 * x.2.1.2)) + (w64 (y.1.2.1 * x.2.2.1.2)))) + (w64 (y.1.2.2 * x.2.2.2.2)))) == (w64 (y.2.1 * x.1.2)))
 (cB ((decide (y.1.2.2 ≥ (0 : Int))) == (decide (y_1.1 > (0 : Int))))
 (Q (false == (y_1.1 == (2 : Int))))
 (Q false))
 (Q false))
 (Q false))
 (Q false))))
 ((l11neared_pre false) ∧ ∀ y_2 : Bool, y_2 = (l11neared false) →
 (cB y_2
 (cB ((w64 ((w64 ((w64 (y.1.1 * x.2.1.1)) + (w64 (y.1.2.1 * x.2.2.1.1)))) + (w64 (y.1.2.2 * x.2.2.2.1)))) == (w64 (y.2.1 * x.1.1)))
 (cB ((w64 ((w64 ((w64 (y.1.1 * x.2.1.2)) + (w64 (y.1.2.1 * x.2.2.1.2)))) + (w64 (y.1.2.2 * x.2.2.2.2)))) == (w64 (y.2.1 * x.1.2)))
 (cB ((decide (y.1.2.2 ≥ (0 : Int))) == (decide (y_1.1 > (0 : Int))))
 (Q (false == (y_1.1 == (2 : Int))))
 (Q false))
 (Q false))
 (Q false))
 (Q false))))
 (cB (decide (y.1.1 > (0 : Int)))
 (cB (decide (y.1.2.1 > (0 : Int)))
 ((l11neared_pre false) ∧ ∀ y_2 : Bool, y_2 = (l11neared false) →
 (cB y_2
 (cB ((w64 ((w64 ((w64 (y.1.1 * x.2.1.1)) + (w64 (y.1.2.1 * x.2.2.1.1)))) + (w64 (y.1.2.2 * x.2.2.2.1)))) == (w64 (y.2.1 * x.1.1)))
 (cB ((w64 ((w64 ((w64 (y.1.1 * x.2.1.2)) + (w64 (y.1.2.1 * x.2.2.1.2)))) + (w64 (y.1.2.2 * x.2.2.2.2)))) == (w64 (y.2.1 * x.1.2)))
 (cB (false == (decide (y_1.1 > (0 : Int))))
 (Q ((decide (y.1.2.2 > (0 : Int))) == (y_1.1 == (2 : Int))))
 (Q false))
 (Q false))
 (Q false))
 (Q false)))
 ((l11neared_pre false) ∧ ∀ y_2 : Bool, y_2 = (l11neared false) →
 (cB y_2
 (cB ((w64 ((w64 ((w64 (y.1.1 * x.2.1.1)) + (w64 (y.1.2.1 * x.2.2.1.1)))) + (w64 (y.1.2.2 * x.2.2.2.1)))) == (w64 (y.2.1 * x.1.1)))
 (cB ((w64 ((w64 ((w64 (y.1.1 * x.2.1.2)) + (w64 (y.1.2.1 * x.2.2.1.2)))) + (w64 (y.1.2.2 * x.2.2.2.2)))) == (w64 (y.2.1 * x.1.2)))
 (cB (false == (decide (y_1.1 > (0 : Int))))
 (Q (false == (y_1.1 == (2 : Int))))
 (Q false))
 (Q false))
 (Q false))
 (Q false))))
 ((l11neared_pre false) ∧ ∀ y_2 : Bool, y_2 = (l11neared false) →
 (cB y_2
 (cB ((w64 ((w64 ((w64 (y.1.1 * x.2.1.1)) + (w64 (y.1.2.1 * x.2.2.1.1)))) + (w64 (y.1.2.2 * x.2.2.2.1)))) == (w64 (y.2.1 * x.1.1)))
 (cB ((w64 ((w64 ((w64 (y.1.1 * x.2.1.2)) + (w64 (y.1.2.1 * x.2.2.1.2)))) + (w64 (y.1.2.2 * x.2.2.2.2)))) == (w64 (y.2.1 * x.1.2)))
 (cB (false == (decide (y_1.1 > (0 : Int))))
 (Q (false == (y_1.1 == (2 : Int))))
 (Q false))
 (Q false))
 (Q false))
 (Q false)))))
 (cB (decide (y.1.1 > (0 : Int)))
 (cB (decide (y.1.2.1 > (0 : Int)))
 ((l11neared_pre false) ∧ ∀ y_2 : Bool, y_2 = (l11neared false) →
 (cB y_2
 (cB ((w64 ((w64 ((w64 (y.1.1 * x.2.1.1)) + (w64 (y.1.2.1 * x.2.2.1.1)))) + (w64 (y.1.2.2 * x.2.2.2.1)))) == (w64 (y.2.1 * x.1.1)))
 (cB ((w64 ((w64 ((w64 (y.1.1 * x.2.1.2)) + (w64 (y.1.2.1 * x.2.2.1.2)))) + (w64 (y.1.2.2 * x.2.2.2.2)))) == (w64 (y.2.1 * x.1.2)))
 (cB (false == (decide (y_1.1 > (0 : Int))))
 (Q ((decide (y.1.2.2 > (0 : Int))) == (y_1.1 == (2 : Int))))
 (Q false))
 (Q false))
 (Q false))
 (Q false)))
 ((l11neared_pre false) ∧ ∀ y_2 : Bool, y_2 = (l11neared false) →
 (cB y_2
 (cB ((w64 ((w64 ((w64 (y.1.1 * x.2.1.1)) + (w64 (y.1.2.1 * x.2.2.1.1)))) + (w64 (y.1.2.2 * x.2.2.2.1)))) == (w64 (y.2.1 * x.1.1)))
 (cB ((w64 ((w64 ((w64 (y.1.1 * x.2.1.2)) + (w64 (y.1.2.1 * x.2.2.1.2)))) + (w64 (y.1.2.2 * x.2.2.2.2)))) == (w64 (y.2.1 * x.1.2)))
 (cB (false == (decide (y_1.1 > (0 : Int))))
 (Q (false == (y_1.1 == (2 : Int))))
 (Q false))
 (Q false))
 (Q false))
 (Q false))))
 ((l11neared_pre false) ∧ ∀ y_2 : Bool, y_2 = (l11neared false) →
 (cB y_2
 (cB ((w64 ((w64 ((w64 (y.1.1 * x.2.1.1)) + (w64 (y.1.2.1 * x.2.2.1.1)))) + (w64 (y.1.2.2 * x.2.2.2.1)))) == (w64 (y.2.1 * x.1.1)))
 (cB ((w64 ((w64 ((w64 (y.1.1 * x.2.1.2)) + (w64 (y.1.2.1 * x.2.2.1.2)))) + (w64 (y.1.2.2 * x.2.2.2.2)))) == (w64 (y.2.1 * x.1.2)))
 (cB (false == (decide (y_1.1 > (0 : Int))))
 (Q (false == (y_1.1 == (2 : Int))))
 (Q false))
 (Q false))
 (Q false))
 (Q false))))))))))) := by kernel_rfl
theorem l11weights_fn (x : ((Int × Int) × ((Int × Int) × ((Int × Int) × (Int × Int))))) (Q : Bool → Prop) (hp : l11weights_pre x) (hq : Q (l11weights x)) : Vc (fnE ⟨tt, sp_l11neared, noX, [], [], []⟩ Try.f5 (argsE (.pair (.agg (Ty.prod (Ty.int IntKind.i64) (Ty.int IntKind.i64))) (.agg (Ty.prod (Ty.prod (Ty.int IntKind.i64) (Ty.int IntKind.i64)) (Ty.prod (Ty.prod (Ty.int IntKind.i64) (Ty.int IntKind.i64)) (Ty.prod (Ty.int IntKind.i64) (Ty.int IntKind.i64)))))) x) (heapE (.pair (.agg (Ty.prod (Ty.int IntKind.i64) (Ty.int IntKind.i64))) (.agg (Ty.prod (Ty.prod (Ty.int IntKind.i64) (Ty.int IntKind.i64)) (Ty.prod (Ty.prod (Ty.int IntKind.i64) (Ty.int IntKind.i64)) (Ty.prod (Ty.int IntKind.i64) (Ty.int IntKind.i64)))))) x) (retE (.one Ty.bool) Q)) := .eq (l11weights_vc x Q) (have hp := Eq.mp (l11weights_pre.eq_1 x) hp; have hq := Eq.mp (congrArg Q (l11weights.eq_1 x)) hq;
 (And.intro hp.1 (let_k (Q := Q) hp.2 hq fun y hp hq => (And.intro hp.1 (let_k (Q := Q) hp.2 hq fun y_1 hp hq => (cB_b (Q := Q) hq (fun c hq => have hp := (hp.1 c); (And.intro hp (let_0 (Q := Q) hq fun y_2 hq => (cB_b (Q := Q) hq (fun c hq => (cB_b (Q := Q) hq (fun c hq => hq) (fun c hq => hq))) (fun c hq => hq))))) (fun c hq => have hp := (hp.2 c); (cB_b (Q := Q) hq (fun c hq => hq) (fun c hq => have hp := (hp c); (cB_d (Q := Q) hq (fun c hq => hq) (fun c hq => have hp := (hp c); (cB_b (Q := Q) hq (fun c hq => hq) (fun c hq => have hp := (hp c); (cB_d (Q := Q) hq (fun c hq => have hp := (hp.1 c); (cB_d (Q := Q) hq (fun c hq => have hp := (hp.1 c); (cB_d (Q := Q) hq (fun c hq => have hp := (hp.1 c); (cB_d (Q := Q) hq (fun c hq => have hp := (hp.1 c); (And.intro hp (let_0 (Q := Q) hq fun y_2 hq => (cB_b (Q := Q) hq (fun c hq => (cB_b (Q := Q) hq (fun c hq => (cB_b (Q := Q) hq (fun c hq => (cB_b (Q := Q) hq (fun c hq => hq) (fun c hq => hq))) (fun c hq => hq))) (fun c hq => hq))) (fun c hq => hq))))) (fun c hq => have hp := (hp.2 c); (And.intro hp (let_0 (Q := Q) hq fun y_2 hq => (cB_b (Q := Q) hq (fun c hq => (cB_b (Q := Q) hq (fun c hq => (cB_b (Q := Q) hq (fun c hq => (cB_b (Q := Q) hq (fun c hq => hq) (fun c hq => hq))) (fun c hq => hq))) (fun c hq => hq))) (fun c hq => hq))))))) (fun c hq => have hp := (hp.2 c); (And.intro hp (let_0 (Q := Q) hq fun y_2 hq => (cB_b (Q := Q) hq (fun c hq => (cB_b (Q := Q) hq (fun c hq => (cB_b (Q := Q) hq (fun c hq => (cB_b (Q := Q) hq (fun c hq => hq) (fun c hq => hq))) (fun c hq => hq))) (fun c hq => hq))) (fun c hq => hq))))))) (fun c hq => have hp := (hp.2 c); (cB_d (Q := Q) hq (fun c hq => have hp := (hp.1 c); (cB_d (Q := Q) hq (fun c hq => have hp := (hp.1 c); (And.intro hp (let_0 (Q := Q) hq fun y_2 hq => (cB_b (Q := Q) hq (fun c hq => (cB_b (Q := Q) hq (fun c hq => (cB_b (Q := Q) hq (fun c hq => (cB_b (Q := Q) hq (fun c hq => hq) (fun c hq => hq))) (fun c hq => hq))) (fun c hq => hq))) (fun c hq => hq))))) (fun c hq => have hp := (hp.2 c); (And.intro hp (let_0 (Q := Q) hq fun y_2 hq => (cB_b (Q := Q) hq (fun c hq => (cB_b (Q := Q) hq (fun c hq => (cB_b (Q := Q) hq (fun c hq => (cB_b (Q := Q) hq (fun c hq => hq) (fun c hq => hq))) (fun c hq => hq))) (fun c hq => hq))) (fun c hq => hq))))))) (fun c hq => have hp := (hp.2 c); (And.intro hp (let_0 (Q := Q) hq fun y_2 hq => (cB_b (Q := Q) hq (fun c hq => (cB_b (Q := Q) hq (fun c hq => (cB_b (Q := Q) hq (fun c hq => (cB_b (Q := Q) hq (fun c hq => hq) (fun c hq => hq))) (fun c hq => hq))) (fun c hq => hq))) (fun c hq => hq))))))))) (fun c hq => have hp := (hp.2 c); (cB_d (Q := Q) hq (fun c hq => have hp := (hp.1 c); (cB_d (Q := Q) hq (fun c hq => have hp := (hp.1 c); (And.intro hp (let_0 (Q := Q) hq fun y_2 hq => (cB_b (Q := Q) hq (fun c hq => (cB_b (Q := Q) hq (fun c hq => (cB_b (Q := Q) hq (fun c hq => (cB_b (Q := Q) hq (fun c hq => hq) (fun c hq => hq))) (fun c hq => hq))) (fun c hq => hq))) (fun c hq => hq))))) (fun c hq => have hp := (hp.2 c); (And.intro hp (let_0 (Q := Q) hq fun y_2 hq => (cB_b (Q := Q) hq (fun c hq => (cB_b (Q := Q) hq (fun c hq => (cB_b (Q := Q) hq (fun c hq => (cB_b (Q := Q) hq (fun c hq => hq) (fun c hq => hq))) (fun c hq => hq))) (fun c hq => hq))) (fun c hq => hq))))))) (fun c hq => have hp := (hp.2 c); (And.intro hp (let_0 (Q := Q) hq fun y_2 hq => (cB_b (Q := Q) hq (fun c hq => (cB_b (Q := Q) hq (fun c hq => (cB_b (Q := Q) hq (fun c hq => (cB_b (Q := Q) hq (fun c hq => hq) (fun c hq => hq))) (fun c hq => hq))) (fun c hq => hq))) (fun c hq => hq)))))))))))))))))))))
noncomputable def l11weights_S : FnS := ⟨(.pair (.agg (Ty.prod (Ty.int IntKind.i64) (Ty.int IntKind.i64))) (.agg (Ty.prod (Ty.prod (Ty.int IntKind.i64) (Ty.int IntKind.i64)) (Ty.prod (Ty.prod (Ty.int IntKind.i64) (Ty.int IntKind.i64)) (Ty.prod (Ty.int IntKind.i64) (Ty.int IntKind.i64)))))), (.one Ty.bool), l11weights_pre, l11weights⟩
theorem l11weights_ok : SpecOk Try.prog 5 (fnSpec l11weights_S) := SpecOk.fnT' (fn := Try.f5) tt_ok sp_l11neared_ok mixed (by kernel_rfl) (by kernel_rfl) (.pair (.agg (Ty.prod (Ty.int IntKind.i64) (Ty.int IntKind.i64))) (.agg (Ty.prod (Ty.prod (Ty.int IntKind.i64) (Ty.int IntKind.i64)) (Ty.prod (Ty.prod (Ty.int IntKind.i64) (Ty.int IntKind.i64)) (Ty.prod (Ty.int IntKind.i64) (Ty.int IntKind.i64)))))) (.one Ty.bool) l11weights_pre l11weights (by kernel_rfl) fun x hp => ⟨_, _, (ItsOk.nil _ _), LpsOk.nil, l11weights_fn x (fun y => y = l11weights x) hp rfl⟩
def sp_l11weights : List (Nat × Ev.Spec) := (5, fnSpec l11weights_S) :: sp_l11neared
theorem sp_l11weights_ok : SpecsOk Try.prog sp_l11weights := SpecsOk.cons (Enters.of (fn := Try.f5) (by kernel_rfl) (by kernel_rfl) (by kernel_rfl)) l11weights_ok sp_l11neared_ok
end Go.Proofs.Ytpdhabfebpjihaa
