/- Models of the law's functions that need no reference. -/
import Derived.Test.YtpdhabfebpjihaaDg
namespace Go.Proofs.Ytpdhabfebpjihaa
open Go Go.Ev Go.Proofs
set_option linter.unusedVariables false
noncomputable def l11edge (x : ((Int × Int) × ((Int × Int) × (Int × Int)))) : Bool :=
 (letV (nedge x) fun y =>
 (if ((y.2.2.2 != (0 : Int)) = true) then
 (letV (l11neared false) fun y_1 =>
 (if (y_1 = true) then
 (letV (small2 [x.1, x.2.1, x.2.2]) fun y_2 =>
 (if ((!y_2) = true) then
 ((y.1.1 == (0 : Int)) && ((y.1.2 == (0 : Int)) && true)) else
 false)) else
 false)) else
 (letV (nedge (x.1, (x.2.2, x.2.1))) fun y_1 =>
 (if ((y_1.2.2.2 != (0 : Int)) = true) then
 false else
 (letV (fcmp (y_1.2.2.1, y.2.2.1)) fun y_2 =>
 (if ((y_2 != (0 : Int)) = true) then
 false else
 (if (y.2.2.1.1 < (0 : Int)) then
 false else
 (if (y.2.2.1.2 < (1 : Int)) then
 false else
 (letV (l11square (x.1, x.2.1)) fun y_3 =>
 (letV (fcmp (y.2.2.1, (y_3, (1 : Int)))) fun y_4 =>
 (if (y_4 > (0 : Int)) then
 false else
 (letV (l11square (x.1, x.2.2)) fun y_5 =>
 (letV (fcmp (y.2.2.1, (y_5, (1 : Int)))) fun y_6 =>
 (if (y_6 > (0 : Int)) then
 false else
 (if (y.1.1 < (minI x.2.1.1 x.2.2.1)) then
 false else
 (if (y.1.1 > (maxI x.2.1.1 x.2.2.1)) then
 false else
 (if (y.1.2 < (minI x.2.1.2 x.2.2.2)) then
 false else
 (if (y.1.2 > (maxI x.2.1.2 x.2.2.2)) then
 false else
 (letV (l11neared false) fun y_7 =>
 (if (y_7 = true) then
 (if ((y.2.1 != (0 : Int)) = true) then
 (if ((y.2.1 != (1 : Int)) = true) then
 ((y.2.1 == (2 : Int)) == (y_1.2.1 == (2 : Int))) else
 (if (((y.1.1 == x.2.2.1) && ((y.1.2 == x.2.2.2) && true)) = true) then
 (if ((y.2.2.1.2 == (1 : Int)) = true) then
 ((y.2.1 == (2 : Int)) == (y_1.2.1 == (2 : Int))) else
 false) else
 false)) else
 (if (((y.1.1 == x.2.1.1) && ((y.1.2 == x.2.1.2) && true)) = true) then
 (letV (l11square (x.1, x.2.1)) fun y_8 =>
 (if (((y.2.2.1.1 == y_8) && ((y.2.2.1.2 == (1 : Int)) && true)) = true) then
 (if ((y.2.1 != (1 : Int)) = true) then
 ((y.2.1 == (2 : Int)) == (y_1.2.1 == (2 : Int))) else
 (if (((y.1.1 == x.2.2.1) && ((y.1.2 == x.2.2.2) && true)) = true) then
 (if ((y.2.2.1.2 == (1 : Int)) = true) then
 ((y.2.1 == (2 : Int)) == (y_1.2.1 == (2 : Int))) else
 false) else
 false)) else
 false)) else
 false)) else
 false))))))))))))))))))))
noncomputable def l11edge_pre (x : ((Int × Int) × ((Int × Int) × (Int × Int)))) : Prop :=
 ((nedge_pre x) ∧
 letP (nedge x) fun y =>
 ((((y.2.2.2 != (0 : Int)) = true) →
 ((l11neared_pre false) ∧
 letP (l11neared false) fun y_1 =>
 ((y_1 = true) →
 (small2_pre [x.1, x.2.1, x.2.2])))) ∧
 (¬ ((y.2.2.2 != (0 : Int)) = true) →
 ((nedge_pre (x.1, (x.2.2, x.2.1))) ∧
 letP (nedge (x.1, (x.2.2, x.2.1))) fun y_1 =>
 (¬ ((y_1.2.2.2 != (0 : Int)) = true) →
 ((fcmp_pre (y_1.2.2.1, y.2.2.1)) ∧
 letP (fcmp (y_1.2.2.1, y.2.2.1)) fun y_2 =>
 (¬ ((y_2 != (0 : Int)) = true) →
 (¬ (y.2.2.1.1 < (0 : Int)) →
 (¬ (y.2.2.1.2 < (1 : Int)) →
 (letP (l11square (x.1, x.2.1)) fun y_3 =>
 ((fcmp_pre (y.2.2.1, (y_3, (1 : Int)))) ∧
 letP (fcmp (y.2.2.1, (y_3, (1 : Int)))) fun y_4 =>
 (¬ (y_4 > (0 : Int)) →
 (letP (l11square (x.1, x.2.2)) fun y_5 =>
 ((fcmp_pre (y.2.2.1, (y_5, (1 : Int)))) ∧
 letP (fcmp (y.2.2.1, (y_5, (1 : Int)))) fun y_6 =>
 (¬ (y_6 > (0 : Int)) →
 (¬ (y.1.1 < (minI x.2.1.1 x.2.2.1)) →
 (¬ (y.1.1 > (maxI x.2.1.1 x.2.2.1)) →
 (¬ (y.1.2 < (minI x.2.1.2 x.2.2.2)) →
 (¬ (y.1.2 > (maxI x.2.1.2 x.2.2.2)) →
 (l11neared_pre false))))))))))))))))))))
theorem l11edge_vc (x : ((Int × Int) × ((Int × Int) × (Int × Int)))) (Q : Bool → Prop) : fnE ⟨tt, sp_l11neared, noX, [], [], []⟩ Try.f4 (argsE (.pair (.agg (Ty.prod (Ty.int IntKind.i64) (Ty.int IntKind.i64))) (.pair (.agg (Ty.prod (Ty.int IntKind.i64) (Ty.int IntKind.i64))) (.agg (Ty.prod (Ty.int IntKind.i64) (Ty.int IntKind.i64))))) x) (heapE (.pair (.agg (Ty.prod (Ty.int IntKind.i64) (Ty.int IntKind.i64))) (.pair (.agg (Ty.prod (Ty.int IntKind.i64) (Ty.int IntKind.i64))) (.agg (Ty.prod (Ty.int IntKind.i64) (Ty.int IntKind.i64))))) x) (retE (.one Ty.bool) Q) =
 ((nedge_pre x) ∧ ∀ y : ((Int × Int) × (Int × ((Int × Int) × Int))), y = (nedge x) →
 (cB (y.2.2.2 != (0 : Int))
 ((l11neared_pre false) ∧ ∀ y_1 : Bool, y_1 = (l11neared false) →
 (cB y_1
 ((small2_pre [x.1, x.2.1, x.2.2]) ∧ ∀ y_2 : Bool, y_2 = (small2 [x.1, x.2.1, x.2.2]) →
 (cB (!y_2)
 (Q ((y.1.1 == (0 : Int)) && ((y.1.2 == (0 : Int)) && true)))
 (Q false)))
 (Q false)))
 ((nedge_pre (x.1, (x.2.2, x.2.1))) ∧ ∀ y_1 : ((Int × Int) × (Int × ((Int × Int) × Int))), y_1 = (nedge (x.1, (x.2.2, x.2.1))) →
 (cB (y_1.2.2.2 != (0 : Int))
 (Q false)
 ((fcmp_pre (y_1.2.2.1, y.2.2.1)) ∧ ∀ y_2 : Int, y_2 = (fcmp (y_1.2.2.1, y.2.2.1)) →
 (cB (y_2 != (0 : Int))
 (Q false)
 (cB (decide (y.2.2.1.1 < (0 : Int)))
 (Q false)
 (cB (decide (y.2.2.1.2 < (1 : Int)))
 (Q false)
 ((l11square_pre (x.1, x.2.1)) ∧ ∀ y_3 : Int, y_3 = (l11square (x.1, x.2.1)) →
 ((fcmp_pre (y.2.2.1, (y_3, (1 : Int)))) ∧ ∀ y_4 : Int, y_4 = (fcmp (y.2.2.1, (y_3, (1 : Int)))) →
 (cB (decide (y_4 > (0 : Int)))
 (Q false)
 ((l11square_pre (x.1, x.2.2)) ∧ ∀ y_5 : Int, y_5 = (l11square (x.1, x.2.2)) →
 ((fcmp_pre (y.2.2.1, (y_5, (1 : Int)))) ∧ ∀ y_6 : Int, y_6 = (fcmp (y.2.2.1, (y_5, (1 : Int)))) →
 (cB (decide (y_6 > (0 : Int)))
 (Q false)
 (cB (decide (y.1.1 < (minI x.2.1.1 x.2.2.1)))
 (Q false)
 (cB (decide (y.1.1 > (maxI x.2.1.1 x.2.2.1)))
 (Q false)
 (cB (decide (y.1.2 < (minI x.2.1.2 x.2.2.2)))
 (Q false)
 (cB (decide (y.1.2 > (maxI x.2.1.2 x.2.2.2)))
 (Q false)
 ((l11neared_pre false) ∧ ∀ y_7 : Bool, y_7 = (l11neared false) →
 (cB y_7
 (cB (y.2.1 != (0 : Int))
 (cB (y.2.1 != (1 : Int))
 (Q ((y.2.1 == (2 : Int)) == (y_1.2.1 == (2 : Int))))
 (cB ((y.1.1 == x.2.2.1) && ((y.1.2 == x.2.2.2) && true))
 (cB (y.2.2.1.2 == (1 : Int))
 (Q ((y.2.1 == (2 : Int)) == (y_1.2.1 == (2 : Int))))
 (Q false))
 (Q false)))
 (cB ((y.1.1 == x.2.1.1) && ((y.1.2 == x.2.1.2) && true))
 ((l11square_pre (x.1, x.2.1)) ∧ ∀ y_8 : Int, y_8 = (l11square (x.1, x.2.1)) →
 (cB ((y.2.2.1.1 == y_8) && ((y.2.2.1.2 == (1 : Int)) && true))
 (cB (y.2.1 != (1 : Int))
 (Q ((y.2.1 == (2 : Int)) == (y_1.2.1 == (2 : Int))))
 (cB ((y.1.1 == x.2.2.1) && ((y.1.2 == x.2.2.2) && true))
 (cB (y.2.2.1.2 == (1 : Int))
 (Q ((y.2.1 == (2 : Int)) == (y_1.2.1 == (2 : Int))))
 (Q false))
 (Q false)))
 (Q false)))
 (Q false)))
 (Q false))))))))))))))))))))) := by kernel_rfl
theorem l11edge_fn (x : ((Int × Int) × ((Int × Int) × (Int × Int)))) (Q : Bool → Prop) (hp : l11edge_pre x) (hq : Q (l11edge x)) : Vc (fnE ⟨tt, sp_l11neared, noX, [], [], []⟩ Try.f4 (argsE (.pair (.agg (Ty.prod (Ty.int IntKind.i64) (Ty.int IntKind.i64))) (.pair (.agg (Ty.prod (Ty.int IntKind.i64) (Ty.int IntKind.i64))) (.agg (Ty.prod (Ty.int IntKind.i64) (Ty.int IntKind.i64))))) x) (heapE (.pair (.agg (Ty.prod (Ty.int IntKind.i64) (Ty.int IntKind.i64))) (.pair (.agg (Ty.prod (Ty.int IntKind.i64) (Ty.int IntKind.i64))) (.agg (Ty.prod (Ty.int IntKind.i64) (Ty.int IntKind.i64))))) x) (retE (.one Ty.bool) Q)) := .eq (l11edge_vc x Q) (have hp := Eq.mp (l11edge_pre.eq_1 x) hp; have hq := Eq.mp (congrArg Q (l11edge.eq_1 x)) hq;
 (And.intro hp.1 (let_k (Q := Q) hp.2 hq fun y hp hq => (cB_b (Q := Q) hq (fun c hq => have hp := (hp.1 c); (And.intro hp.1 (let_k (Q := Q) hp.2 hq fun y_1 hp hq => (cB_b (Q := Q) hq (fun c hq => have hp := (hp c); (And.intro hp (let_0 (Q := Q) hq fun y_2 hq => (cB_b (Q := Q) hq (fun c hq => hq) (fun c hq => hq))))) (fun c hq => hq))))) (fun c hq => have hp := (hp.2 c); (And.intro hp.1 (let_k (Q := Q) hp.2 hq fun y_1 hp hq => (cB_b (Q := Q) hq (fun c hq => hq) (fun c hq => have hp := (hp c); (And.intro hp.1 (let_k (Q := Q) hp.2 hq fun y_2 hp hq => (cB_b (Q := Q) hq (fun c hq => hq) (fun c hq => have hp := (hp c); (cB_d (Q := Q) hq (fun c hq => hq) (fun c hq => have hp := (hp c); (cB_d (Q := Q) hq (fun c hq => hq) (fun c hq => have hp := (hp c); (And.intro trivial (let_k (Q := Q) hp hq fun y_3 hp hq => (And.intro hp.1 (let_k (Q := Q) hp.2 hq fun y_4 hp hq => (cB_d (Q := Q) hq (fun c hq => hq) (fun c hq => have hp := (hp c); (And.intro trivial (let_k (Q := Q) hp hq fun y_5 hp hq => (And.intro hp.1 (let_k (Q := Q) hp.2 hq fun y_6 hp hq => (cB_d (Q := Q) hq (fun c hq => hq) (fun c hq => have hp := (hp c); (cB_d (Q := Q) hq (fun c hq => hq) (fun c hq => have hp := (hp c); (cB_d (Q := Q) hq (fun c hq => hq) (fun c hq => have hp := (hp c); (cB_d (Q := Q) hq (fun c hq => hq) (fun c hq => have hp := (hp c); (cB_d (Q := Q) hq (fun c hq => hq) (fun c hq => have hp := (hp c); (And.intro hp (let_0 (Q := Q) hq fun y_7 hq => (cB_b (Q := Q) hq (fun c hq => (cB_b (Q := Q) hq (fun c hq => (cB_b (Q := Q) hq (fun c hq => hq) (fun c hq => (cB_b (Q := Q) hq (fun c hq => (cB_b (Q := Q) hq (fun c hq => hq) (fun c hq => hq))) (fun c hq => hq))))) (fun c hq => (cB_b (Q := Q) hq (fun c hq => (And.intro trivial (let_0 (Q := Q) hq fun y_8 hq => (cB_b (Q := Q) hq (fun c hq => (cB_b (Q := Q) hq (fun c hq => hq) (fun c hq => (cB_b (Q := Q) hq (fun c hq => (cB_b (Q := Q) hq (fun c hq => hq) (fun c hq => hq))) (fun c hq => hq))))) (fun c hq => hq))))) (fun c hq => hq))))) (fun c hq => hq)))))))))))))))))))))))))))))))))))))))))
noncomputable def l11edge_S : FnS := ⟨(.pair (.agg (Ty.prod (Ty.int IntKind.i64) (Ty.int IntKind.i64))) (.pair (.agg (Ty.prod (Ty.int IntKind.i64) (Ty.int IntKind.i64))) (.agg (Ty.prod (Ty.int IntKind.i64) (Ty.int IntKind.i64))))), (.one Ty.bool), l11edge_pre, l11edge⟩
theorem l11edge_ok : SpecOk Try.prog 4 (fnSpec l11edge_S) := SpecOk.fnT' (fn := Try.f4) tt_ok sp_l11neared_ok mixed (by kernel_rfl) (by kernel_rfl) (.pair (.agg (Ty.prod (Ty.int IntKind.i64) (Ty.int IntKind.i64))) (.pair (.agg (Ty.prod (Ty.int IntKind.i64) (Ty.int IntKind.i64))) (.agg (Ty.prod (Ty.int IntKind.i64) (Ty.int IntKind.i64))))) (.one Ty.bool) l11edge_pre l11edge (by kernel_rfl) fun x hp => ⟨_, _, (ItsOk.nil _ _), LpsOk.nil, l11edge_fn x (fun y => y = l11edge x) hp rfl⟩
def sp_l11edge : List (Nat × Ev.Spec) := (4, fnSpec l11edge_S) :: sp_l11neared
theorem sp_l11edge_ok : SpecsOk Try.prog sp_l11edge := SpecsOk.cons (Enters.of (fn := Try.f4) (by kernel_rfl) (by kernel_rfl) (by kernel_rfl)) l11edge_ok sp_l11neared_ok
end Go.Proofs.Ytpdhabfebpjihaa
