/- The model of NearDoes' function. -/
import Derived.Test.YtpdhabfebpjihaaDd
namespace Go.Proofs.Ytpdhabfebpjihaa
open Go Go.Ev Go.Proofs
set_option linter.unusedVariables false
noncomputable def l11does (x : ((Int × Int) × ((Int × Int) × ((Int × Int) × (((Int × Int) × ((Int × Int) × (Int × Int))) × ((Int × (Int × Int)) × ((Int × (Int × Int)) × (Int × (Int × Int))))))))) : Bool :=
 (letV (nedge (x.1, (x.2.1, x.2.2.1))) fun y =>
 (letV (r11edge (x.1, (x.2.1, x.2.2.1))) fun y_1 =>
 (letV (closest (x.1, x.2.2.2.1)) fun y_2 =>
 (letV (r11closest (x.1, x.2.2.2.1)) fun y_3 =>
 (letV (weights (x.1, x.2.2.2.1)) fun y_4 =>
 (letV (r11weights (x.1, x.2.2.2.1)) fun y_5 =>
 (letV (nlift (x.1, x.2.2.2)) fun y_6 =>
 (letV (r11lift (x.1, x.2.2.2)) fun y_7 =>
 (letV (l11neared false) fun y_8 =>
 (if (y_8 = true) then
 (if (((y.1.1 == y_1.1.1) && ((y.1.2 == y_1.1.2) && true)) = true) then
 (if ((y.2.1 == y_1.2.1) = true) then
 (if (((y.2.2.1.1 == y_1.2.2.1.1) && ((y.2.2.1.2 == y_1.2.2.1.2) && true)) = true) then
 (if ((y.2.2.2 == y_1.2.2.2) = true) then
 (if (((y_2.1.1 == y_3.1.1) && ((y_2.1.2 == y_3.1.2) && true)) = true) then
 (if (((y_2.2.1.1 == y_3.2.1.1) && ((y_2.2.1.2 == y_3.2.1.2) && true)) = true) then
 (if ((y_2.2.2 == y_3.2.2) = true) then
 (if (((y_4.1.1 == y_5.1.1) && ((y_4.1.2.1 == y_5.1.2.1) && ((y_4.1.2.2 == y_5.1.2.2) && true))) = true) then
 (if ((y_4.2.1 == y_5.2.1) = true) then
 (if ((y_4.2.2 == y_5.2.2) = true) then
 (if (((y_6.1.1 == y_7.1.1) && ((y_6.1.2.1 == y_7.1.2.1) && ((y_6.1.2.2 == y_7.1.2.2) && true))) = true) then
 (y_6.2 == y_7.2) else
 false) else
 false) else
 false) else
 false) else
 false) else
 false) else
 false) else
 false) else
 false) else
 false) else
 false) else
 false))))))))))
noncomputable def l11does_pre (x : ((Int × Int) × ((Int × Int) × ((Int × Int) × (((Int × Int) × ((Int × Int) × (Int × Int))) × ((Int × (Int × Int)) × ((Int × (Int × Int)) × (Int × (Int × Int))))))))) : Prop :=
 ((nedge_pre (x.1, (x.2.1, x.2.2.1))) ∧
 letP (nedge (x.1, (x.2.1, x.2.2.1))) fun y =>
 ((r11edge_pre (x.1, (x.2.1, x.2.2.1))) ∧
 letP (r11edge (x.1, (x.2.1, x.2.2.1))) fun y_1 =>
 ((closest_pre (x.1, x.2.2.2.1)) ∧
 letP (closest (x.1, x.2.2.2.1)) fun y_2 =>
 ((r11closest_pre (x.1, x.2.2.2.1)) ∧
 letP (r11closest (x.1, x.2.2.2.1)) fun y_3 =>
 ((weights_pre (x.1, x.2.2.2.1)) ∧
 letP (weights (x.1, x.2.2.2.1)) fun y_4 =>
 ((r11weights_pre (x.1, x.2.2.2.1)) ∧
 letP (r11weights (x.1, x.2.2.2.1)) fun y_5 =>
 ((nlift_pre (x.1, x.2.2.2)) ∧
 letP (nlift (x.1, x.2.2.2)) fun y_6 =>
 ((r11lift_pre (x.1, x.2.2.2)) ∧
 letP (r11lift (x.1, x.2.2.2)) fun y_7 =>
 (l11neared_pre false)))))))))
theorem l11does_vc (x : ((Int × Int) × ((Int × Int) × ((Int × Int) × (((Int × Int) × ((Int × Int) × (Int × Int))) × ((Int × (Int × Int)) × ((Int × (Int × Int)) × (Int × (Int × Int))))))))) (Q : Bool → Prop) : fnE ⟨tt, sp_r11lift, noX, [], [], []⟩ Try.f6 (argsE (.pair (.agg (Ty.prod (Ty.int IntKind.i64) (Ty.int IntKind.i64))) (.pair (.agg (Ty.prod (Ty.int IntKind.i64) (Ty.int IntKind.i64))) (.pair (.agg (Ty.prod (Ty.int IntKind.i64) (Ty.int IntKind.i64))) (.pair (.agg (Ty.prod (Ty.prod (Ty.int IntKind.i64) (Ty.int IntKind.i64)) (Ty.prod (Ty.prod (Ty.int IntKind.i64) (Ty.int IntKind.i64)) (Ty.prod (Ty.int IntKind.i64) (Ty.int IntKind.i64))))) (.agg (Ty.prod (Ty.prod (Ty.int IntKind.i64) (Ty.prod (Ty.int IntKind.i64) (Ty.int IntKind.i64))) (Ty.prod (Ty.prod (Ty.int IntKind.i64) (Ty.prod (Ty.int IntKind.i64) (Ty.int IntKind.i64))) (Ty.prod (Ty.int IntKind.i64) (Ty.prod (Ty.int IntKind.i64) (Ty.int IntKind.i64)))))))))) x) (heapE (.pair (.agg (Ty.prod (Ty.int IntKind.i64) (Ty.int IntKind.i64))) (.pair (.agg (Ty.prod (Ty.int IntKind.i64) (Ty.int IntKind.i64))) (.pair (.agg (Ty.prod (Ty.int IntKind.i64) (Ty.int IntKind.i64))) (.pair (.agg (Ty.prod (Ty.prod (Ty.int IntKind.i64) (Ty.int IntKind.i64)) (Ty.prod (Ty.prod (Ty.int IntKind.i64) (Ty.int IntKind.i64)) (Ty.prod (Ty.int IntKind.i64) (Ty.int IntKind.i64))))) (.agg (Ty.prod (Ty.prod (Ty.int IntKind.i64) (Ty.prod (Ty.int IntKind.i64) (Ty.int IntKind.i64))) (Ty.prod (Ty.prod (Ty.int IntKind.i64) (Ty.prod (Ty.int IntKind.i64) (Ty.int IntKind.i64))) (Ty.prod (Ty.int IntKind.i64) (Ty.prod (Ty.int IntKind.i64) (Ty.int IntKind.i64)))))))))) x) (retE (.one Ty.bool) Q) =
 ((nedge_pre (x.1, (x.2.1, x.2.2.1))) ∧ ∀ y : ((Int × Int) × (Int × ((Int × Int) × Int))), y = (nedge (x.1, (x.2.1, x.2.2.1))) →
 ((r11edge_pre (x.1, (x.2.1, x.2.2.1))) ∧ ∀ y_1 : ((Int × Int) × (Int × ((Int × Int) × Int))), y_1 = (r11edge (x.1, (x.2.1, x.2.2.1))) →
 ((closest_pre (x.1, x.2.2.2.1)) ∧ ∀ y_2 : ((Int × Int) × ((Int × Int) × Int)), y_2 = (closest (x.1, x.2.2.2.1)) →
 ((r11closest_pre (x.1, x.2.2.2.1)) ∧ ∀ y_3 : ((Int × Int) × ((Int × Int) × Int)), y_3 = (r11closest (x.1, x.2.2.2.1)) →
 ((weights_pre (x.1, x.2.2.2.1)) ∧ ∀ y_4 : ((Int × (Int × Int)) × (Int × Int)), y_4 = (weights (x.1, x.2.2.2.1)) →
 ((r11weights_pre (x.1, x.2.2.2.1)) ∧ ∀ y_5 : ((Int × (Int × Int)) × (Int × Int)), y_5 = (r11weights (x.1, x.2.2.2.1)) →
 ((nlift_pre (x.1, x.2.2.2)) ∧ ∀ y_6 : ((Int × (Int × Int)) × Int), y_6 = (nlift (x.1, x.2.2.2)) →
 ((r11lift_pre (x.1, x.2.2.2)) ∧ ∀ y_7 : ((Int × (Int × Int)) × Int), y_7 = (r11lift (x.1, x.2.2.2)) →
 ((l11neared_pre false) ∧ ∀ y_8 : Bool, y_8 = (l11neared false) →
 (cB y_8
 (cB ((y.1.1 == y_1.1.1) && ((y.1.2 == y_1.1.2) && true))
 (cB (y.2.1 == y_1.2.1)
 (cB ((y.2.2.1.1 == y_1.2.2.1.1) && ((y.2.2.1.2 == y_1.2.2.1.2) && true))
 (cB (y.2.2.2 == y_1.2.2.2)
 (cB ((y_2.1.1 == y_3.1.1) && ((y_2.1.2 == y_3.1.2) && true))
 (cB ((y_2.2.1.1 == y_3.2.1.1) && ((y_2.2.1.2 == y_3.2.1.2) && true))
 (cB (y_2.2.2 == y_3.2.2)
 (cB ((y_4.1.1 == y_5.1.1) && ((y_4.1.2.1 == y_5.1.2.1) && ((y_4.1.2.2 == y_5.1.2.2) && true)))
 (cB (y_4.2.1 == y_5.2.1)
 (cB (y_4.2.2 == y_5.2.2)
 (cB ((y_6.1.1 == y_7.1.1) && ((y_6.1.2.1 == y_7.1.2.1) && ((y_6.1.2.2 == y_7.1.2.2) && true)))
 (Q (y_6.2 == y_7.2))
 (Q false))
 (Q false))
 (Q false))
 (Q false))
 (Q false))
 (Q false))
 (Q false))
 (Q false))
 (Q false))
 (Q false))
 (Q false))
 (Q false))))))))))) := by kernel_rfl
theorem l11does_fn (x : ((Int × Int) × ((Int × Int) × ((Int × Int) × (((Int × Int) × ((Int × Int) × (Int × Int))) × ((Int × (Int × Int)) × ((Int × (Int × Int)) × (Int × (Int × Int))))))))) (Q : Bool → Prop) (hp : l11does_pre x) (hq : Q (l11does x)) : Vc (fnE ⟨tt, sp_r11lift, noX, [], [], []⟩ Try.f6 (argsE (.pair (.agg (Ty.prod (Ty.int IntKind.i64) (Ty.int IntKind.i64))) (.pair (.agg (Ty.prod (Ty.int IntKind.i64) (Ty.int IntKind.i64))) (.pair (.agg (Ty.prod (Ty.int IntKind.i64) (Ty.int IntKind.i64))) (.pair (.agg (Ty.prod (Ty.prod (Ty.int IntKind.i64) (Ty.int IntKind.i64)) (Ty.prod (Ty.prod (Ty.int IntKind.i64) (Ty.int IntKind.i64)) (Ty.prod (Ty.int IntKind.i64) (Ty.int IntKind.i64))))) (.agg (Ty.prod (Ty.prod (Ty.int IntKind.i64) (Ty.prod (Ty.int IntKind.i64) (Ty.int IntKind.i64))) (Ty.prod (Ty.prod (Ty.int IntKind.i64) (Ty.prod (Ty.int IntKind.i64) (Ty.int IntKind.i64))) (Ty.prod (Ty.int IntKind.i64) (Ty.prod (Ty.int IntKind.i64) (Ty.int IntKind.i64)))))))))) x) (heapE (.pair (.agg (Ty.prod (Ty.int IntKind.i64) (Ty.int IntKind.i64))) (.pair (.agg (Ty.prod (Ty.int IntKind.i64) (Ty.int IntKind.i64))) (.pair (.agg (Ty.prod (Ty.int IntKind.i64) (Ty.int IntKind.i64))) (.pair (.agg (Ty.prod (Ty.prod (Ty.int IntKind.i64) (Ty.int IntKind.i64)) (Ty.prod (Ty.prod (Ty.int IntKind.i64) (Ty.int IntKind.i64)) (Ty.prod (Ty.int IntKind.i64) (Ty.int IntKind.i64))))) (.agg (Ty.prod (Ty.prod (Ty.int IntKind.i64) (Ty.prod (Ty.int IntKind.i64) (Ty.int IntKind.i64))) (Ty.prod (Ty.prod (Ty.int IntKind.i64) (Ty.prod (Ty.int IntKind.i64) (Ty.int IntKind.i64))) (Ty.prod (Ty.int IntKind.i64) (Ty.prod (Ty.int IntKind.i64) (Ty.int IntKind.i64)))))))))) x) (retE (.one Ty.bool) Q)) := .eq (l11does_vc x Q) (have hp := Eq.mp (l11does_pre.eq_1 x) hp; have hq := Eq.mp (congrArg Q (l11does.eq_1 x)) hq;
 (And.intro hp.1 (let_k (Q := Q) hp.2 hq fun y hp hq => (And.intro hp.1 (let_k (Q := Q) hp.2 hq fun y_1 hp hq => (And.intro hp.1 (let_k (Q := Q) hp.2 hq fun y_2 hp hq => (And.intro hp.1 (let_k (Q := Q) hp.2 hq fun y_3 hp hq => (And.intro hp.1 (let_k (Q := Q) hp.2 hq fun y_4 hp hq => (And.intro hp.1 (let_k (Q := Q) hp.2 hq fun y_5 hp hq => (And.intro hp.1 (let_k (Q := Q) hp.2 hq fun y_6 hp hq => (And.intro hp.1 (let_k (Q := Q) hp.2 hq fun y_7 hp hq => (And.intro hp (let_0 (Q := Q) hq fun y_8 hq => (cB_b (Q := Q) hq (fun c hq => (cB_b (Q := Q) hq (fun c hq => (cB_b (Q := Q) hq (fun c hq => (cB_b (Q := Q) hq (fun c hq => (cB_b (Q := Q) hq (fun c hq => (cB_b (Q := Q) hq (fun c hq => (cB_b (Q := Q) hq (fun c hq => (cB_b (Q := Q) hq (fun c hq => (cB_b (Q := Q) hq (fun c hq => (cB_b (Q := Q) hq (fun c hq => (cB_b (Q := Q) hq (fun c hq => (cB_b (Q := Q) hq (fun c hq => hq) (fun c hq => hq))) (fun c hq => hq))) (fun c hq => hq))) (fun c hq => hq))) (fun c hq => hq))) (fun c hq => hq))) (fun c hq => hq))) (fun c hq => hq))) (fun c hq => hq))) (fun c hq => hq))) (fun c hq => hq))) (fun c hq => hq)))))))))))))))))))))
noncomputable def l11does_S : FnS := ⟨(.pair (.agg (Ty.prod (Ty.int IntKind.i64) (Ty.int IntKind.i64))) (.pair (.agg (Ty.prod (Ty.int IntKind.i64) (Ty.int IntKind.i64))) (.pair (.agg (Ty.prod (Ty.int IntKind.i64) (Ty.int IntKind.i64))) (.pair (.agg (Ty.prod (Ty.prod (Ty.int IntKind.i64) (Ty.int IntKind.i64)) (Ty.prod (Ty.prod (Ty.int IntKind.i64) (Ty.int IntKind.i64)) (Ty.prod (Ty.int IntKind.i64) (Ty.int IntKind.i64))))) (.agg (Ty.prod (Ty.prod (Ty.int IntKind.i64) (Ty.prod (Ty.int IntKind.i64) (Ty.int IntKind.i64))) (Ty.prod (Ty.prod (Ty.int IntKind.i64) (Ty.prod (Ty.int IntKind.i64) (Ty.int IntKind.i64))) (Ty.prod (Ty.int IntKind.i64) (Ty.prod (Ty.int IntKind.i64) (Ty.int IntKind.i64)))))))))), (.one Ty.bool), l11does_pre, l11does⟩
theorem l11does_ok : SpecOk Try.prog 6 (fnSpec l11does_S) := SpecOk.fnT' (fn := Try.f6) tt_ok sp_r11lift_ok mixed (by kernel_rfl) (by kernel_rfl) (.pair (.agg (Ty.prod (Ty.int IntKind.i64) (Ty.int IntKind.i64))) (.pair (.agg (Ty.prod (Ty.int IntKind.i64) (Ty.int IntKind.i64))) (.pair (.agg (Ty.prod (Ty.int IntKind.i64) (Ty.int IntKind.i64))) (.pair (.agg (Ty.prod (Ty.prod (Ty.int IntKind.i64) (Ty.int IntKind.i64)) (Ty.prod (Ty.prod (Ty.int IntKind.i64) (Ty.int IntKind.i64)) (Ty.prod (Ty.int IntKind.i64) (Ty.int IntKind.i64))))) (.agg (Ty.prod (Ty.prod (Ty.int IntKind.i64) (Ty.prod (Ty.int IntKind.i64) (Ty.int IntKind.i64))) (Ty.prod (Ty.prod (Ty.int IntKind.i64) (Ty.prod (Ty.int IntKind.i64) (Ty.int IntKind.i64))) (Ty.prod (Ty.int IntKind.i64) (Ty.prod (Ty.int IntKind.i64) (Ty.int IntKind.i64)))))))))) (.one Ty.bool) l11does_pre l11does (by kernel_rfl) fun x hp => ⟨_, _, (ItsOk.nil _ _), LpsOk.nil, l11does_fn x (fun y => y = l11does x) hp rfl⟩
def sp_l11does : List (Nat × Ev.Spec) := (6, fnSpec l11does_S) :: sp_r11lift
theorem sp_l11does_ok : SpecsOk Try.prog sp_l11does := SpecsOk.cons (Enters.of (fn := Try.f6) (by kernel_rfl) (by kernel_rfl) (by kernel_rfl)) l11does_ok sp_r11lift_ok
end Go.Proofs.Ytpdhabfebpjihaa
