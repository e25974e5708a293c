/- Models of the law's functions that need no reference. -/
import Derived.Test.YtpdhabfebpjihaaDb
namespace Go.Proofs.Ytpdhabfebpjihaa
open Go Go.Ev Go.Proofs
set_option linter.unusedVariables false
noncomputable def l11square (x : ((Int × Int) × (Int × Int))) : Int :=
 (w64 ((w64 ((w64 (x.2.1 - x.1.1)) * (w64 (x.2.1 - x.1.1)))) + (w64 ((w64 (x.2.2 - x.1.2)) * (w64 (x.2.2 - x.1.2))))))
noncomputable def l11square_pre (_ : ((Int × Int) × (Int × Int))) : Prop := True
theorem l11square_vc (x : ((Int × Int) × (Int × Int))) (Q : Int → Prop) : fnE ⟨tt, sp_nlift, noX, [], [], []⟩ Try.f13 (argsE (.pair (.agg (Ty.prod (Ty.int IntKind.i64) (Ty.int IntKind.i64))) (.agg (Ty.prod (Ty.int IntKind.i64) (Ty.int IntKind.i64)))) x) (heapE (.pair (.agg (Ty.prod (Ty.int IntKind.i64) (Ty.int IntKind.i64))) (.agg (Ty.prod (Ty.int IntKind.i64) (Ty.int IntKind.i64)))) x) (retE (.one (Ty.int IntKind.i64)) Q) =
 (Q (w64 ((w64 ((w64 (x.2.1 - x.1.1)) * (w64 (x.2.1 - x.1.1)))) + (w64 ((w64 (x.2.2 - x.1.2)) * (w64 (x.2.2 - x.1.2))))))) := by kernel_rfl
theorem l11square_fn (x : ((Int × Int) × (Int × Int))) (Q : Int → Prop) (hp : l11square_pre x) (hq : Q (l11square x)) : Vc (fnE ⟨tt, sp_nlift, noX, [], [], []⟩ Try.f13 (argsE (.pair (.agg (Ty.prod (Ty.int IntKind.i64) (Ty.int IntKind.i64))) (.agg (Ty.prod (Ty.int IntKind.i64) (Ty.int IntKind.i64)))) x) (heapE (.pair (.agg (Ty.prod (Ty.int IntKind.i64) (Ty.int IntKind.i64))) (.agg (Ty.prod (Ty.int IntKind.i64) (Ty.int IntKind.i64)))) x) (retE (.one (Ty.int IntKind.i64)) Q)) := .eq (l11square_vc x Q) (have hp := Eq.mp (l11square_pre.eq_1 x) hp; have hq := Eq.mp (congrArg Q (l11square.eq_1 x)) hq;
 hq)
noncomputable def l11square_S : FnS := ⟨(.pair (.agg (Ty.prod (Ty.int IntKind.i64) (Ty.int IntKind.i64))) (.agg (Ty.prod (Ty.int IntKind.i64) (Ty.int IntKind.i64)))), (.one (Ty.int IntKind.i64)), l11square_pre, l11square⟩
theorem l11square_ok : SpecOk Try.prog 13 (fnSpec l11square_S) := SpecOk.fnT' (fn := Try.f13) tt_ok sp_nlift_ok mixed (by kernel_rfl) (by kernel_rfl) (.pair (.agg (Ty.prod (Ty.int IntKind.i64) (Ty.int IntKind.i64))) (.agg (Ty.prod (Ty.int IntKind.i64) (Ty.int IntKind.i64)))) (.one (Ty.int IntKind.i64)) l11square_pre l11square (by kernel_rfl) fun x hp => ⟨_, _, (ItsOk.nil _ _), LpsOk.nil, l11square_fn x (fun y => y = l11square x) hp rfl⟩
def sp_l11square : List (Nat × Ev.Spec) := (13, fnSpec l11square_S) :: sp_nlift
theorem sp_l11square_ok : SpecsOk Try.prog sp_l11square := SpecsOk.cons (Enters.of (fn := Try.f13) (by kernel_rfl) (by kernel_rfl) (by kernel_rfl)) l11square_ok sp_nlift_ok
noncomputable def l11neared (x : Bool) : Bool :=
 (letV (nedge (((2 : Int), (3 : Int)), (((0 : Int), (0 : Int)), ((4 : Int), (0 : Int))))) fun y =>
 (letV (nedge (((-1 : Int), (1 : Int)), (((0 : Int), (0 : Int)), ((4 : Int), (0 : Int))))) fun y_1 =>
 (letV (closest (((3 : Int), (3 : Int)), (((0 : Int), (0 : Int)), (((4 : Int), (0 : Int)), ((0 : Int), (4 : Int)))))) fun y_2 =>
 (letV (weights (((1 : Int), (1 : Int)), (((0 : Int), (0 : Int)), (((4 : Int), (0 : Int)), ((0 : Int), (4 : Int)))))) fun y_3 =>
 (letV (closest (((0 : Int), (0 : Int)), (((0 : Int), (0 : Int)), (((0 : Int), (0 : Int)), ((0 : Int), (0 : Int)))))) fun y_4 =>
 (if ((y.2.2.2 == (0 : Int)) = true) then
 (if (((y.1.1 == (2 : Int)) && ((y.1.2 == (0 : Int)) && true)) = true) then
 (if ((y.2.1 == (2 : Int)) = true) then
 (if (((y.2.2.1.1 == (144 : Int)) && ((y.2.2.1.2 == (16 : Int)) && true)) = true) then
 (if ((y_1.2.2.2 == y.2.2.2) = true) then
 (if (((y_1.1.1 == (0 : Int)) && ((y_1.1.2 == (0 : Int)) && true)) = true) then
 (if ((y_1.2.1 == (0 : Int)) = true) then
 (if (((y_1.2.2.1.1 == (2 : Int)) && ((y_1.2.2.1.2 == (1 : Int)) && true)) = true) then
 (if ((y_2.2.2 == (0 : Int)) = true) then
 (if (((y_2.1.1 == (2 : Int)) && ((y_2.1.2 == (2 : Int)) && true)) = true) then
 (if (((y_2.2.1.1 == (64 : Int)) && ((y_2.2.1.2 == (32 : Int)) && true)) = true) then
 (if ((y_3.2.2 == y_2.2.2) = true) then
 (if (((y_3.1.1 == (8 : Int)) && ((y_3.1.2.1 == (4 : Int)) && ((y_3.1.2.2 == (4 : Int)) && true))) = true) then
 (if ((y_3.2.1 == (16 : Int)) = true) then
 (y_4.2.2 == (1 : Int)) else
 false) else
 false) else
 false) else
 false) else
 false) else
 false) else
 false) else
 false) else
 false) else
 false) else
 false) else
 false) else
 false) else
 false))))))
noncomputable def l11neared_pre (x : Bool) : Prop :=
 ((nedge_pre (((2 : Int), (3 : Int)), (((0 : Int), (0 : Int)), ((4 : Int), (0 : Int))))) ∧
 letP (nedge (((2 : Int), (3 : Int)), (((0 : Int), (0 : Int)), ((4 : Int), (0 : Int))))) fun y =>
 ((nedge_pre (((-1 : Int), (1 : Int)), (((0 : Int), (0 : Int)), ((4 : Int), (0 : Int))))) ∧
 letP (nedge (((-1 : Int), (1 : Int)), (((0 : Int), (0 : Int)), ((4 : Int), (0 : Int))))) fun y_1 =>
 ((closest_pre (((3 : Int), (3 : Int)), (((0 : Int), (0 : Int)), (((4 : Int), (0 : Int)), ((0 : Int), (4 : Int)))))) ∧
 letP (closest (((3 : Int), (3 : Int)), (((0 : Int), (0 : Int)), (((4 : Int), (0 : Int)), ((0 : Int), (4 : Int)))))) fun y_2 =>
 ((weights_pre (((1 : Int), (1 : Int)), (((0 : Int), (0 : Int)), (((4 : Int), (0 : Int)), ((0 : Int), (4 : Int)))))) ∧
 letP (weights (((1 : Int), (1 : Int)), (((0 : Int), (0 : Int)), (((4 : Int), (0 : Int)), ((0 : Int), (4 : Int)))))) fun y_3 =>
 (closest_pre (((0 : Int), (0 : Int)), (((0 : Int), (0 : Int)), (((0 : Int), (0 : Int)), ((0 : Int), (0 : Int))))))))))
theorem l11neared_vc (x : Bool) (Q : Bool → Prop) : fnE ⟨tt, sp_l11square, noX, [], [], []⟩ Try.f9 (argsE .none x) (heapE .none x) (retE (.one Ty.bool) Q) =
 ((nedge_pre (((2 : Int), (3 : Int)), (((0 : Int), (0 : Int)), ((4 : Int), (0 : Int))))) ∧ ∀ y : ((Int × Int) × (Int × ((Int × Int) × Int))), y = (nedge (((2 : Int), (3 : Int)), (((0 : Int), (0 : Int)), ((4 : Int), (0 : Int))))) →
 ((nedge_pre (((-1 : Int), (1 : Int)), (((0 : Int), (0 : Int)), ((4 : Int), (0 : Int))))) ∧ ∀ y_1 : ((Int × Int) × (Int × ((Int × Int) × Int))), y_1 = (nedge (((-1 : Int), (1 : Int)), (((0 : Int), (0 : Int)), ((4 : Int), (0 : Int))))) →
 ((closest_pre (((3 : Int), (3 : Int)), (((0 : Int), (0 : Int)), (((4 : Int), (0 : Int)), ((0 : Int), (4 : Int)))))) ∧ ∀ y_2 : ((Int × Int) × ((Int × Int) × Int)), y_2 = (closest (((3 : Int), (3 : Int)), (((0 : Int), (0 : Int)), (((4 : Int), (0 : Int)), ((0 : Int), (4 : Int)))))) →
 ((weights_pre (((1 : Int), (1 : Int)), (((0 : Int), (0 : Int)), (((4 : Int), (0 : Int)), ((0 : Int), (4 : Int)))))) ∧ ∀ y_3 : ((Int × (Int × Int)) × (Int × Int)), y_3 = (weights (((1 : Int), (1 : Int)), (((0 : Int), (0 : Int)), (((4 : Int), (0 : Int)), ((0 : Int), (4 : Int)))))) →
 ((closest_pre (((0 : Int), (0 : Int)), (((0 : Int), (0 : Int)), (((0 : Int), (0 : Int)), ((0 : Int), (0 : Int)))))) ∧ ∀ y_4 : ((Int × Int) × ((Int × Int) × Int)), y_4 = (closest (((0 : Int), (0 : Int)), (((0 : Int), (0 : Int)), (((0 : Int), (0 : Int)), ((0 : Int), (0 : Int)))))) →
 (cB (y.2.2.2 == (0 : Int))
 (cB ((y.1.1 == (2 : Int)) && ((y.1.2 == (0 : Int)) && true))
 (cB (y.2.1 == (2 : Int))
 (cB ((y.2.2.1.1 == (144 : Int)) && ((y.2.2.1.2 == (16 : Int)) && true))
 (cB (y_1.2.2.2 == y.2.2.2)
 (cB ((y_1.1.1 == (0 : Int)) && ((y_1.1.2 == (0 : Int)) && true))
 (cB (y_1.2.1 == (0 : Int))
 (cB ((y_1.2.2.1.1 == (2 : Int)) && ((y_1.2.2.1.2 == (1 : Int)) && true))
 (cB (y_2.2.2 == (0 : Int))
 (cB ((y_2.1.1 == (2 : Int)) && ((y_2.1.2 == (2 : Int)) && true))
 (cB ((y_2.2.1.1 == (64 : Int)) && ((y_2.2.1.2 == (32 : Int)) && true))
 (cB (y_3.2.2 == y_2.2.2)
 (cB ((y_3.1.1 == (8 : Int)) && ((y_3.1.2.1 == (4 : Int)) && ((y_3.1.2.2 == (4 : Int)) && true)))
 (cB (y_3.2.1 == (16 : Int))
 (Q (y_4.2.2 == (1 : Int)))
 (Q false))
 (Q false))
 (Q false))
 (Q false))
 (Q false))
 (Q false))
 (Q false))
 (Q false))
 (Q false))
 (Q false))
 (Q false))
 (Q false))
 (Q false))
 (Q false))))))) := by kernel_rfl
theorem l11neared_fn (x : Bool) (Q : Bool → Prop) (hp : l11neared_pre x) (hq : Q (l11neared x)) : Vc (fnE ⟨tt, sp_l11square, noX, [], [], []⟩ Try.f9 (argsE .none x) (heapE .none x) (retE (.one Ty.bool) Q)) := .eq (l11neared_vc x Q) (have hp := Eq.mp (l11neared_pre.eq_1 x) hp; have hq := Eq.mp (congrArg Q (l11neared.eq_1 x)) hq;
 (And.intro hp.1 (let_k (Q := Q) hp.2 hq fun y hp hq => (And.intro hp.1 (let_k (Q := Q) hp.2 hq fun y_1 hp hq => (And.intro hp.1 (let_k (Q := Q) hp.2 hq fun y_2 hp hq => (And.intro hp.1 (let_k (Q := Q) hp.2 hq fun y_3 hp hq => (And.intro hp (let_0 (Q := Q) hq fun y_4 hq => (cB_b (Q := Q) hq (fun c hq => (cB_b (Q := Q) hq (fun c hq => (cB_b (Q := Q) hq (fun c hq => (cB_b (Q := Q) hq (fun c hq => (cB_b (Q := Q) hq (fun c hq => (cB_b (Q := Q) hq (fun c hq => (cB_b (Q := Q) hq (fun c hq => (cB_b (Q := Q) hq (fun c hq => (cB_b (Q := Q) hq (fun c hq => (cB_b (Q := Q) hq (fun c hq => (cB_b (Q := Q) hq (fun c hq => (cB_b (Q := Q) hq (fun c hq => (cB_b (Q := Q) hq (fun c hq => (cB_b (Q := Q) hq (fun c hq => hq) (fun c hq => hq))) (fun c hq => hq))) (fun c hq => hq))) (fun c hq => hq))) (fun c hq => hq))) (fun c hq => hq))) (fun c hq => hq))) (fun c hq => hq))) (fun c hq => hq))) (fun c hq => hq))) (fun c hq => hq))) (fun c hq => hq))) (fun c hq => hq))) (fun c hq => hq)))))))))))))
noncomputable def l11neared_S : FnS := ⟨.none, (.one Ty.bool), l11neared_pre, l11neared⟩
theorem l11neared_ok : SpecOk Try.prog 9 (fnSpec l11neared_S) := SpecOk.fnT' (fn := Try.f9) tt_ok sp_l11square_ok mixed (by kernel_rfl) (by kernel_rfl) .none (.one Ty.bool) l11neared_pre l11neared (by kernel_rfl) fun x hp => ⟨_, _, (ItsOk.nil _ _), LpsOk.nil, l11neared_fn x (fun y => y = l11neared x) hp rfl⟩
def sp_l11neared : List (Nat × Ev.Spec) := (9, fnSpec l11neared_S) :: sp_l11square
theorem sp_l11neared_ok : SpecsOk Try.prog sp_l11neared := SpecsOk.cons (Enters.of (fn := Try.f9) (by kernel_rfl) (by kernel_rfl) (by kernel_rfl)) l11neared_ok sp_l11square_ok
end Go.Proofs.Ytpdhabfebpjihaa
