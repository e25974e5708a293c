/- Models of the references and of the law's functions. -/
import Derived.Test.YtpdhabfebpjihaaDc
namespace Go.Proofs.Ytpdhabfebpjihaa
open Go Go.Ev Go.Proofs
set_option linter.unusedVariables false
noncomputable def r9small2 (x : (Int × Int)) : Bool :=
 (if (x.1 ≥ (-4096 : Int)) then
 (if (x.1 ≤ (4096 : Int)) then
 (if (x.2 ≥ (-4096 : Int)) then
 (decide (x.2 ≤ (4096 : Int))) else
 false) else
 false) else
 false)
noncomputable def r9small2_pre (_ : (Int × Int)) : Prop := True
theorem r9small2_vc (x : (Int × Int)) (Q : Bool → Prop) : fnE ⟨tt, sp_r3cmp, noX, [], [], []⟩ Try.f30 (argsE (.agg (Ty.prod (Ty.int IntKind.i64) (Ty.int IntKind.i64))) x) (heapE (.agg (Ty.prod (Ty.int IntKind.i64) (Ty.int IntKind.i64))) x) (retE (.one Ty.bool) Q) =
 (cB (decide (x.1 ≥ (-4096 : Int)))
 (cB (decide (x.1 ≤ (4096 : Int)))
 (cB (decide (x.2 ≥ (-4096 : Int)))
 (Q (decide (x.2 ≤ (4096 : Int))))
 (Q false))
 (Q false))
 (Q false)) := by kernel_rfl
theorem r9small2_fn (x : (Int × Int)) (Q : Bool → Prop) (hp : r9small2_pre x) (hq : Q (r9small2 x)) : Vc (fnE ⟨tt, sp_r3cmp, noX, [], [], []⟩ Try.f30 (argsE (.agg (Ty.prod (Ty.int IntKind.i64) (Ty.int IntKind.i64))) x) (heapE (.agg (Ty.prod (Ty.int IntKind.i64) (Ty.int IntKind.i64))) x) (retE (.one Ty.bool) Q)) := .eq (r9small2_vc x Q) (have hp := Eq.mp (r9small2_pre.eq_1 x) hp; have hq := Eq.mp (congrArg Q (r9small2.eq_1 x)) hq;
 (cB_d (Q := Q) hq (fun c hq => (cB_d (Q := Q) hq (fun c hq => (cB_d (Q := Q) hq (fun c hq => hq) (fun c hq => hq))) (fun c hq => hq))) (fun c hq => hq)))
noncomputable def r9small2_S : FnS := ⟨(.agg (Ty.prod (Ty.int IntKind.i64) (Ty.int IntKind.i64))), (.one Ty.bool), r9small2_pre, r9small2⟩
theorem r9small2_ok : SpecOk Try.prog 30 (fnSpec r9small2_S) := SpecOk.fnT' (fn := Try.f30) tt_ok sp_r3cmp_ok mixed (by kernel_rfl) (by kernel_rfl) (.agg (Ty.prod (Ty.int IntKind.i64) (Ty.int IntKind.i64))) (.one Ty.bool) r9small2_pre r9small2 (by kernel_rfl) fun x hp => ⟨_, _, (ItsOk.nil _ _), LpsOk.nil, r9small2_fn x (fun y => y = r9small2 x) hp rfl⟩
def sp_r9small2 : List (Nat × Ev.Spec) := (30, fnSpec r9small2_S) :: sp_r3cmp
theorem sp_r9small2_ok : SpecsOk Try.prog sp_r9small2 := SpecsOk.cons (Enters.of (fn := Try.f30) (by kernel_rfl) (by kernel_rfl) (by kernel_rfl)) r9small2_ok sp_r3cmp_ok
noncomputable def r9small3 (x : (Int × (Int × Int))) : Bool :=
 (if (x.1 ≥ (-16384 : Int)) then
 (if (x.1 ≤ (16384 : Int)) then
 (if (x.2.1 ≥ (-16384 : Int)) then
 (if (x.2.1 ≤ (16384 : Int)) then
 (if (x.2.2 ≥ (-16384 : Int)) then
 (decide (x.2.2 ≤ (16384 : Int))) else
 false) else
 false) else
 false) else
 false) else
 false)
noncomputable def r9small3_pre (_ : (Int × (Int × Int))) : Prop := True
theorem r9small3_vc (x : (Int × (Int × Int))) (Q : Bool → Prop) : fnE ⟨tt, sp_r9small2, noX, [], [], []⟩ Try.f38 (argsE (.agg (Ty.prod (Ty.int IntKind.i64) (Ty.prod (Ty.int IntKind.i64) (Ty.int IntKind.i64)))) x) (heapE (.agg (Ty.prod (Ty.int IntKind.i64) (Ty.prod (Ty.int IntKind.i64) (Ty.int IntKind.i64)))) x) (retE (.one Ty.bool) Q) =
 (cB (decide (x.1 ≥ (-16384 : Int)))
 (cB (decide (x.1 ≤ (16384 : Int)))
 (cB (decide (x.2.1 ≥ (-16384 : Int)))
 (cB (decide (x.2.1 ≤ (16384 : Int)))
 (cB (decide (x.2.2 ≥ (-16384 : Int)))
 (Q (decide (x.2.2 ≤ (16384 : Int))))
 (Q false))
 (Q false))
 (Q false))
 (Q false))
 (Q false)) := by kernel_rfl
theorem r9small3_fn (x : (Int × (Int × Int))) (Q : Bool → Prop) (hp : r9small3_pre x) (hq : Q (r9small3 x)) : Vc (fnE ⟨tt, sp_r9small2, noX, [], [], []⟩ Try.f38 (argsE (.agg (Ty.prod (Ty.int IntKind.i64) (Ty.prod (Ty.int IntKind.i64) (Ty.int IntKind.i64)))) x) (heapE (.agg (Ty.prod (Ty.int IntKind.i64) (Ty.prod (Ty.int IntKind.i64) (Ty.int IntKind.i64)))) x) (retE (.one Ty.bool) Q)) := .eq (r9small3_vc x Q) (have hp := Eq.mp (r9small3_pre.eq_1 x) hp; have hq := Eq.mp (congrArg Q (r9small3.eq_1 x)) hq;
 (cB_d (Q := Q) hq (fun c hq => (cB_d (Q := Q) hq (fun c hq => (cB_d (Q := Q) hq (fun c hq => (cB_d (Q := Q) hq (fun c hq => (cB_d (Q := Q) hq (fun c hq => hq) (fun c hq => hq))) (fun c hq => hq))) (fun c hq => hq))) (fun c hq => hq))) (fun c hq => hq)))
noncomputable def r9small3_S : FnS := ⟨(.agg (Ty.prod (Ty.int IntKind.i64) (Ty.prod (Ty.int IntKind.i64) (Ty.int IntKind.i64)))), (.one Ty.bool), r9small3_pre, r9small3⟩
theorem r9small3_ok : SpecOk Try.prog 38 (fnSpec r9small3_S) := SpecOk.fnT' (fn := Try.f38) tt_ok sp_r9small2_ok mixed (by kernel_rfl) (by kernel_rfl) (.agg (Ty.prod (Ty.int IntKind.i64) (Ty.prod (Ty.int IntKind.i64) (Ty.int IntKind.i64)))) (.one Ty.bool) r9small3_pre r9small3 (by kernel_rfl) fun x hp => ⟨_, _, (ItsOk.nil _ _), LpsOk.nil, r9small3_fn x (fun y => y = r9small3 x) hp rfl⟩
def sp_r9small3 : List (Nat × Ev.Spec) := (38, fnSpec r9small3_S) :: sp_r9small2
theorem sp_r9small3_ok : SpecsOk Try.prog sp_r9small3 := SpecsOk.cons (Enters.of (fn := Try.f38) (by kernel_rfl) (by kernel_rfl) (by kernel_rfl)) r9small3_ok sp_r9small2_ok
noncomputable def r9area (x : ((Int × Int) × ((Int × Int) × (Int × Int)))) : (Int × Int) :=
 (letV (r9small2 x.1) fun y =>
 (if ((!y) = true) then
 ((0 : Int), (5 : Int)) else
 (letV (r9small2 x.2.1) fun y_1 =>
 (if ((!y_1) = true) then
 ((0 : Int), (5 : Int)) else
 (letV (r9small2 x.2.2) fun y_2 =>
 (if ((!y_2) = true) then
 ((0 : Int), (5 : Int)) else
 (letV (r4sub2 (x.2.1, x.1)) fun y_3 =>
 (letV (r4sub2 (x.2.2, x.1)) fun y_4 =>
 (letV (r4cross2 (y_3, y_4)) fun y_5 =>
 y_5)))))))))
noncomputable def r9area_pre (_ : ((Int × Int) × ((Int × Int) × (Int × Int)))) : Prop := True
theorem r9area_vc (x : ((Int × Int) × ((Int × Int) × (Int × Int)))) (Q : (Int × Int) → Prop) : fnE ⟨tt, sp_r9small3, noX, [], [], []⟩ Try.f32 (argsE (.pair (.agg (Ty.prod (Ty.int IntKind.i64) (Ty.int IntKind.i64))) (.pair (.agg (Ty.prod (Ty.int IntKind.i64) (Ty.int IntKind.i64))) (.agg (Ty.prod (Ty.int IntKind.i64) (Ty.int IntKind.i64))))) x) (heapE (.pair (.agg (Ty.prod (Ty.int IntKind.i64) (Ty.int IntKind.i64))) (.pair (.agg (Ty.prod (Ty.int IntKind.i64) (Ty.int IntKind.i64))) (.agg (Ty.prod (Ty.int IntKind.i64) (Ty.int IntKind.i64))))) x) (retE (.pair (.one (Ty.int IntKind.i64)) (.one (Ty.int IntKind.i64))) Q) =
 ((r9small2_pre x.1) ∧ ∀ y : Bool, y = (r9small2 x.1) →
 (cB (!y)
 (Q ((0 : Int), (5 : Int)))
 ((r9small2_pre x.2.1) ∧ ∀ y_1 : Bool, y_1 = (r9small2 x.2.1) →
 (cB (!y_1)
 (Q ((0 : Int), (5 : Int)))
 ((r9small2_pre x.2.2) ∧ ∀ y_2 : Bool, y_2 = (r9small2 x.2.2) →
 (cB (!y_2)
 (Q ((0 : Int), (5 : Int)))
 ((r4sub2_pre (x.2.1, x.1)) ∧ ∀ y_3 : (Int × Int), y_3 = (r4sub2 (x.2.1, x.1)) →
 ((r4sub2_pre (x.2.2, x.1)) ∧ ∀ y_4 : (Int × Int), y_4 = (r4sub2 (x.2.2, x.1)) →
 ((r4cross2_pre (y_3, y_4)) ∧ ∀ y_5 : (Int × Int), y_5 = (r4cross2 (y_3, y_4)) →
 (Q y_5)))))))))) := by kernel_rfl
theorem r9area_fn (x : ((Int × Int) × ((Int × Int) × (Int × Int)))) (Q : (Int × Int) → Prop) (hp : r9area_pre x) (hq : Q (r9area x)) : Vc (fnE ⟨tt, sp_r9small3, noX, [], [], []⟩ Try.f32 (argsE (.pair (.agg (Ty.prod (Ty.int IntKind.i64) (Ty.int IntKind.i64))) (.pair (.agg (Ty.prod (Ty.int IntKind.i64) (Ty.int IntKind.i64))) (.agg (Ty.prod (Ty.int IntKind.i64) (Ty.int IntKind.i64))))) x) (heapE (.pair (.agg (Ty.prod (Ty.int IntKind.i64) (Ty.int IntKind.i64))) (.pair (.agg (Ty.prod (Ty.int IntKind.i64) (Ty.int IntKind.i64))) (.agg (Ty.prod (Ty.int IntKind.i64) (Ty.int IntKind.i64))))) x) (retE (.pair (.one (Ty.int IntKind.i64)) (.one (Ty.int IntKind.i64))) Q)) := .eq (r9area_vc x Q) (have hp := Eq.mp (r9area_pre.eq_1 x) hp; have hq := Eq.mp (congrArg Q (r9area.eq_1 x)) hq;
 (And.intro trivial (let_0 (Q := Q) hq fun y hq => (cB_b (Q := Q) hq (fun c hq => hq) (fun c hq => (And.intro trivial (let_0 (Q := Q) hq fun y_1 hq => (cB_b (Q := Q) hq (fun c hq => hq) (fun c hq => (And.intro trivial (let_0 (Q := Q) hq fun y_2 hq => (cB_b (Q := Q) hq (fun c hq => hq) (fun c hq => (And.intro trivial (let_0 (Q := Q) hq fun y_3 hq => (And.intro trivial (let_0 (Q := Q) hq fun y_4 hq => (And.intro trivial (let_0 (Q := Q) hq fun y_5 hq => hq)))))))))))))))))))
noncomputable def r9area_S : FnS := ⟨(.pair (.agg (Ty.prod (Ty.int IntKind.i64) (Ty.int IntKind.i64))) (.pair (.agg (Ty.prod (Ty.int IntKind.i64) (Ty.int IntKind.i64))) (.agg (Ty.prod (Ty.int IntKind.i64) (Ty.int IntKind.i64))))), (.pair (.one (Ty.int IntKind.i64)) (.one (Ty.int IntKind.i64))), r9area_pre, r9area⟩
theorem r9area_ok : SpecOk Try.prog 32 (fnSpec r9area_S) := SpecOk.fnT' (fn := Try.f32) tt_ok sp_r9small3_ok mixed (by kernel_rfl) (by kernel_rfl) (.pair (.agg (Ty.prod (Ty.int IntKind.i64) (Ty.int IntKind.i64))) (.pair (.agg (Ty.prod (Ty.int IntKind.i64) (Ty.int IntKind.i64))) (.agg (Ty.prod (Ty.int IntKind.i64) (Ty.int IntKind.i64))))) (.pair (.one (Ty.int IntKind.i64)) (.one (Ty.int IntKind.i64))) r9area_pre r9area (by kernel_rfl) fun x hp => ⟨_, _, (ItsOk.nil _ _), LpsOk.nil, r9area_fn x (fun y => y = r9area x) hp rfl⟩
def sp_r9area : List (Nat × Ev.Spec) := (32, fnSpec r9area_S) :: sp_r9small3
theorem sp_r9area_ok : SpecsOk Try.prog sp_r9area := SpecsOk.cons (Enters.of (fn := Try.f32) (by kernel_rfl) (by kernel_rfl) (by kernel_rfl)) r9area_ok sp_r9small3_ok
noncomputable def r9side1 (x : Int) : Int :=
 (if (x < (0 : Int)) then
 (-1 : Int) else
 (if (x > (0 : Int)) then
 (1 : Int) else
 (0 : Int)))
noncomputable def r9side1_pre (_ : Int) : Prop := True
theorem r9side1_vc (x : Int) (Q : Int → Prop) : fnE ⟨tt, sp_r9area, noX, [], [], []⟩ Try.f76 (argsE (.one (Ty.int IntKind.i64)) x) (heapE (.one (Ty.int IntKind.i64)) x) (retE (.one (Ty.int IntKind.i64)) Q) =
 (cB (decide (x < (0 : Int)))
 (Q (-1 : Int))
 (cB (decide (x > (0 : Int)))
 (Q (1 : Int))
 (Q (0 : Int)))) := by kernel_rfl
theorem r9side1_fn (x : Int) (Q : Int → Prop) (hp : r9side1_pre x) (hq : Q (r9side1 x)) : Vc (fnE ⟨tt, sp_r9area, noX, [], [], []⟩ Try.f76 (argsE (.one (Ty.int IntKind.i64)) x) (heapE (.one (Ty.int IntKind.i64)) x) (retE (.one (Ty.int IntKind.i64)) Q)) := .eq (r9side1_vc x Q) (have hp := Eq.mp (r9side1_pre.eq_1 x) hp; have hq := Eq.mp (congrArg Q (r9side1.eq_1 x)) hq;
 (cB_d (Q := Q) hq (fun c hq => hq) (fun c hq => (cB_d (Q := Q) hq (fun c hq => hq) (fun c hq => hq)))))
noncomputable def r9side1_S : FnS := ⟨(.one (Ty.int IntKind.i64)), (.one (Ty.int IntKind.i64)), r9side1_pre, r9side1⟩
theorem r9side1_ok : SpecOk Try.prog 76 (fnSpec r9side1_S) := SpecOk.fnT' (fn := Try.f76) tt_ok sp_r9area_ok mixed (by kernel_rfl) (by kernel_rfl) (.one (Ty.int IntKind.i64)) (.one (Ty.int IntKind.i64)) r9side1_pre r9side1 (by kernel_rfl) fun x hp => ⟨_, _, (ItsOk.nil _ _), LpsOk.nil, r9side1_fn x (fun y => y = r9side1 x) hp rfl⟩
def sp_r9side1 : List (Nat × Ev.Spec) := (76, fnSpec r9side1_S) :: sp_r9area
theorem sp_r9side1_ok : SpecsOk Try.prog sp_r9side1 := SpecsOk.cons (Enters.of (fn := Try.f76) (by kernel_rfl) (by kernel_rfl) (by kernel_rfl)) r9side1_ok sp_r9area_ok
noncomputable def r9side (x : ((Int × Int) × ((Int × Int) × (Int × Int)))) : (Int × Int) :=
 (letV (r9area x) fun y =>
 (letV (r9side1 y.1) fun y_1 =>
 (y_1, y.2)))
noncomputable def r9side_pre (_ : ((Int × Int) × ((Int × Int) × (Int × Int)))) : Prop := True
theorem r9side_vc (x : ((Int × Int) × ((Int × Int) × (Int × Int)))) (Q : (Int × Int) → Prop) : fnE ⟨tt, sp_r9side1, noX, [], [], []⟩ Try.f67 (argsE (.pair (.agg (Ty.prod (Ty.int IntKind.i64) (Ty.int IntKind.i64))) (.pair (.agg (Ty.prod (Ty.int IntKind.i64) (Ty.int IntKind.i64))) (.agg (Ty.prod (Ty.int IntKind.i64) (Ty.int IntKind.i64))))) x) (heapE (.pair (.agg (Ty.prod (Ty.int IntKind.i64) (Ty.int IntKind.i64))) (.pair (.agg (Ty.prod (Ty.int IntKind.i64) (Ty.int IntKind.i64))) (.agg (Ty.prod (Ty.int IntKind.i64) (Ty.int IntKind.i64))))) x) (retE (.pair (.one (Ty.int IntKind.i64)) (.one (Ty.int IntKind.i64))) Q) =
 ((r9area_pre x) ∧ ∀ y : (Int × Int), y = (r9area x) →
 ((r9side1_pre y.1) ∧ ∀ y_1 : Int, y_1 = (r9side1 y.1) →
 (Q (y_1, y.2)))) := by kernel_rfl
theorem r9side_fn (x : ((Int × Int) × ((Int × Int) × (Int × Int)))) (Q : (Int × Int) → Prop) (hp : r9side_pre x) (hq : Q (r9side x)) : Vc (fnE ⟨tt, sp_r9side1, noX, [], [], []⟩ Try.f67 (argsE (.pair (.agg (Ty.prod (Ty.int IntKind.i64) (Ty.int IntKind.i64))) (.pair (.agg (Ty.prod (Ty.int IntKind.i64) (Ty.int IntKind.i64))) (.agg (Ty.prod (Ty.int IntKind.i64) (Ty.int IntKind.i64))))) x) (heapE (.pair (.agg (Ty.prod (Ty.int IntKind.i64) (Ty.int IntKind.i64))) (.pair (.agg (Ty.prod (Ty.int IntKind.i64) (Ty.int IntKind.i64))) (.agg (Ty.prod (Ty.int IntKind.i64) (Ty.int IntKind.i64))))) x) (retE (.pair (.one (Ty.int IntKind.i64)) (.one (Ty.int IntKind.i64))) Q)) := .eq (r9side_vc x Q) (have hp := Eq.mp (r9side_pre.eq_1 x) hp; have hq := Eq.mp (congrArg Q (r9side.eq_1 x)) hq;
 (And.intro trivial (let_0 (Q := Q) hq fun y hq => (And.intro trivial (let_0 (Q := Q) hq fun y_1 hq => hq)))))
noncomputable def r9side_S : FnS := ⟨(.pair (.agg (Ty.prod (Ty.int IntKind.i64) (Ty.int IntKind.i64))) (.pair (.agg (Ty.prod (Ty.int IntKind.i64) (Ty.int IntKind.i64))) (.agg (Ty.prod (Ty.int IntKind.i64) (Ty.int IntKind.i64))))), (.pair (.one (Ty.int IntKind.i64)) (.one (Ty.int IntKind.i64))), r9side_pre, r9side⟩
theorem r9side_ok : SpecOk Try.prog 67 (fnSpec r9side_S) := SpecOk.fnT' (fn := Try.f67) tt_ok sp_r9side1_ok mixed (by kernel_rfl) (by kernel_rfl) (.pair (.agg (Ty.prod (Ty.int IntKind.i64) (Ty.int IntKind.i64))) (.pair (.agg (Ty.prod (Ty.int IntKind.i64) (Ty.int IntKind.i64))) (.agg (Ty.prod (Ty.int IntKind.i64) (Ty.int IntKind.i64))))) (.pair (.one (Ty.int IntKind.i64)) (.one (Ty.int IntKind.i64))) r9side_pre r9side (by kernel_rfl) fun x hp => ⟨_, _, (ItsOk.nil _ _), LpsOk.nil, r9side_fn x (fun y => y = r9side x) hp rfl⟩
def sp_r9side : List (Nat × Ev.Spec) := (67, fnSpec r9side_S) :: sp_r9side1
theorem sp_r9side_ok : SpecsOk Try.prog sp_r9side := SpecsOk.cons (Enters.of (fn := Try.f67) (by kernel_rfl) (by kernel_rfl) (by kernel_rfl)) r9side_ok sp_r9side1_ok
noncomputable def r10sides (x : (((Int × Int) × ((Int × Int) × (Int × Int))) × (Int × (Int × Int)))) : Int :=
 (letV (r9side (((List.getD [x.1.1.1, x.1.1.2, x.1.2.1.1, x.1.2.1.2, x.1.2.2.1, x.1.2.2.2] (0 + ((Int.toNat x.2.1) * 2)) (0 : Int)), (List.getD [x.1.1.1, x.1.1.2, x.1.2.1.1, x.1.2.1.2, x.1.2.2.1, x.1.2.2.2] ((0 + ((Int.toNat x.2.1) * 2)) + 1) (0 : Int))), (((List.getD [x.1.1.1, x.1.1.2, x.1.2.1.1, x.1.2.1.2, x.1.2.2.1, x.1.2.2.2] (0 + ((Int.toNat (Int.tmod (w64 (x.2.1 + (1 : Int))) (3 : Int))) * 2)) (0 : Int)), (List.getD [x.1.1.1, x.1.1.2, x.1.2.1.1, x.1.2.1.2, x.1.2.2.1, x.1.2.2.2] ((0 + ((Int.toNat (Int.tmod (w64 (x.2.1 + (1 : Int))) (3 : Int))) * 2)) + 1) (0 : Int))), ((List.getD [x.1.1.1, x.1.1.2, x.1.2.1.1, x.1.2.1.2, x.1.2.2.1, x.1.2.2.2] (0 + ((Int.toNat (Int.tmod (w64 (x.2.1 + (2 : Int))) (3 : Int))) * 2)) (0 : Int)), (List.getD [x.1.1.1, x.1.1.2, x.1.2.1.1, x.1.2.1.2, x.1.2.2.1, x.1.2.2.2] ((0 + ((Int.toNat (Int.tmod (w64 (x.2.1 + (2 : Int))) (3 : Int))) * 2)) + 1) (0 : Int)))))) fun y =>
 (letV (r9side (((List.getD [x.1.1.1, x.1.1.2, x.1.2.1.1, x.1.2.1.2, x.1.2.2.1, x.1.2.2.2] (0 + ((Int.toNat x.2.1) * 2)) (0 : Int)), (List.getD [x.1.1.1, x.1.1.2, x.1.2.1.1, x.1.2.1.2, x.1.2.2.1, x.1.2.2.2] ((0 + ((Int.toNat x.2.1) * 2)) + 1) (0 : Int))), (((List.getD [x.1.1.1, x.1.1.2, x.1.2.1.1, x.1.2.1.2, x.1.2.2.1, x.1.2.2.2] (0 + ((Int.toNat (Int.tmod (w64 (x.2.1 + (1 : Int))) (3 : Int))) * 2)) (0 : Int)), (List.getD [x.1.1.1, x.1.1.2, x.1.2.1.1, x.1.2.1.2, x.1.2.2.1, x.1.2.2.2] ((0 + ((Int.toNat (Int.tmod (w64 (x.2.1 + (1 : Int))) (3 : Int))) * 2)) + 1) (0 : Int))), x.2.2))) fun y_1 =>
 (w64 (y.1 * y_1.1))))
noncomputable def r10sides_pre (x : (((Int × Int) × ((Int × Int) × (Int × Int))) × (Int × (Int × Int)))) : Prop :=
 ((((0 : Int) ≤ x.2.1) ∧ (x.2.1 < (3 : Int))) ∧
 ((((0 + ((Int.toNat x.2.1) * 2)) + 2) ≤ 6) ∧
 ((((0 : Int) ≤ (Int.tmod (w64 (x.2.1 + (1 : Int))) (3 : Int))) ∧ ((Int.tmod (w64 (x.2.1 + (1 : Int))) (3 : Int)) < (3 : Int))) ∧
 ((((0 + ((Int.toNat (Int.tmod (w64 (x.2.1 + (1 : Int))) (3 : Int))) * 2)) + 2) ≤ 6) ∧
 ((((0 : Int) ≤ (Int.tmod (w64 (x.2.1 + (2 : Int))) (3 : Int))) ∧ ((Int.tmod (w64 (x.2.1 + (2 : Int))) (3 : Int)) < (3 : Int))) ∧
 ((((0 + ((Int.toNat (Int.tmod (w64 (x.2.1 + (2 : Int))) (3 : Int))) * 2)) + 2) ≤ 6) ∧
 (letP (r9side (((List.getD [x.1.1.1, x.1.1.2, x.1.2.1.1, x.1.2.1.2, x.1.2.2.1, x.1.2.2.2] (0 + ((Int.toNat x.2.1) * 2)) (0 : Int)), (List.getD [x.1.1.1, x.1.1.2, x.1.2.1.1, x.1.2.1.2, x.1.2.2.1, x.1.2.2.2] ((0 + ((Int.toNat x.2.1) * 2)) + 1) (0 : Int))), (((List.getD [x.1.1.1, x.1.1.2, x.1.2.1.1, x.1.2.1.2, x.1.2.2.1, x.1.2.2.2] (0 + ((Int.toNat (Int.tmod (w64 (x.2.1 + (1 : Int))) (3 : Int))) * 2)) (0 : Int)), (List.getD [x.1.1.1, x.1.1.2, x.1.2.1.1, x.1.2.1.2, x.1.2.2.1, x.1.2.2.2] ((0 + ((Int.toNat (Int.tmod (w64 (x.2.1 + (1 : Int))) (3 : Int))) * 2)) + 1) (0 : Int))), ((List.getD [x.1.1.1, x.1.1.2, x.1.2.1.1, x.1.2.1.2, x.1.2.2.1, x.1.2.2.2] (0 + ((Int.toNat (Int.tmod (w64 (x.2.1 + (2 : Int))) (3 : Int))) * 2)) (0 : Int)), (List.getD [x.1.1.1, x.1.1.2, x.1.2.1.1, x.1.2.1.2, x.1.2.2.1, x.1.2.2.2] ((0 + ((Int.toNat (Int.tmod (w64 (x.2.1 + (2 : Int))) (3 : Int))) * 2)) + 1) (0 : Int)))))) fun y =>
 ((((0 : Int) ≤ x.2.1) ∧ (x.2.1 < (3 : Int))) ∧
 ((((0 + ((Int.toNat x.2.1) * 2)) + 2) ≤ 6) ∧
 ((((0 : Int) ≤ (Int.tmod (w64 (x.2.1 + (1 : Int))) (3 : Int))) ∧ ((Int.tmod (w64 (x.2.1 + (1 : Int))) (3 : Int)) < (3 : Int))) ∧
 (((0 + ((Int.toNat (Int.tmod (w64 (x.2.1 + (1 : Int))) (3 : Int))) * 2)) + 2) ≤ 6)))))))))))
theorem r10sides_vc (x : (((Int × Int) × ((Int × Int) × (Int × Int))) × (Int × (Int × Int)))) (Q : Int → Prop) : fnE ⟨tt, sp_r9side, noX, [], [], []⟩ Try.f54 (argsE (.pair (.agg (Ty.prod (Ty.prod (Ty.int IntKind.i64) (Ty.int IntKind.i64)) (Ty.prod (Ty.prod (Ty.int IntKind.i64) (Ty.int IntKind.i64)) (Ty.prod (Ty.int IntKind.i64) (Ty.int IntKind.i64))))) (.pair (.one (Ty.int IntKind.i64)) (.agg (Ty.prod (Ty.int IntKind.i64) (Ty.int IntKind.i64))))) x) (heapE (.pair (.agg (Ty.prod (Ty.prod (Ty.int IntKind.i64) (Ty.int IntKind.i64)) (Ty.prod (Ty.prod (Ty.int IntKind.i64) (Ty.int IntKind.i64)) (Ty.prod (Ty.int IntKind.i64) (Ty.int IntKind.i64))))) (.pair (.one (Ty.int IntKind.i64)) (.agg (Ty.prod (Ty.int IntKind.i64) (Ty.int IntKind.i64))))) x) (retE (.one (Ty.int IntKind.i64)) Q) =
 (ob ((decide ((0 : Int) ≤ x.2.1)) && (decide (x.2.1 < (3 : Int))))
 (ob (decide (((0 + ((Int.toNat x.2.1) * 2)) + 2) ≤ 6))
 (ob ((decide ((0 : Int) ≤ (Int.tmod (w64 (x.2.1 + (1 : Int))) (3 : Int)))) && (decide ((Int.tmod (w64 (x.2.1 + (1 : Int))) (3 : Int)) < (3 : Int))))
 (ob (decide (((0 + ((Int.toNat (Int.tmod (w64 (x.2.1 + (1 : Int))) (3 : Int))) * 2)) + 2) ≤ 6))
 (ob ((decide ((0 : Int) ≤ (Int.tmod (w64 (x.2.1 + (2 : Int))) (3 : Int)))) && (decide ((Int.tmod (w64 (x.2.1 + (2 : Int))) (3 : Int)) < (3 : Int))))
 (ob (decide (((0 + ((Int.toNat (Int.tmod (w64 (x.2.1 + (2 : Int))) (3 : Int))) * 2)) + 2) ≤ 6))
 ((r9side_pre (((List.getD [x.1.1.1, x.1.1.2, x.1.2.1.1, x.1.2.1.2, x.1.2.2.1, x.1.2.2.2] (0 + ((Int.toNat x.2.1) * 2)) (0 : Int)), (List.getD [x.1.1.1, x.1.1.2, x.1.2.1.1, x.1.2.1.2, x.1.2.2.1, x.1.2.2.2] ((0 + ((Int.toNat x.2.1) * 2)) + 1) (0 : Int))), (((List.getD [x.1.1.1, x.1.1.2, x.1.2.1.1, x.1.2.1.2, x.1.2.2.1, x.1.2.2.2] (0 + ((Int.toNat (Int.tmod (w64 (x.2.1 + (1 : Int))) (3 : Int))) * 2)) (0 : Int)), (List.getD [x.1.1.1, x.1.1.2, x.1.2.1.1, x.1.2.1.2, x.1.2.2.1, x.1.2.2.2] ((0 + ((Int.toNat (Int.tmod (w64 (x.2.1 + (1 : Int))) (3 : Int))) * 2)) + 1) (0 : Int))), ((List.getD [x.1.1.1, x.1.1.2, x.1.2.1.1, x.1.2.1.2, x.1.2.2.1, x.1.2.2.2] (0 + ((Int.toNat (Int.tmod (w64 (x.2.1 + (2 : Int))) (3 : Int))) * 2)) (0 : Int)), (List.getD [x.1.1.1, x.1.1.2, x.1.2.1.1, x.1.2.1.2, x.1.2.2.1, x.1.2.2.2] ((0 + ((Int.toNat (Int.tmod (w64 (x.2.1 + (2 : Int))) (3 : Int))) * 2)) + 1) (0 : Int)))))) ∧ ∀ y : (Int × Int), y = (r9side (((List.getD [x.1.1.1, x.1.1.2, x.1.2.1.1, x.1.2.1.2, x.1.2.2.1, x.1.2.2.2] (0 + ((Int.toNat x.2.1) * 2)) (0 : Int)), (List.getD [x.1.1.1, x.1.1.2, x.1.2.1.1, x.1.2.1.2, x.1.2.2.1, x.1.2.2.2] ((0 + ((Int.toNat x.2.1) * 2)) + 1) (0 : Int))), (((List.getD [x.1.1.1, x.1.1.2, x.1.2.1.1, x.1.2.1.2, x.1.2.2.1, x.1.2.2.2] (0 + ((Int.toNat (Int.tmod (w64 (x.2.1 + (1 : Int))) (3 : Int))) * 2)) (0 : Int)), (List.getD [x.1.1.1, x.1.1.2, x.1.2.1.1, x.1.2.1.2, x.1.2.2.1, x.1.2.2.2] ((0 + ((Int.toNat (Int.tmod (w64 (x.2.1 + (1 : Int))) (3 : Int))) * 2)) + 1) (0 : Int))), ((List.getD [x.1.1.1, x.1.1.2, x.1.2.1.1, x.1.2.1.2, x.1.2.2.1, x.1.2.2.2] (0 + ((Int.toNat (Int.tmod (w64 (x.2.1 + (2 : Int))) (3 : Int))) * 2)) (0 : Int)), (List.getD [x.1.1.1, x.1.1.2, x.1.2.1.1, x.1.2.1.2, x.1.2.2.1, x.1.2.2.2] ((0 + ((Int.toNat (Int.tmod (w64 (x.2.1 + (2 : Int))) (3 : Int))) * 2)) + 1) (0 : Int)))))) →
 (ob ((decide ((0 : Int) ≤ x.2.1)) && (decide (x.2.1 < (3 : Int))))
 (ob (decide (((0 + ((Int.toNat x.2.1) * 2)) + 2) ≤ 6))
 (ob ((decide ((0 : Int) ≤ (Int.tmod (w64 (x.2.1 + (1 : Int))) (3 : Int)))) && (decide ((Int.tmod (w64 (x.2.1 + (1 : Int))) (3 : Int)) < (3 : Int))))
 (ob (decide (((0 + ((Int.toNat (Int.tmod (w64 (x.2.1 + (1 : Int))) (3 : Int))) * 2)) + 2) ≤ 6))
 ((r9side_pre (((List.getD [x.1.1.1, x.1.1.2, x.1.2.1.1, x.1.2.1.2, x.1.2.2.1, x.1.2.2.2] (0 + ((Int.toNat x.2.1) * 2)) (0 : Int)), (List.getD [x.1.1.1, x.1.1.2, x.1.2.1.1, x.1.2.1.2, x.1.2.2.1, x.1.2.2.2] ((0 + ((Int.toNat x.2.1) * 2)) + 1) (0 : Int))), (((List.getD [x.1.1.1, x.1.1.2, x.1.2.1.1, x.1.2.1.2, x.1.2.2.1, x.1.2.2.2] (0 + ((Int.toNat (Int.tmod (w64 (x.2.1 + (1 : Int))) (3 : Int))) * 2)) (0 : Int)), (List.getD [x.1.1.1, x.1.1.2, x.1.2.1.1, x.1.2.1.2, x.1.2.2.1, x.1.2.2.2] ((0 + ((Int.toNat (Int.tmod (w64 (x.2.1 + (1 : Int))) (3 : Int))) * 2)) + 1) (0 : Int))), x.2.2))) ∧ ∀ y_1 : (Int × Int), y_1 = (r9side (((List.getD [x.1.1.1, x.1.1.2, x.1.2.1.1, x.1.2.1.2, x.1.2.2.1, x.1.2.2.2] (0 + ((Int.toNat x.2.1) * 2)) (0 : Int)), (List.getD [x.1.1.1, x.1.1.2, x.1.2.1.1, x.1.2.1.2, x.1.2.2.1, x.1.2.2.2] ((0 + ((Int.toNat x.2.1) * 2)) + 1) (0 : Int))), (((List.getD [x.1.1.1, x.1.1.2, x.1.2.1.1, x.1.2.1.2, x.1.2.2.1, x.1.2.2.2] (0 + ((Int.toNat (Int.tmod (w64 (x.2.1 + (1 : Int))) (3 : Int))) * 2)) (0 : Int)), (List.getD [x.1.1.1, x.1.1.2, x.1.2.1.1, x.1.2.1.2, x.1.2.2.1, x.1.2.2.2] ((0 + ((Int.toNat (Int.tmod (w64 (x.2.1 + (1 : Int))) (3 : Int))) * 2)) + 1) (0 : Int))), x.2.2))) →
 (Q (w64 (y.1 * y_1.1))))))))))))))) := by kernel_rfl
theorem r10sides_fn (x : (((Int × Int) × ((Int × Int) × (Int × Int))) × (Int × (Int × Int)))) (Q : Int → Prop) (hp : r10sides_pre x) (hq : Q (r10sides x)) : Vc (fnE ⟨tt, sp_r9side, noX, [], [], []⟩ Try.f54 (argsE (.pair (.agg (Ty.prod (Ty.prod (Ty.int IntKind.i64) (Ty.int IntKind.i64)) (Ty.prod (Ty.prod (Ty.int IntKind.i64) (Ty.int IntKind.i64)) (Ty.prod (Ty.int IntKind.i64) (Ty.int IntKind.i64))))) (.pair (.one (Ty.int IntKind.i64)) (.agg (Ty.prod (Ty.int IntKind.i64) (Ty.int IntKind.i64))))) x) (heapE (.pair (.agg (Ty.prod (Ty.prod (Ty.int IntKind.i64) (Ty.int IntKind.i64)) (Ty.prod (Ty.prod (Ty.int IntKind.i64) (Ty.int IntKind.i64)) (Ty.prod (Ty.int IntKind.i64) (Ty.int IntKind.i64))))) (.pair (.one (Ty.int IntKind.i64)) (.agg (Ty.prod (Ty.int IntKind.i64) (Ty.int IntKind.i64))))) x) (retE (.one (Ty.int IntKind.i64)) Q)) := .eq (r10sides_vc x Q) (have hp := Eq.mp (r10sides_pre.eq_1 x) hp; have hq := Eq.mp (congrArg Q (r10sides.eq_1 x)) hq;
 (ob_k (and_t (decide_eq_true hp.1.1) (decide_eq_true hp.1.2)) (have hp := hp.2; (ob_k (decide_eq_true hp.1) (have hp := hp.2; (ob_k (and_t (decide_eq_true hp.1.1) (decide_eq_true hp.1.2)) (have hp := hp.2; (ob_k (decide_eq_true hp.1) (have hp := hp.2; (ob_k (and_t (decide_eq_true hp.1.1) (decide_eq_true hp.1.2)) (have hp := hp.2; (ob_k (decide_eq_true hp.1) (have hp := hp.2; (And.intro trivial (let_k (Q := Q) hp hq fun y hp hq => (ob_k (and_t (decide_eq_true hp.1.1) (decide_eq_true hp.1.2)) (have hp := hp.2; (ob_k (decide_eq_true hp.1) (have hp := hp.2; (ob_k (and_t (decide_eq_true hp.1.1) (decide_eq_true hp.1.2)) (have hp := hp.2; (ob_k (decide_eq_true hp) (And.intro trivial (let_0 (Q := Q) hq fun y_1 hq => hq))))))))))))))))))))))))
noncomputable def r10sides_S : FnS := ⟨(.pair (.agg (Ty.prod (Ty.prod (Ty.int IntKind.i64) (Ty.int IntKind.i64)) (Ty.prod (Ty.prod (Ty.int IntKind.i64) (Ty.int IntKind.i64)) (Ty.prod (Ty.int IntKind.i64) (Ty.int IntKind.i64))))) (.pair (.one (Ty.int IntKind.i64)) (.agg (Ty.prod (Ty.int IntKind.i64) (Ty.int IntKind.i64))))), (.one (Ty.int IntKind.i64)), r10sides_pre, r10sides⟩
theorem r10sides_ok : SpecOk Try.prog 54 (fnSpec r10sides_S) := SpecOk.fnT' (fn := Try.f54) tt_ok sp_r9side_ok mixed (by kernel_rfl) (by kernel_rfl) (.pair (.agg (Ty.prod (Ty.prod (Ty.int IntKind.i64) (Ty.int IntKind.i64)) (Ty.prod (Ty.prod (Ty.int IntKind.i64) (Ty.int IntKind.i64)) (Ty.prod (Ty.int IntKind.i64) (Ty.int IntKind.i64))))) (.pair (.one (Ty.int IntKind.i64)) (.agg (Ty.prod (Ty.int IntKind.i64) (Ty.int IntKind.i64))))) (.one (Ty.int IntKind.i64)) r10sides_pre r10sides (by kernel_rfl) fun x hp => ⟨_, _, (ItsOk.nil _ _), LpsOk.nil, r10sides_fn x (fun y => y = r10sides x) hp rfl⟩
def sp_r10sides : List (Nat × Ev.Spec) := (54, fnSpec r10sides_S) :: sp_r9side
theorem sp_r10sides_ok : SpecsOk Try.prog sp_r10sides := SpecsOk.cons (Enters.of (fn := Try.f54) (by kernel_rfl) (by kernel_rfl) (by kernel_rfl)) r10sides_ok sp_r9side_ok
noncomputable def r10right (x : ((Int × Int) × ((Int × Int) × (Int × Int)))) : Bool :=
 (letV (r9area x) fun y =>
 (if ((y.2 == (0 : Int)) = true) then
 (y.1 != (0 : Int)) else
 false))
noncomputable def r10right_pre (_ : ((Int × Int) × ((Int × Int) × (Int × Int)))) : Prop := True
theorem r10right_vc (x : ((Int × Int) × ((Int × Int) × (Int × Int)))) (Q : Bool → Prop) : fnE ⟨tt, sp_r10sides, noX, [], [], []⟩ Try.f53 (argsE (.agg (Ty.prod (Ty.prod (Ty.int IntKind.i64) (Ty.int IntKind.i64)) (Ty.prod (Ty.prod (Ty.int IntKind.i64) (Ty.int IntKind.i64)) (Ty.prod (Ty.int IntKind.i64) (Ty.int IntKind.i64))))) x) (heapE (.agg (Ty.prod (Ty.prod (Ty.int IntKind.i64) (Ty.int IntKind.i64)) (Ty.prod (Ty.prod (Ty.int IntKind.i64) (Ty.int IntKind.i64)) (Ty.prod (Ty.int IntKind.i64) (Ty.int IntKind.i64))))) x) (retE (.one Ty.bool) Q) =
 ((r9area_pre x) ∧ ∀ y : (Int × Int), y = (r9area x) →
 (cB (y.2 == (0 : Int))
 (Q (y.1 != (0 : Int)))
 (Q false))) := by kernel_rfl
theorem r10right_fn (x : ((Int × Int) × ((Int × Int) × (Int × Int)))) (Q : Bool → Prop) (hp : r10right_pre x) (hq : Q (r10right x)) : Vc (fnE ⟨tt, sp_r10sides, noX, [], [], []⟩ Try.f53 (argsE (.agg (Ty.prod (Ty.prod (Ty.int IntKind.i64) (Ty.int IntKind.i64)) (Ty.prod (Ty.prod (Ty.int IntKind.i64) (Ty.int IntKind.i64)) (Ty.prod (Ty.int IntKind.i64) (Ty.int IntKind.i64))))) x) (heapE (.agg (Ty.prod (Ty.prod (Ty.int IntKind.i64) (Ty.int IntKind.i64)) (Ty.prod (Ty.prod (Ty.int IntKind.i64) (Ty.int IntKind.i64)) (Ty.prod (Ty.int IntKind.i64) (Ty.int IntKind.i64))))) x) (retE (.one Ty.bool) Q)) := .eq (r10right_vc x Q) (have hp := Eq.mp (r10right_pre.eq_1 x) hp; have hq := Eq.mp (congrArg Q (r10right.eq_1 x)) hq;
 (And.intro trivial (let_0 (Q := Q) hq fun y hq => (cB_b (Q := Q) hq (fun c hq => hq) (fun c hq => hq)))))
noncomputable def r10right_S : FnS := ⟨(.agg (Ty.prod (Ty.prod (Ty.int IntKind.i64) (Ty.int IntKind.i64)) (Ty.prod (Ty.prod (Ty.int IntKind.i64) (Ty.int IntKind.i64)) (Ty.prod (Ty.int IntKind.i64) (Ty.int IntKind.i64))))), (.one Ty.bool), r10right_pre, r10right⟩
theorem r10right_ok : SpecOk Try.prog 53 (fnSpec r10right_S) := SpecOk.fnT' (fn := Try.f53) tt_ok sp_r10sides_ok mixed (by kernel_rfl) (by kernel_rfl) (.agg (Ty.prod (Ty.prod (Ty.int IntKind.i64) (Ty.int IntKind.i64)) (Ty.prod (Ty.prod (Ty.int IntKind.i64) (Ty.int IntKind.i64)) (Ty.prod (Ty.int IntKind.i64) (Ty.int IntKind.i64))))) (.one Ty.bool) r10right_pre r10right (by kernel_rfl) fun x hp => ⟨_, _, (ItsOk.nil _ _), LpsOk.nil, r10right_fn x (fun y => y = r10right x) hp rfl⟩
def sp_r10right : List (Nat × Ev.Spec) := (53, fnSpec r10right_S) :: sp_r10sides
theorem sp_r10right_ok : SpecsOk Try.prog sp_r10right := SpecsOk.cons (Enters.of (fn := Try.f53) (by kernel_rfl) (by kernel_rfl) (by kernel_rfl)) r10right_ok sp_r10sides_ok
noncomputable def r10in (x : ((Int × Int) × ((Int × Int) × ((Int × Int) × (Int × Int))))) : (Int × Int) :=
 (letV (r9small2 x.1) fun y =>
 (if ((!y) = true) then
 ((0 : Int), (5 : Int)) else
 (letV (r10right x.2) fun y_1 =>
 (if ((!y_1) = true) then
 ((0 : Int), (1 : Int)) else
 (letV (r10sides (x.2, ((0 : Int), x.1))) fun y_2 =>
 (letV (r10sides (x.2, ((1 : Int), x.1))) fun y_3 =>
 (letV (r10sides (x.2, ((2 : Int), x.1))) fun y_4 =>
 ((w64 ((minI (minI (minI (1 : Int) y_2) y_3) y_4) + (1 : Int))), (0 : Int)))))))))
noncomputable def r10in_pre (x : ((Int × Int) × ((Int × Int) × ((Int × Int) × (Int × Int))))) : Prop :=
 (letP (r9small2 x.1) fun y =>
 (¬ ((!y) = true) →
 (letP (r10right x.2) fun y_1 =>
 (¬ ((!y_1) = true) →
 ((r10sides_pre (x.2, ((0 : Int), x.1))) ∧
 letP (r10sides (x.2, ((0 : Int), x.1))) fun y_2 =>
 ((r10sides_pre (x.2, ((1 : Int), x.1))) ∧
 letP (r10sides (x.2, ((1 : Int), x.1))) fun y_3 =>
 (r10sides_pre (x.2, ((2 : Int), x.1)))))))))
theorem r10in_vc (x : ((Int × Int) × ((Int × Int) × ((Int × Int) × (Int × Int))))) (Q : (Int × Int) → Prop) : fnE ⟨tt, sp_r10right, noX, [(0, unrolled tt sp_r10right noX [] [] [] 0 (cI (blk 0 (bodyOf Try.f34))) 4)], [], []⟩ Try.f34 (argsE (.pair (.agg (Ty.prod (Ty.int IntKind.i64) (Ty.int IntKind.i64))) (.agg (Ty.prod (Ty.prod (Ty.int IntKind.i64) (Ty.int IntKind.i64)) (Ty.prod (Ty.prod (Ty.int IntKind.i64) (Ty.int IntKind.i64)) (Ty.prod (Ty.int IntKind.i64) (Ty.int IntKind.i64)))))) x) (heapE (.pair (.agg (Ty.prod (Ty.int IntKind.i64) (Ty.int IntKind.i64))) (.agg (Ty.prod (Ty.prod (Ty.int IntKind.i64) (Ty.int IntKind.i64)) (Ty.prod (Ty.prod (Ty.int IntKind.i64) (Ty.int IntKind.i64)) (Ty.prod (Ty.int IntKind.i64) (Ty.int IntKind.i64)))))) x) (retE (.pair (.one (Ty.int IntKind.i64)) (.one (Ty.int IntKind.i64))) Q) =
 ((r9small2_pre x.1) ∧ ∀ y : Bool, y = (r9small2 x.1) →
 (cB (!y)
 (Q ((0 : Int), (5 : Int)))
 ((r10right_pre x.2) ∧ ∀ y_1 : Bool, y_1 = (r10right x.2) →
 (cB (!y_1)
 (Q ((0 : Int), (1 : Int)))
 ((r10sides_pre (x.2, ((0 : Int), x.1))) ∧ ∀ y_2 : Int, y_2 = (r10sides (x.2, ((0 : Int), x.1))) →
 ((r10sides_pre (x.2, ((1 : Int), x.1))) ∧ ∀ y_3 : Int, y_3 = (r10sides (x.2, ((1 : Int), x.1))) →
 ((r10sides_pre (x.2, ((2 : Int), x.1))) ∧ ∀ y_4 : Int, y_4 = (r10sides (x.2, ((2 : Int), x.1))) →
 (Q ((w64 ((minI (minI (minI (1 : Int) y_2) y_3) y_4) + (1 : Int))), (0 : Int)))))))))) := by kernel_rfl
theorem r10in_fn (x : ((Int × Int) × ((Int × Int) × ((Int × Int) × (Int × Int))))) (Q : (Int × Int) → Prop) (hp : r10in_pre x) (hq : Q (r10in x)) : Vc (fnE ⟨tt, sp_r10right, noX, [(0, unrolled tt sp_r10right noX [] [] [] 0 (cI (blk 0 (bodyOf Try.f34))) 4)], [], []⟩ Try.f34 (argsE (.pair (.agg (Ty.prod (Ty.int IntKind.i64) (Ty.int IntKind.i64))) (.agg (Ty.prod (Ty.prod (Ty.int IntKind.i64) (Ty.int IntKind.i64)) (Ty.prod (Ty.prod (Ty.int IntKind.i64) (Ty.int IntKind.i64)) (Ty.prod (Ty.int IntKind.i64) (Ty.int IntKind.i64)))))) x) (heapE (.pair (.agg (Ty.prod (Ty.int IntKind.i64) (Ty.int IntKind.i64))) (.agg (Ty.prod (Ty.prod (Ty.int IntKind.i64) (Ty.int IntKind.i64)) (Ty.prod (Ty.prod (Ty.int IntKind.i64) (Ty.int IntKind.i64)) (Ty.prod (Ty.int IntKind.i64) (Ty.int IntKind.i64)))))) x) (retE (.pair (.one (Ty.int IntKind.i64)) (.one (Ty.int IntKind.i64))) Q)) := .eq (r10in_vc x Q) (have hp := Eq.mp (r10in_pre.eq_1 x) hp; have hq := Eq.mp (congrArg Q (r10in.eq_1 x)) hq;
 (And.intro trivial (let_k (Q := Q) hp hq fun y hp hq => (cB_b (Q := Q) hq (fun c hq => hq) (fun c hq => have hp := (hp c); (And.intro trivial (let_k (Q := Q) hp hq fun y_1 hp hq => (cB_b (Q := Q) hq (fun c hq => hq) (fun c hq => have hp := (hp c); (And.intro hp.1 (let_k (Q := Q) hp.2 hq fun y_2 hp hq => (And.intro hp.1 (let_k (Q := Q) hp.2 hq fun y_3 hp hq => (And.intro hp (let_0 (Q := Q) hq fun y_4 hq => hq)))))))))))))))
noncomputable def r10in_S : FnS := ⟨(.pair (.agg (Ty.prod (Ty.int IntKind.i64) (Ty.int IntKind.i64))) (.agg (Ty.prod (Ty.prod (Ty.int IntKind.i64) (Ty.int IntKind.i64)) (Ty.prod (Ty.prod (Ty.int IntKind.i64) (Ty.int IntKind.i64)) (Ty.prod (Ty.int IntKind.i64) (Ty.int IntKind.i64)))))), (.pair (.one (Ty.int IntKind.i64)) (.one (Ty.int IntKind.i64))), r10in_pre, r10in⟩
theorem r10in_ok : SpecOk Try.prog 34 (fnSpec r10in_S) := SpecOk.fnT' (fn := Try.f34) tt_ok sp_r10right_ok mixed (by kernel_rfl) (by kernel_rfl) (.pair (.agg (Ty.prod (Ty.int IntKind.i64) (Ty.int IntKind.i64))) (.agg (Ty.prod (Ty.prod (Ty.int IntKind.i64) (Ty.int IntKind.i64)) (Ty.prod (Ty.prod (Ty.int IntKind.i64) (Ty.int IntKind.i64)) (Ty.prod (Ty.int IntKind.i64) (Ty.int IntKind.i64)))))) (.pair (.one (Ty.int IntKind.i64)) (.one (Ty.int IntKind.i64))) r10in_pre r10in (by kernel_rfl) fun x hp => ⟨_, _, (ItsOk.nil _ _), (LpsOk.unroll tt_ok (SpecsOk.ctxI sp_r10right_ok (ItsOk.nil _ _)) mixed _ LpsOk.nil (by kernel_rfl) (by kernel_rfl)), r10in_fn x (fun y => y = r10in x) hp rfl⟩
def sp_r10in : List (Nat × Ev.Spec) := (34, fnSpec r10in_S) :: sp_r10right
theorem sp_r10in_ok : SpecsOk Try.prog sp_r10in := SpecsOk.cons (Enters.of (fn := Try.f34) (by kernel_rfl) (by kernel_rfl) (by kernel_rfl)) r10in_ok sp_r10right_ok
noncomputable def r11down (x : (Int × Int)) : Int :=
 (letV (r2floor x) fun y =>
 y.1)
noncomputable def r11down_pre (x : (Int × Int)) : Prop :=
 (r2floor_pre x)
theorem r11down_vc (x : (Int × Int)) (Q : Int → Prop) : fnE ⟨tt, sp_r10in, noX, [], [], []⟩ Try.f33 (argsE (.pair (.one (Ty.int IntKind.i64)) (.one (Ty.int IntKind.i64))) x) (heapE (.pair (.one (Ty.int IntKind.i64)) (.one (Ty.int IntKind.i64))) x) (retE (.one (Ty.int IntKind.i64)) Q) =
 ((r2floor_pre x) ∧ ∀ y : (Int × (Int × Int)), y = (r2floor x) →
 (Q y.1)) := by kernel_rfl
theorem r11down_fn (x : (Int × Int)) (Q : Int → Prop) (hp : r11down_pre x) (hq : Q (r11down x)) : Vc (fnE ⟨tt, sp_r10in, noX, [], [], []⟩ Try.f33 (argsE (.pair (.one (Ty.int IntKind.i64)) (.one (Ty.int IntKind.i64))) x) (heapE (.pair (.one (Ty.int IntKind.i64)) (.one (Ty.int IntKind.i64))) x) (retE (.one (Ty.int IntKind.i64)) Q)) := .eq (r11down_vc x Q) (have hp := Eq.mp (r11down_pre.eq_1 x) hp; have hq := Eq.mp (congrArg Q (r11down.eq_1 x)) hq;
 (And.intro hp (let_0 (Q := Q) hq fun y hq => hq)))
noncomputable def r11down_S : FnS := ⟨(.pair (.one (Ty.int IntKind.i64)) (.one (Ty.int IntKind.i64))), (.one (Ty.int IntKind.i64)), r11down_pre, r11down⟩
theorem r11down_ok : SpecOk Try.prog 33 (fnSpec r11down_S) := SpecOk.fnT' (fn := Try.f33) tt_ok sp_r10in_ok mixed (by kernel_rfl) (by kernel_rfl) (.pair (.one (Ty.int IntKind.i64)) (.one (Ty.int IntKind.i64))) (.one (Ty.int IntKind.i64)) r11down_pre r11down (by kernel_rfl) fun x hp => ⟨_, _, (ItsOk.nil _ _), LpsOk.nil, r11down_fn x (fun y => y = r11down x) hp rfl⟩
def sp_r11down : List (Nat × Ev.Spec) := (33, fnSpec r11down_S) :: sp_r10in
theorem sp_r11down_ok : SpecsOk Try.prog sp_r11down := SpecsOk.cons (Enters.of (fn := Try.f33) (by kernel_rfl) (by kernel_rfl) (by kernel_rfl)) r11down_ok sp_r10in_ok
noncomputable def r11square (x : ((Int × Int) × (Int × Int))) : Int :=
 (w64 ((w64 ((w64 (x.2.1 - x.1.1)) * (w64 (x.2.1 - x.1.1)))) + (w64 ((w64 (x.2.2 - x.1.2)) * (w64 (x.2.2 - x.1.2))))))
noncomputable def r11square_pre (_ : ((Int × Int) × (Int × Int))) : Prop := True
theorem r11square_vc (x : ((Int × Int) × (Int × Int))) (Q : Int → Prop) : fnE ⟨tt, sp_r11down, noX, [], [], []⟩ Try.f31 (argsE (.pair (.agg (Ty.prod (Ty.int IntKind.i64) (Ty.int IntKind.i64))) (.agg (Ty.prod (Ty.int IntKind.i64) (Ty.int IntKind.i64)))) x) (heapE (.pair (.agg (Ty.prod (Ty.int IntKind.i64) (Ty.int IntKind.i64))) (.agg (Ty.prod (Ty.int IntKind.i64) (Ty.int IntKind.i64)))) x) (retE (.one (Ty.int IntKind.i64)) Q) =
 (Q (w64 ((w64 ((w64 (x.2.1 - x.1.1)) * (w64 (x.2.1 - x.1.1)))) + (w64 ((w64 (x.2.2 - x.1.2)) * (w64 (x.2.2 - x.1.2))))))) := by kernel_rfl
theorem r11square_fn (x : ((Int × Int) × (Int × Int))) (Q : Int → Prop) (hp : r11square_pre x) (hq : Q (r11square x)) : Vc (fnE ⟨tt, sp_r11down, noX, [], [], []⟩ Try.f31 (argsE (.pair (.agg (Ty.prod (Ty.int IntKind.i64) (Ty.int IntKind.i64))) (.agg (Ty.prod (Ty.int IntKind.i64) (Ty.int IntKind.i64)))) x) (heapE (.pair (.agg (Ty.prod (Ty.int IntKind.i64) (Ty.int IntKind.i64))) (.agg (Ty.prod (Ty.int IntKind.i64) (Ty.int IntKind.i64)))) x) (retE (.one (Ty.int IntKind.i64)) Q)) := .eq (r11square_vc x Q) (have hp := Eq.mp (r11square_pre.eq_1 x) hp; have hq := Eq.mp (congrArg Q (r11square.eq_1 x)) hq;
 hq)
noncomputable def r11square_S : FnS := ⟨(.pair (.agg (Ty.prod (Ty.int IntKind.i64) (Ty.int IntKind.i64))) (.agg (Ty.prod (Ty.int IntKind.i64) (Ty.int IntKind.i64)))), (.one (Ty.int IntKind.i64)), r11square_pre, r11square⟩
theorem r11square_ok : SpecOk Try.prog 31 (fnSpec r11square_S) := SpecOk.fnT' (fn := Try.f31) tt_ok sp_r11down_ok mixed (by kernel_rfl) (by kernel_rfl) (.pair (.agg (Ty.prod (Ty.int IntKind.i64) (Ty.int IntKind.i64))) (.agg (Ty.prod (Ty.int IntKind.i64) (Ty.int IntKind.i64)))) (.one (Ty.int IntKind.i64)) r11square_pre r11square (by kernel_rfl) fun x hp => ⟨_, _, (ItsOk.nil _ _), LpsOk.nil, r11square_fn x (fun y => y = r11square x) hp rfl⟩
def sp_r11square : List (Nat × Ev.Spec) := (31, fnSpec r11square_S) :: sp_r11down
theorem sp_r11square_ok : SpecsOk Try.prog sp_r11square := SpecsOk.cons (Enters.of (fn := Try.f31) (by kernel_rfl) (by kernel_rfl) (by kernel_rfl)) r11square_ok sp_r11down_ok
noncomputable def r11edge (x : ((Int × Int) × ((Int × Int) × (Int × Int)))) : ((Int × Int) × (Int × ((Int × Int) × Int))) :=
 (letV (r9small2 x.1) fun y =>
 (if ((!y) = true) then
 (((0 : Int), (0 : Int)), ((0 : Int), (((0 : Int), (0 : Int)), (5 : Int)))) else
 (letV (r9small2 x.2.1) fun y_1 =>
 (if ((!y_1) = true) then
 (((0 : Int), (0 : Int)), ((0 : Int), (((0 : Int), (0 : Int)), (5 : Int)))) else
 (letV (r9small2 x.2.2) fun y_2 =>
 (if ((!y_2) = true) then
 (((0 : Int), (0 : Int)), ((0 : Int), (((0 : Int), (0 : Int)), (5 : Int)))) else
 (letV (r11square x.2) fun y_3 =>
 (if ((w64 ((w64 ((w64 (x.1.1 - x.2.1.1)) * (w64 (x.2.2.1 - x.2.1.1)))) + (w64 ((w64 (x.1.2 - x.2.1.2)) * (w64 (x.2.2.2 - x.2.1.2)))))) ≤ (0 : Int)) then
 (letV (r11square (x.1, x.2.1)) fun y_4 =>
 (x.2.1, ((0 : Int), ((y_4, (1 : Int)), (0 : Int))))) else
 (if ((y_3 == (0 : Int)) = true) then
 (letV (r11square (x.1, x.2.1)) fun y_4 =>
 (x.2.1, ((0 : Int), ((y_4, (1 : Int)), (0 : Int))))) else
 (if ((w64 ((w64 ((w64 (x.1.1 - x.2.1.1)) * (w64 (x.2.2.1 - x.2.1.1)))) + (w64 ((w64 (x.1.2 - x.2.1.2)) * (w64 (x.2.2.2 - x.2.1.2)))))) ≥ y_3) then
 (letV (r11square (x.1, x.2.2)) fun y_4 =>
 (x.2.2, ((1 : Int), ((y_4, (1 : Int)), (0 : Int))))) else
 (letV (r9area (x.2.1, (x.2.2, x.1))) fun y_4 =>
 (letV (r11down ((w64 ((w64 (x.2.1.1 * y_3)) + (w64 ((w64 (x.2.2.1 - x.2.1.1)) * (w64 ((w64 ((w64 (x.1.1 - x.2.1.1)) * (w64 (x.2.2.1 - x.2.1.1)))) + (w64 ((w64 (x.1.2 - x.2.1.2)) * (w64 (x.2.2.2 - x.2.1.2)))))))))), y_3)) fun y_5 =>
 (letV (r11down ((w64 ((w64 (x.2.1.2 * y_3)) + (w64 ((w64 (x.2.2.2 - x.2.1.2)) * (w64 ((w64 ((w64 (x.1.1 - x.2.1.1)) * (w64 (x.2.2.1 - x.2.1.1)))) + (w64 ((w64 (x.1.2 - x.2.1.2)) * (w64 (x.2.2.2 - x.2.1.2)))))))))), y_3)) fun y_6 =>
 ((y_5, y_6), ((2 : Int), (((w64 (y_4.1 * y_4.1)), y_3), (0 : Int)))))))))))))))))
noncomputable def r11edge_pre (x : ((Int × Int) × ((Int × Int) × (Int × Int)))) : Prop :=
 (letP (r9small2 x.1) fun y =>
 (¬ ((!y) = true) →
 (letP (r9small2 x.2.1) fun y_1 =>
 (¬ ((!y_1) = true) →
 (letP (r9small2 x.2.2) fun y_2 =>
 (¬ ((!y_2) = true) →
 (letP (r11square x.2) fun y_3 =>
 (¬ ((w64 ((w64 ((w64 (x.1.1 - x.2.1.1)) * (w64 (x.2.2.1 - x.2.1.1)))) + (w64 ((w64 (x.1.2 - x.2.1.2)) * (w64 (x.2.2.2 - x.2.1.2)))))) ≤ (0 : Int)) →
 (¬ ((y_3 == (0 : Int)) = true) →
 (¬ ((w64 ((w64 ((w64 (x.1.1 - x.2.1.1)) * (w64 (x.2.2.1 - x.2.1.1)))) + (w64 ((w64 (x.1.2 - x.2.1.2)) * (w64 (x.2.2.2 - x.2.1.2)))))) ≥ y_3) →
 (letP (r9area (x.2.1, (x.2.2, x.1))) fun y_4 =>
 ((r11down_pre ((w64 ((w64 (x.2.1.1 * y_3)) + (w64 ((w64 (x.2.2.1 - x.2.1.1)) * (w64 ((w64 ((w64 (x.1.1 - x.2.1.1)) * (w64 (x.2.2.1 - x.2.1.1)))) + (w64 ((w64 (x.1.2 - x.2.1.2)) * (w64 (x.2.2.2 - x.2.1.2)))))))))), y_3)) ∧
 letP (r11down ((w64 ((w64 (x.2.1.1 * y_3)) + (w64 ((w64 (x.2.2.1 - x.2.1.1)) * (w64 ((w64 ((w64 (x.1.1 - x.2.1.1)) * (w64 (x.2.2.1 - x.2.1.1)))) + (w64 ((w64 (x.1.2 - x.2.1.2)) * (w64 (x.2.2.2 - x.2.1.2)))))))))), y_3)) fun y_5 =>
 (r11down_pre ((w64 ((w64 (x.2.1.2 * y_3)) + (w64 ((w64 (x.2.2.2 - x.2.1.2)) * (w64 ((w64 ((w64 (x.1.1 - x.2.1.1)) * (w64 (x.2.2.1 - x.2.1.1)))) + (w64 ((w64 (x.1.2 - x.2.1.2)) * (w64 (x.2.2.2 - x.2.1.2)))))))))), y_3))))))))))))))
theorem r11edge_vc (x : ((Int × Int) × ((Int × Int) × (Int × Int)))) (Q : ((Int × Int) × (Int × ((Int × Int) × Int))) → Prop) : fnE ⟨tt, sp_r11square, noX, [], [], []⟩ Try.f17 (argsE (.pair (.agg (Ty.prod (Ty.int IntKind.i64) (Ty.int IntKind.i64))) (.pair (.agg (Ty.prod (Ty.int IntKind.i64) (Ty.int IntKind.i64))) (.agg (Ty.prod (Ty.int IntKind.i64) (Ty.int IntKind.i64))))) x) (heapE (.pair (.agg (Ty.prod (Ty.int IntKind.i64) (Ty.int IntKind.i64))) (.pair (.agg (Ty.prod (Ty.int IntKind.i64) (Ty.int IntKind.i64))) (.agg (Ty.prod (Ty.int IntKind.i64) (Ty.int IntKind.i64))))) x) (retE (.pair (.agg (Ty.prod (Ty.int IntKind.i64) (Ty.int IntKind.i64))) (.pair (.one (Ty.int IntKind.i64)) (.pair (.agg (Ty.prod (Ty.int IntKind.i64) (Ty.int IntKind.i64))) (.one (Ty.int IntKind.i64))))) Q) =
 ((r9small2_pre x.1) ∧ ∀ y : Bool, y = (r9small2 x.1) →
 (cB (!y)
 (Q (((0 : Int), (0 : Int)), ((0 : Int), (((0 : Int), (0 : Int)), (5 : Int)))))
 ((r9small2_pre x.2.1) ∧ ∀ y_1 : Bool, y_1 = (r9small2 x.2.1) →
 (cB (!y_1)
 (Q (((0 : Int), (0 : Int)), ((0 : Int), (((0 : Int), (0 : Int)), (5 : Int)))))
 ((r9small2_pre x.2.2) ∧ ∀ y_2 : Bool, y_2 = (r9small2 x.2.2) →
 (cB (!y_2)
 (Q (((0 : Int), (0 : Int)), ((0 : Int), (((0 : Int), (0 : Int)), (5 : Int)))))
 ((r11square_pre x.2) ∧ ∀ y_3 : Int, y_3 = (r11square x.2) →
 (cB (decide ((w64 ((w64 ((w64 (x.1.1 - x.2.1.1)) * (w64 (x.2.2.1 - x.2.1.1)))) + (w64 ((w64 (x.1.2 - x.2.1.2)) * (w64 (x.2.2.2 - x.2.1.2)))))) ≤ (0 : Int)))
 ((r11square_pre (x.1, x.2.1)) ∧ ∀ y_4 : Int, y_4 = (r11square (x.1, x.2.1)) →
 (Q (x.2.1, ((0 : Int), ((y_4, (1 : Int)), (0 : Int))))))
 (cB (y_3 == (0 : Int))
 ((r11square_pre (x.1, x.2.1)) ∧ ∀ y_4 : Int, y_4 = (r11square (x.1, x.2.1)) →
 (Q (x.2.1, ((0 : Int), ((y_4, (1 : Int)), (0 : Int))))))
 (cB (decide ((w64 ((w64 ((w64 (x.1.1 - x.2.1.1)) * (w64 (x.2.2.1 - x.2.1.1)))) + (w64 ((w64 (x.1.2 - x.2.1.2)) * (w64 (x.2.2.2 - x.2.1.2)))))) ≥ y_3))
 ((r11square_pre (x.1, x.2.2)) ∧ ∀ y_4 : Int, y_4 = (r11square (x.1, x.2.2)) →
 (Q (x.2.2, ((1 : Int), ((y_4, (1 : Int)), (0 : Int))))))
 ((r9area_pre (x.2.1, (x.2.2, x.1))) ∧ ∀ y_4 : (Int × Int), y_4 = (r9area (x.2.1, (x.2.2, x.1))) →
 ((r11down_pre ((w64 ((w64 (x.2.1.1 * y_3)) + (w64 ((w64 (x.2.2.1 - x.2.1.1)) * (w64 ((w64 ((w64 (x.1.1 - x.2.1.1)) * (w64 (x.2.2.1 - x.2.1.1)))) + (w64 ((w64 (x.1.2 - x.2.1.2)) * (w64 (x.2.2.2 - x.2.1.2)))))))))), y_3)) ∧ ∀ y_5 : Int, y_5 = (r11down ((w64 ((w64 (x.2.1.1 * y_3)) + (w64 ((w64 (x.2.2.1 - x.2.1.1)) * (w64 ((w64 ((w64 (x.1.1 - x.2.1.1)) * (w64 (x.2.2.1 - x.2.1.1)))) + (w64 ((w64 (x.1.2 - x.2.1.2)) * (w64 (x.2.2.2 - x.2.1.2)))))))))), y_3)) →
 ((r11down_pre ((w64 ((w64 (x.2.1.2 * y_3)) + (w64 ((w64 (x.2.2.2 - x.2.1.2)) * (w64 ((w64 ((w64 (x.1.1 - x.2.1.1)) * (w64 (x.2.2.1 - x.2.1.1)))) + (w64 ((w64 (x.1.2 - x.2.1.2)) * (w64 (x.2.2.2 - x.2.1.2)))))))))), y_3)) ∧ ∀ y_6 : Int, y_6 = (r11down ((w64 ((w64 (x.2.1.2 * y_3)) + (w64 ((w64 (x.2.2.2 - x.2.1.2)) * (w64 ((w64 ((w64 (x.1.1 - x.2.1.1)) * (w64 (x.2.2.1 - x.2.1.1)))) + (w64 ((w64 (x.1.2 - x.2.1.2)) * (w64 (x.2.2.2 - x.2.1.2)))))))))), y_3)) →
 (Q ((y_5, y_6), ((2 : Int), (((w64 (y_4.1 * y_4.1)), y_3), (0 : Int)))))))))))))))))) := by kernel_rfl
theorem r11edge_fn (x : ((Int × Int) × ((Int × Int) × (Int × Int)))) (Q : ((Int × Int) × (Int × ((Int × Int) × Int))) → Prop) (hp : r11edge_pre x) (hq : Q (r11edge x)) : Vc (fnE ⟨tt, sp_r11square, noX, [], [], []⟩ Try.f17 (argsE (.pair (.agg (Ty.prod (Ty.int IntKind.i64) (Ty.int IntKind.i64))) (.pair (.agg (Ty.prod (Ty.int IntKind.i64) (Ty.int IntKind.i64))) (.agg (Ty.prod (Ty.int IntKind.i64) (Ty.int IntKind.i64))))) x) (heapE (.pair (.agg (Ty.prod (Ty.int IntKind.i64) (Ty.int IntKind.i64))) (.pair (.agg (Ty.prod (Ty.int IntKind.i64) (Ty.int IntKind.i64))) (.agg (Ty.prod (Ty.int IntKind.i64) (Ty.int IntKind.i64))))) x) (retE (.pair (.agg (Ty.prod (Ty.int IntKind.i64) (Ty.int IntKind.i64))) (.pair (.one (Ty.int IntKind.i64)) (.pair (.agg (Ty.prod (Ty.int IntKind.i64) (Ty.int IntKind.i64))) (.one (Ty.int IntKind.i64))))) Q)) := .eq (r11edge_vc x Q) (have hp := Eq.mp (r11edge_pre.eq_1 x) hp; have hq := Eq.mp (congrArg Q (r11edge.eq_1 x)) hq;
 (And.intro trivial (let_k (Q := Q) hp hq fun y hp hq => (cB_b (Q := Q) hq (fun c hq => hq) (fun c hq => have hp := (hp c); (And.intro trivial (let_k (Q := Q) hp hq fun y_1 hp hq => (cB_b (Q := Q) hq (fun c hq => hq) (fun c hq => have hp := (hp c); (And.intro trivial (let_k (Q := Q) hp hq fun y_2 hp hq => (cB_b (Q := Q) hq (fun c hq => hq) (fun c hq => have hp := (hp c); (And.intro trivial (let_k (Q := Q) hp hq fun y_3 hp hq => (cB_d (Q := Q) hq (fun c hq => (And.intro trivial (let_0 (Q := Q) hq fun y_4 hq => hq))) (fun c hq => have hp := (hp c); (cB_b (Q := Q) hq (fun c hq => (And.intro trivial (let_0 (Q := Q) hq fun y_4 hq => hq))) (fun c hq => have hp := (hp c); (cB_d (Q := Q) hq (fun c hq => (And.intro trivial (let_0 (Q := Q) hq fun y_4 hq => hq))) (fun c hq => have hp := (hp c); (And.intro trivial (let_k (Q := Q) hp hq fun y_4 hp hq => (And.intro hp.1 (let_k (Q := Q) hp.2 hq fun y_5 hp hq => (And.intro hp (let_0 (Q := Q) hq fun y_6 hq => hq)))))))))))))))))))))))))))
noncomputable def r11edge_S : FnS := ⟨(.pair (.agg (Ty.prod (Ty.int IntKind.i64) (Ty.int IntKind.i64))) (.pair (.agg (Ty.prod (Ty.int IntKind.i64) (Ty.int IntKind.i64))) (.agg (Ty.prod (Ty.int IntKind.i64) (Ty.int IntKind.i64))))), (.pair (.agg (Ty.prod (Ty.int IntKind.i64) (Ty.int IntKind.i64))) (.pair (.one (Ty.int IntKind.i64)) (.pair (.agg (Ty.prod (Ty.int IntKind.i64) (Ty.int IntKind.i64))) (.one (Ty.int IntKind.i64))))), r11edge_pre, r11edge⟩
theorem r11edge_ok : SpecOk Try.prog 17 (fnSpec r11edge_S) := SpecOk.fnT' (fn := Try.f17) tt_ok sp_r11square_ok mixed (by kernel_rfl) (by kernel_rfl) (.pair (.agg (Ty.prod (Ty.int IntKind.i64) (Ty.int IntKind.i64))) (.pair (.agg (Ty.prod (Ty.int IntKind.i64) (Ty.int IntKind.i64))) (.agg (Ty.prod (Ty.int IntKind.i64) (Ty.int IntKind.i64))))) (.pair (.agg (Ty.prod (Ty.int IntKind.i64) (Ty.int IntKind.i64))) (.pair (.one (Ty.int IntKind.i64)) (.pair (.agg (Ty.prod (Ty.int IntKind.i64) (Ty.int IntKind.i64))) (.one (Ty.int IntKind.i64))))) r11edge_pre r11edge (by kernel_rfl) fun x hp => ⟨_, _, (ItsOk.nil _ _), LpsOk.nil, r11edge_fn x (fun y => y = r11edge x) hp rfl⟩
def sp_r11edge : List (Nat × Ev.Spec) := (17, fnSpec r11edge_S) :: sp_r11square
theorem sp_r11edge_ok : SpecsOk Try.prog sp_r11edge := SpecsOk.cons (Enters.of (fn := Try.f17) (by kernel_rfl) (by kernel_rfl) (by kernel_rfl)) r11edge_ok sp_r11square_ok
noncomputable def r11closest (x : ((Int × Int) × ((Int × Int) × ((Int × Int) × (Int × Int))))) : ((Int × Int) × ((Int × Int) × Int)) :=
 (letV (r10in x) fun y =>
 (if ((y.2 != (0 : Int)) = true) then
 (((0 : Int), (0 : Int)), (((0 : Int), (0 : Int)), y.2)) else
 (if (y.1 > (0 : Int)) then
 (x.1, (((0 : Int), (1 : Int)), (0 : Int))) else
 (letV (r11edge (x.1, (x.2.1, x.2.2.1))) fun y_1 =>
 (letV (r11edge (x.1, x.2.2)) fun y_2 =>
 (letV (r3cmp (y_2.2.2.1, y_1.2.2.1)) fun y_3 =>
 (if (y_3 < (0 : Int)) then
 (letV (r11edge (x.1, (x.2.2.2, x.2.1))) fun y_4 =>
 (letV (r3cmp (y_4.2.2.1, y_2.2.2.1)) fun y_5 =>
 (if (y_5 < (0 : Int)) then
 (y_4.1, (y_4.2.2.1, (0 : Int))) else
 (y_2.1, (y_2.2.2.1, (0 : Int)))))) else
 (letV (r11edge (x.1, (x.2.2.2, x.2.1))) fun y_4 =>
 (letV (r3cmp (y_4.2.2.1, y_1.2.2.1)) fun y_5 =>
 (if (y_5 < (0 : Int)) then
 (y_4.1, (y_4.2.2.1, (0 : Int))) else
 (y_1.1, (y_1.2.2.1, (0 : Int)))))))))))))
noncomputable def r11closest_pre (x : ((Int × Int) × ((Int × Int) × ((Int × Int) × (Int × Int))))) : Prop :=
 ((r10in_pre x) ∧
 letP (r10in x) fun y =>
 (¬ ((y.2 != (0 : Int)) = true) →
 (¬ (y.1 > (0 : Int)) →
 ((r11edge_pre (x.1, (x.2.1, x.2.2.1))) ∧
 letP (r11edge (x.1, (x.2.1, x.2.2.1))) fun y_1 =>
 ((r11edge_pre (x.1, x.2.2)) ∧
 letP (r11edge (x.1, x.2.2)) fun y_2 =>
 ((r3cmp_pre (y_2.2.2.1, y_1.2.2.1)) ∧
 letP (r3cmp (y_2.2.2.1, y_1.2.2.1)) fun y_3 =>
 (((y_3 < (0 : Int)) →
 ((r11edge_pre (x.1, (x.2.2.2, x.2.1))) ∧
 letP (r11edge (x.1, (x.2.2.2, x.2.1))) fun y_4 =>
 (r3cmp_pre (y_4.2.2.1, y_2.2.2.1)))) ∧
 (¬ (y_3 < (0 : Int)) →
 ((r11edge_pre (x.1, (x.2.2.2, x.2.1))) ∧
 letP (r11edge (x.1, (x.2.2.2, x.2.1))) fun y_4 =>
 (r3cmp_pre (y_4.2.2.1, y_1.2.2.1)))))))))))
theorem r11closest_vc (x : ((Int × Int) × ((Int × Int) × ((Int × Int) × (Int × Int))))) (Q : ((Int × Int) × ((Int × Int) × Int)) → Prop) : fnE ⟨tt, sp_r11edge, noX, [(0, unrolled tt sp_r11edge noX [] [] [] 0 (cI (blk 0 (bodyOf Try.f18))) 4)], [], []⟩ Try.f18 (argsE (.pair (.agg (Ty.prod (Ty.int IntKind.i64) (Ty.int IntKind.i64))) (.agg (Ty.prod (Ty.prod (Ty.int IntKind.i64) (Ty.int IntKind.i64)) (Ty.prod (Ty.prod (Ty.int IntKind.i64) (Ty.int IntKind.i64)) (Ty.prod (Ty.int IntKind.i64) (Ty.int IntKind.i64)))))) x) (heapE (.pair (.agg (Ty.prod (Ty.int IntKind.i64) (Ty.int IntKind.i64))) (.agg (Ty.prod (Ty.prod (Ty.int IntKind.i64) (Ty.int IntKind.i64)) (Ty.prod (Ty.prod (Ty.int IntKind.i64) (Ty.int IntKind.i64)) (Ty.prod (Ty.int IntKind.i64) (Ty.int IntKind.i64)))))) x) (retE (.pair (.agg (Ty.prod (Ty.int IntKind.i64) (Ty.int IntKind.i64))) (.pair (.agg (Ty.prod (Ty.int IntKind.i64) (Ty.int IntKind.i64))) (.one (Ty.int IntKind.i64)))) Q) =
 ((r10in_pre x) ∧ ∀ y : (Int × Int), y = (r10in x) →
 (cB (y.2 != (0 : Int))
 (Q (((0 : Int), (0 : Int)), (((0 : Int), (0 : Int)), y.2)))
 (cB (decide (y.1 > (0 : Int)))
 (Q (x.1, (((0 : Int), (1 : Int)), (0 : Int))))
 ((r11edge_pre (x.1, (x.2.1, x.2.2.1))) ∧ ∀ y_1 : ((Int × Int) × (Int × ((Int × Int) × Int))), y_1 = (r11edge (x.1, (x.2.1, x.2.2.1))) →
 ((r11edge_pre (x.1, x.2.2)) ∧ ∀ y_2 : ((Int × Int) × (Int × ((Int × Int) × Int))), y_2 = (r11edge (x.1, x.2.2)) →
 ((r3cmp_pre (y_2.2.2.1, y_1.2.2.1)) ∧ ∀ y_3 : Int, y_3 = (r3cmp (y_2.2.2.1, y_1.2.2.1)) →
 (cB (decide (y_3 < (0 : Int)))
 ((r11edge_pre (x.1, (x.2.2.2, x.2.1))) ∧ ∀ y_4 : ((Int × Int) × (Int × ((Int × Int) × Int))), y_4 = (r11edge (x.1, (x.2.2.2, x.2.1))) →
 ((r3cmp_pre (y_4.2.2.1, y_2.2.2.1)) ∧ ∀ y_5 : Int, y_5 = (r3cmp (y_4.2.2.1, y_2.2.2.1)) →
 (cB (decide (y_5 < (0 : Int)))
 (Q (y_4.1, (y_4.2.2.1, (0 : Int))))
 (Q (y_2.1, (y_2.2.2.1, (0 : Int)))))))
 ((r11edge_pre (x.1, (x.2.2.2, x.2.1))) ∧ ∀ y_4 : ((Int × Int) × (Int × ((Int × Int) × Int))), y_4 = (r11edge (x.1, (x.2.2.2, x.2.1))) →
 ((r3cmp_pre (y_4.2.2.1, y_1.2.2.1)) ∧ ∀ y_5 : Int, y_5 = (r3cmp (y_4.2.2.1, y_1.2.2.1)) →
 (cB (decide (y_5 < (0 : Int)))
 (Q (y_4.1, (y_4.2.2.1, (0 : Int))))
 (Q (y_1.1, (y_1.2.2.1, (0 : Int)))))))))))))) := by kernel_rfl
theorem r11closest_fn (x : ((Int × Int) × ((Int × Int) × ((Int × Int) × (Int × Int))))) (Q : ((Int × Int) × ((Int × Int) × Int)) → Prop) (hp : r11closest_pre x) (hq : Q (r11closest x)) : Vc (fnE ⟨tt, sp_r11edge, noX, [(0, unrolled tt sp_r11edge noX [] [] [] 0 (cI (blk 0 (bodyOf Try.f18))) 4)], [], []⟩ Try.f18 (argsE (.pair (.agg (Ty.prod (Ty.int IntKind.i64) (Ty.int IntKind.i64))) (.agg (Ty.prod (Ty.prod (Ty.int IntKind.i64) (Ty.int IntKind.i64)) (Ty.prod (Ty.prod (Ty.int IntKind.i64) (Ty.int IntKind.i64)) (Ty.prod (Ty.int IntKind.i64) (Ty.int IntKind.i64)))))) x) (heapE (.pair (.agg (Ty.prod (Ty.int IntKind.i64) (Ty.int IntKind.i64))) (.agg (Ty.prod (Ty.prod (Ty.int IntKind.i64) (Ty.int IntKind.i64)) (Ty.prod (Ty.prod (Ty.int IntKind.i64) (Ty.int IntKind.i64)) (Ty.prod (Ty.int IntKind.i64) (Ty.int IntKind.i64)))))) x) (retE (.pair (.agg (Ty.prod (Ty.int IntKind.i64) (Ty.int IntKind.i64))) (.pair (.agg (Ty.prod (Ty.int IntKind.i64) (Ty.int IntKind.i64))) (.one (Ty.int IntKind.i64)))) Q)) := .eq (r11closest_vc x Q) (have hp := Eq.mp (r11closest_pre.eq_1 x) hp; have hq := Eq.mp (congrArg Q (r11closest.eq_1 x)) hq;
 (And.intro hp.1 (let_k (Q := Q) hp.2 hq fun y hp hq => (cB_b (Q := Q) hq (fun c hq => hq) (fun c hq => have hp := (hp c); (cB_d (Q := Q) hq (fun c hq => hq) (fun c hq => have hp := (hp c); (And.intro hp.1 (let_k (Q := Q) hp.2 hq fun y_1 hp hq => (And.intro hp.1 (let_k (Q := Q) hp.2 hq fun y_2 hp hq => (And.intro hp.1 (let_k (Q := Q) hp.2 hq fun y_3 hp hq => (cB_d (Q := Q) hq (fun c hq => have hp := (hp.1 c); (And.intro hp.1 (let_k (Q := Q) hp.2 hq fun y_4 hp hq => (And.intro hp (let_0 (Q := Q) hq fun y_5 hq => (cB_d (Q := Q) hq (fun c hq => hq) (fun c hq => hq))))))) (fun c hq => have hp := (hp.2 c); (And.intro hp.1 (let_k (Q := Q) hp.2 hq fun y_4 hp hq => (And.intro hp (let_0 (Q := Q) hq fun y_5 hq => (cB_d (Q := Q) hq (fun c hq => hq) (fun c hq => hq)))))))))))))))))))))
noncomputable def r11closest_S : FnS := ⟨(.pair (.agg (Ty.prod (Ty.int IntKind.i64) (Ty.int IntKind.i64))) (.agg (Ty.prod (Ty.prod (Ty.int IntKind.i64) (Ty.int IntKind.i64)) (Ty.prod (Ty.prod (Ty.int IntKind.i64) (Ty.int IntKind.i64)) (Ty.prod (Ty.int IntKind.i64) (Ty.int IntKind.i64)))))), (.pair (.agg (Ty.prod (Ty.int IntKind.i64) (Ty.int IntKind.i64))) (.pair (.agg (Ty.prod (Ty.int IntKind.i64) (Ty.int IntKind.i64))) (.one (Ty.int IntKind.i64)))), r11closest_pre, r11closest⟩
theorem r11closest_ok : SpecOk Try.prog 18 (fnSpec r11closest_S) := SpecOk.fnT' (fn := Try.f18) tt_ok sp_r11edge_ok mixed (by kernel_rfl) (by kernel_rfl) (.pair (.agg (Ty.prod (Ty.int IntKind.i64) (Ty.int IntKind.i64))) (.agg (Ty.prod (Ty.prod (Ty.int IntKind.i64) (Ty.int IntKind.i64)) (Ty.prod (Ty.prod (Ty.int IntKind.i64) (Ty.int IntKind.i64)) (Ty.prod (Ty.int IntKind.i64) (Ty.int IntKind.i64)))))) (.pair (.agg (Ty.prod (Ty.int IntKind.i64) (Ty.int IntKind.i64))) (.pair (.agg (Ty.prod (Ty.int IntKind.i64) (Ty.int IntKind.i64))) (.one (Ty.int IntKind.i64)))) r11closest_pre r11closest (by kernel_rfl) fun x hp => ⟨_, _, (ItsOk.nil _ _), (LpsOk.unroll tt_ok (SpecsOk.ctxI sp_r11edge_ok (ItsOk.nil _ _)) mixed _ LpsOk.nil (by kernel_rfl) (by kernel_rfl)), r11closest_fn x (fun y => y = r11closest x) hp rfl⟩
def sp_r11closest : List (Nat × Ev.Spec) := (18, fnSpec r11closest_S) :: sp_r11edge
theorem sp_r11closest_ok : SpecsOk Try.prog sp_r11closest := SpecsOk.cons (Enters.of (fn := Try.f18) (by kernel_rfl) (by kernel_rfl) (by kernel_rfl)) r11closest_ok sp_r11edge_ok
noncomputable def r11weights (x : ((Int × Int) × ((Int × Int) × ((Int × Int) × (Int × Int))))) : ((Int × (Int × Int)) × (Int × Int)) :=
 (letV (r10in x) fun y =>
 (if ((y.2 != (0 : Int)) = true) then
 (((0 : Int), ((0 : Int), (0 : Int))), ((0 : Int), y.2)) else
 (letV (r9area x.2) fun y_1 =>
 (if (y_1.1 < (0 : Int)) then
 (letV (r9area (x.1, x.2.2)) fun y_2 =>
 (letV (r9area (x.1, (x.2.2.2, x.2.1))) fun y_3 =>
 (letV (r9area (x.1, (x.2.1, x.2.2.1))) fun y_4 =>
 (((w64 (y_2.1 * (-1 : Int))), ((w64 (y_3.1 * (-1 : Int))), (w64 (y_4.1 * (-1 : Int))))), ((w64 (y_1.1 * (-1 : Int))), (0 : Int)))))) else
 (letV (r9area (x.1, x.2.2)) fun y_2 =>
 (letV (r9area (x.1, (x.2.2.2, x.2.1))) fun y_3 =>
 (letV (r9area (x.1, (x.2.1, x.2.2.1))) fun y_4 =>
 (((w64 (y_2.1 * (1 : Int))), ((w64 (y_3.1 * (1 : Int))), (w64 (y_4.1 * (1 : Int))))), ((w64 (y_1.1 * (1 : Int))), (0 : Int))))))))))
noncomputable def r11weights_pre (x : ((Int × Int) × ((Int × Int) × ((Int × Int) × (Int × Int))))) : Prop :=
 (r10in_pre x)
theorem r11weights_vc (x : ((Int × Int) × ((Int × Int) × ((Int × Int) × (Int × Int))))) (Q : ((Int × (Int × Int)) × (Int × Int)) → Prop) : fnE ⟨tt, sp_r11closest, noX, [], [], []⟩ Try.f19 (argsE (.pair (.agg (Ty.prod (Ty.int IntKind.i64) (Ty.int IntKind.i64))) (.agg (Ty.prod (Ty.prod (Ty.int IntKind.i64) (Ty.int IntKind.i64)) (Ty.prod (Ty.prod (Ty.int IntKind.i64) (Ty.int IntKind.i64)) (Ty.prod (Ty.int IntKind.i64) (Ty.int IntKind.i64)))))) x) (heapE (.pair (.agg (Ty.prod (Ty.int IntKind.i64) (Ty.int IntKind.i64))) (.agg (Ty.prod (Ty.prod (Ty.int IntKind.i64) (Ty.int IntKind.i64)) (Ty.prod (Ty.prod (Ty.int IntKind.i64) (Ty.int IntKind.i64)) (Ty.prod (Ty.int IntKind.i64) (Ty.int IntKind.i64)))))) x) (retE (.pair (.agg (Ty.prod (Ty.int IntKind.i64) (Ty.prod (Ty.int IntKind.i64) (Ty.int IntKind.i64)))) (.pair (.one (Ty.int IntKind.i64)) (.one (Ty.int IntKind.i64)))) Q) =
 ((r10in_pre x) ∧ ∀ y : (Int × Int), y = (r10in x) →
 (cB (y.2 != (0 : Int))
 (Q (((0 : Int), ((0 : Int), (0 : Int))), ((0 : Int), y.2)))
 ((r9area_pre x.2) ∧ ∀ y_1 : (Int × Int), y_1 = (r9area x.2) →
 (cB (decide (y_1.1 < (0 : Int)))
 ((r9area_pre (x.1, x.2.2)) ∧ ∀ y_2 : (Int × Int), y_2 = (r9area (x.1, x.2.2)) →
 ((r9area_pre (x.1, (x.2.2.2, x.2.1))) ∧ ∀ y_3 : (Int × Int), y_3 = (r9area (x.1, (x.2.2.2, x.2.1))) →
 ((r9area_pre (x.1, (x.2.1, x.2.2.1))) ∧ ∀ y_4 : (Int × Int), y_4 = (r9area (x.1, (x.2.1, x.2.2.1))) →
 (Q (((w64 (y_2.1 * (-1 : Int))), ((w64 (y_3.1 * (-1 : Int))), (w64 (y_4.1 * (-1 : Int))))), ((w64 (y_1.1 * (-1 : Int))), (0 : Int)))))))
 ((r9area_pre (x.1, x.2.2)) ∧ ∀ y_2 : (Int × Int), y_2 = (r9area (x.1, x.2.2)) →
 ((r9area_pre (x.1, (x.2.2.2, x.2.1))) ∧ ∀ y_3 : (Int × Int), y_3 = (r9area (x.1, (x.2.2.2, x.2.1))) →
 ((r9area_pre (x.1, (x.2.1, x.2.2.1))) ∧ ∀ y_4 : (Int × Int), y_4 = (r9area (x.1, (x.2.1, x.2.2.1))) →
 (Q (((w64 (y_2.1 * (1 : Int))), ((w64 (y_3.1 * (1 : Int))), (w64 (y_4.1 * (1 : Int))))), ((w64 (y_1.1 * (1 : Int))), (0 : Int))))))))))) := by kernel_rfl
theorem r11weights_fn (x : ((Int × Int) × ((Int × Int) × ((Int × Int) × (Int × Int))))) (Q : ((Int × (Int × Int)) × (Int × Int)) → Prop) (hp : r11weights_pre x) (hq : Q (r11weights x)) : Vc (fnE ⟨tt, sp_r11closest, noX, [], [], []⟩ Try.f19 (argsE (.pair (.agg (Ty.prod (Ty.int IntKind.i64) (Ty.int IntKind.i64))) (.agg (Ty.prod (Ty.prod (Ty.int IntKind.i64) (Ty.int IntKind.i64)) (Ty.prod (Ty.prod (Ty.int IntKind.i64) (Ty.int IntKind.i64)) (Ty.prod (Ty.int IntKind.i64) (Ty.int IntKind.i64)))))) x) (heapE (.pair (.agg (Ty.prod (Ty.int IntKind.i64) (Ty.int IntKind.i64))) (.agg (Ty.prod (Ty.prod (Ty.int IntKind.i64) (Ty.int IntKind.i64)) (Ty.prod (Ty.prod (Ty.int IntKind.i64) (Ty.int IntKind.i64)) (Ty.prod (Ty.int IntKind.i64) (Ty.int IntKind.i64)))))) x) (retE (.pair (.agg (Ty.prod (Ty.int IntKind.i64) (Ty.prod (Ty.int IntKind.i64) (Ty.int IntKind.i64)))) (.pair (.one (Ty.int IntKind.i64)) (.one (Ty.int IntKind.i64)))) Q)) := .eq (r11weights_vc x Q) (have hp := Eq.mp (r11weights_pre.eq_1 x) hp; have hq := Eq.mp (congrArg Q (r11weights.eq_1 x)) hq;
 (And.intro hp (let_0 (Q := Q) hq fun y hq => (cB_b (Q := Q) hq (fun c hq => hq) (fun c hq => (And.intro trivial (let_0 (Q := Q) hq fun y_1 hq => (cB_d (Q := Q) hq (fun c hq => (And.intro trivial (let_0 (Q := Q) hq fun y_2 hq => (And.intro trivial (let_0 (Q := Q) hq fun y_3 hq => (And.intro trivial (let_0 (Q := Q) hq fun y_4 hq => hq))))))) (fun c hq => (And.intro trivial (let_0 (Q := Q) hq fun y_2 hq => (And.intro trivial (let_0 (Q := Q) hq fun y_3 hq => (And.intro trivial (let_0 (Q := Q) hq fun y_4 hq => hq)))))))))))))))
noncomputable def r11weights_S : FnS := ⟨(.pair (.agg (Ty.prod (Ty.int IntKind.i64) (Ty.int IntKind.i64))) (.agg (Ty.prod (Ty.prod (Ty.int IntKind.i64) (Ty.int IntKind.i64)) (Ty.prod (Ty.prod (Ty.int IntKind.i64) (Ty.int IntKind.i64)) (Ty.prod (Ty.int IntKind.i64) (Ty.int IntKind.i64)))))), (.pair (.agg (Ty.prod (Ty.int IntKind.i64) (Ty.prod (Ty.int IntKind.i64) (Ty.int IntKind.i64)))) (.pair (.one (Ty.int IntKind.i64)) (.one (Ty.int IntKind.i64)))), r11weights_pre, r11weights⟩
theorem r11weights_ok : SpecOk Try.prog 19 (fnSpec r11weights_S) := SpecOk.fnT' (fn := Try.f19) tt_ok sp_r11closest_ok mixed (by kernel_rfl) (by kernel_rfl) (.pair (.agg (Ty.prod (Ty.int IntKind.i64) (Ty.int IntKind.i64))) (.agg (Ty.prod (Ty.prod (Ty.int IntKind.i64) (Ty.int IntKind.i64)) (Ty.prod (Ty.prod (Ty.int IntKind.i64) (Ty.int IntKind.i64)) (Ty.prod (Ty.int IntKind.i64) (Ty.int IntKind.i64)))))) (.pair (.agg (Ty.prod (Ty.int IntKind.i64) (Ty.prod (Ty.int IntKind.i64) (Ty.int IntKind.i64)))) (.pair (.one (Ty.int IntKind.i64)) (.one (Ty.int IntKind.i64)))) r11weights_pre r11weights (by kernel_rfl) fun x hp => ⟨_, _, (ItsOk.nil _ _), LpsOk.nil, r11weights_fn x (fun y => y = r11weights x) hp rfl⟩
def sp_r11weights : List (Nat × Ev.Spec) := (19, fnSpec r11weights_S) :: sp_r11closest
theorem sp_r11weights_ok : SpecsOk Try.prog sp_r11weights := SpecsOk.cons (Enters.of (fn := Try.f19) (by kernel_rfl) (by kernel_rfl) (by kernel_rfl)) r11weights_ok sp_r11closest_ok
noncomputable def r11lift (x : ((Int × Int) × (((Int × Int) × ((Int × Int) × (Int × Int))) × ((Int × (Int × Int)) × ((Int × (Int × Int)) × (Int × (Int × Int))))))) : ((Int × (Int × Int)) × Int) :=
 (letV (r9small2 x.1) fun y =>
 (if ((!y) = true) then
 (((0 : Int), ((0 : Int), (0 : Int))), (5 : Int)) else
 (letV (r9small3 x.2.2.1) fun y_1 =>
 (if ((!y_1) = true) then
 (((0 : Int), ((0 : Int), (0 : Int))), (5 : Int)) else
 (letV (r9small3 x.2.2.2.1) fun y_2 =>
 (if ((!y_2) = true) then
 (((0 : Int), ((0 : Int), (0 : Int))), (5 : Int)) else
 (letV (r9small3 x.2.2.2.2) fun y_3 =>
 (if ((!y_3) = true) then
 (((0 : Int), ((0 : Int), (0 : Int))), (5 : Int)) else
 (letV (r11weights (x.1, x.2.1)) fun y_4 =>
 (if ((y_4.2.2 != (0 : Int)) = true) then
 (((0 : Int), ((0 : Int), (0 : Int))), y_4.2.2) else
 (letV (r11down ((w64 ((w64 ((w64 (y_4.1.1 * x.2.2.1.1)) + (w64 (y_4.1.2.1 * x.2.2.2.1.1)))) + (w64 (y_4.1.2.2 * x.2.2.2.2.1)))), y_4.2.1)) fun y_5 =>
 (letV (r11down ((w64 ((w64 ((w64 (y_4.1.1 * x.2.2.1.2.1)) + (w64 (y_4.1.2.1 * x.2.2.2.1.2.1)))) + (w64 (y_4.1.2.2 * x.2.2.2.2.2.1)))), y_4.2.1)) fun y_6 =>
 (letV (r11down ((w64 ((w64 ((w64 (y_4.1.1 * x.2.2.1.2.2)) + (w64 (y_4.1.2.1 * x.2.2.2.1.2.2)))) + (w64 (y_4.1.2.2 * x.2.2.2.2.2.2)))), y_4.2.1)) fun y_7 =>
 ((y_5, (y_6, y_7)), (0 : Int)))))))))))))))
noncomputable def r11lift_pre (x : ((Int × Int) × (((Int × Int) × ((Int × Int) × (Int × Int))) × ((Int × (Int × Int)) × ((Int × (Int × Int)) × (Int × (Int × Int))))))) : Prop :=
 (letP (r9small2 x.1) fun y =>
 (¬ ((!y) = true) →
 (letP (r9small3 x.2.2.1) fun y_1 =>
 (¬ ((!y_1) = true) →
 (letP (r9small3 x.2.2.2.1) fun y_2 =>
 (¬ ((!y_2) = true) →
 (letP (r9small3 x.2.2.2.2) fun y_3 =>
 (¬ ((!y_3) = true) →
 ((r11weights_pre (x.1, x.2.1)) ∧
 letP (r11weights (x.1, x.2.1)) fun y_4 =>
 (¬ ((y_4.2.2 != (0 : Int)) = true) →
 ((r11down_pre ((w64 ((w64 ((w64 (y_4.1.1 * x.2.2.1.1)) + (w64 (y_4.1.2.1 * x.2.2.2.1.1)))) + (w64 (y_4.1.2.2 * x.2.2.2.2.1)))), y_4.2.1)) ∧
 letP (r11down ((w64 ((w64 ((w64 (y_4.1.1 * x.2.2.1.1)) + (w64 (y_4.1.2.1 * x.2.2.2.1.1)))) + (w64 (y_4.1.2.2 * x.2.2.2.2.1)))), y_4.2.1)) fun y_5 =>
 ((r11down_pre ((w64 ((w64 ((w64 (y_4.1.1 * x.2.2.1.2.1)) + (w64 (y_4.1.2.1 * x.2.2.2.1.2.1)))) + (w64 (y_4.1.2.2 * x.2.2.2.2.2.1)))), y_4.2.1)) ∧
 letP (r11down ((w64 ((w64 ((w64 (y_4.1.1 * x.2.2.1.2.1)) + (w64 (y_4.1.2.1 * x.2.2.2.1.2.1)))) + (w64 (y_4.1.2.2 * x.2.2.2.2.2.1)))), y_4.2.1)) fun y_6 =>
 (r11down_pre ((w64 ((w64 ((w64 (y_4.1.1 * x.2.2.1.2.2)) + (w64 (y_4.1.2.1 * x.2.2.2.1.2.2)))) + (w64 (y_4.1.2.2 * x.2.2.2.2.2.2)))), y_4.2.1))))))))))))))
theorem r11lift_vc (x : ((Int × Int) × (((Int × Int) × ((Int × Int) × (Int × Int))) × ((Int × (Int × Int)) × ((Int × (Int × Int)) × (Int × (Int × Int))))))) (Q : ((Int × (Int × Int)) × Int) → Prop) : fnE ⟨tt, sp_r11weights, noX, [], [], []⟩ Try.f21 (argsE (.pair (.agg (Ty.prod (Ty.int IntKind.i64) (Ty.int IntKind.i64))) (.pair (.agg (Ty.prod (Ty.prod (Ty.int IntKind.i64) (Ty.int IntKind.i64)) (Ty.prod (Ty.prod (Ty.int IntKind.i64) (Ty.int IntKind.i64)) (Ty.prod (Ty.int IntKind.i64) (Ty.int IntKind.i64))))) (.agg (Ty.prod (Ty.prod (Ty.int IntKind.i64) (Ty.prod (Ty.int IntKind.i64) (Ty.int IntKind.i64))) (Ty.prod (Ty.prod (Ty.int IntKind.i64) (Ty.prod (Ty.int IntKind.i64) (Ty.int IntKind.i64))) (Ty.prod (Ty.int IntKind.i64) (Ty.prod (Ty.int IntKind.i64) (Ty.int IntKind.i64)))))))) x) (heapE (.pair (.agg (Ty.prod (Ty.int IntKind.i64) (Ty.int IntKind.i64))) (.pair (.agg (Ty.prod (Ty.prod (Ty.int IntKind.i64) (Ty.int IntKind.i64)) (Ty.prod (Ty.prod (Ty.int IntKind.i64) (Ty.int IntKind.i64)) (Ty.prod (Ty.int IntKind.i64) (Ty.int IntKind.i64))))) (.agg (Ty.prod (Ty.prod (Ty.int IntKind.i64) (Ty.prod (Ty.int IntKind.i64) (Ty.int IntKind.i64))) (Ty.prod (Ty.prod (Ty.int IntKind.i64) (Ty.prod (Ty.int IntKind.i64) (Ty.int IntKind.i64))) (Ty.prod (Ty.int IntKind.i64) (Ty.prod (Ty.int IntKind.i64) (Ty.int IntKind.i64)))))))) x) (retE (.pair (.agg (Ty.prod (Ty.int IntKind.i64) (Ty.prod (Ty.int IntKind.i64) (Ty.int IntKind.i64)))) (.one (Ty.int IntKind.i64))) Q) =
 ((r9small2_pre x.1) ∧ ∀ y : Bool, y = (r9small2 x.1) →
 (cB (!y)
 (Q (((0 : Int), ((0 : Int), (0 : Int))), (5 : Int)))
 ((r9small3_pre x.2.2.1) ∧ ∀ y_1 : Bool, y_1 = (r9small3 x.2.2.1) →
 (cB (!y_1)
 (Q (((0 : Int), ((0 : Int), (0 : Int))), (5 : Int)))
 ((r9small3_pre x.2.2.2.1) ∧ ∀ y_2 : Bool, y_2 = (r9small3 x.2.2.2.1) →
 (cB (!y_2)
 (Q (((0 : Int), ((0 : Int), (0 : Int))), (5 : Int)))
 ((r9small3_pre x.2.2.2.2) ∧ ∀ y_3 : Bool, y_3 = (r9small3 x.2.2.2.2) →
 (cB (!y_3)
 (Q (((0 : Int), ((0 : Int), (0 : Int))), (5 : Int)))
 ((r11weights_pre (x.1, x.2.1)) ∧ ∀ y_4 : ((Int × (Int × Int)) × (Int × Int)), y_4 = (r11weights (x.1, x.2.1)) →
 (cB (y_4.2.2 != (0 : Int))
 (Q (((0 : Int), ((0 : Int), (0 : Int))), y_4.2.2))
 ((r11down_pre ((w64 ((w64 ((w64 (y_4.1.1 * x.2.2.1.1)) + (w64 (y_4.1.2.1 * x.2.2.2.1.1)))) + (w64 (y_4.1.2.2 * x.2.2.2.2.1)))), y_4.2.1)) ∧ ∀ y_5 : Int, y_5 = (r11down ((w64 ((w64 ((w64 (y_4.1.1 * x.2.2.1.1)) + (w64 (y_4.1.2.1 * x.2.2.2.1.1)))) + (w64 (y_4.1.2.2 * x.2.2.2.2.1)))), y_4.2.1)) →
 ((r11down_pre ((w64 ((w64 ((w64 (y_4.1.1 * x.2.2.1.2.1)) + (w64 (y_4.1.2.1 * x.2.2.2.1.2.1)))) + (w64 (y_4.1.2.2 * x.2.2.2.2.2.1)))), y_4.2.1)) ∧ ∀ y_6 : Int, y_6 = (r11down ((w64 ((w64 ((w64 (y_4.1.1 * x.2.2.1.2.1)) + (w64 (y_4.1.2.1 * x.2.2.2.1.2.1)))) + (w64 (y_4.1.2.2 * x.2.2.2.2.2.1)))), y_4.2.1)) →
 ((r11down_pre ((w64 ((w64 ((w64 (y_4.1.1 * x.2.2.1.2.2)) + (w64 (y_4.1.2.1 * x.2.2.2.1.2.2)))) + (w64 (y_4.1.2.2 * x.2.2.2.2.2.2)))), y_4.2.1)) ∧ ∀ y_7 : Int, y_7 = (r11down ((w64 ((w64 ((w64 (y_4.1.1 * x.2.2.1.2.2)) + (w64 (y_4.1.2.1 * x.2.2.2.1.2.2)))) + (w64 (y_4.1.2.2 * x.2.2.2.2.2.2)))), y_4.2.1)) →
 (Q ((y_5, (y_6, y_7)), (0 : Int)))))))))))))))) := by kernel_rfl
theorem r11lift_fn (x : ((Int × Int) × (((Int × Int) × ((Int × Int) × (Int × Int))) × ((Int × (Int × Int)) × ((Int × (Int × Int)) × (Int × (Int × Int))))))) (Q : ((Int × (Int × Int)) × Int) → Prop) (hp : r11lift_pre x) (hq : Q (r11lift x)) : Vc (fnE ⟨tt, sp_r11weights, noX, [], [], []⟩ Try.f21 (argsE (.pair (.agg (Ty.prod (Ty.int IntKind.i64) (Ty.int IntKind.i64))) (.pair (.agg (Ty.prod (Ty.prod (Ty.int IntKind.i64) (Ty.int IntKind.i64)) (Ty.prod (Ty.prod (Ty.int IntKind.i64) (Ty.int IntKind.i64)) (Ty.prod (Ty.int IntKind.i64) (Ty.int IntKind.i64))))) (.agg (Ty.prod (Ty.prod (Ty.int IntKind.i64) (Ty.prod (Ty.int IntKind.i64) (Ty.int IntKind.i64))) (Ty.prod (Ty.prod (Ty.int IntKind.i64) (Ty.prod (Ty.int IntKind.i64) (Ty.int IntKind.i64))) (Ty.prod (Ty.int IntKind.i64) (Ty.prod (Ty.int IntKind.i64) (Ty.int IntKind.i64)))))))) x) (heapE (.pair (.agg (Ty.prod (Ty.int IntKind.i64) (Ty.int IntKind.i64))) (.pair (.agg (Ty.prod (Ty.prod (Ty.int IntKind.i64) (Ty.int IntKind.i64)) (Ty.prod (Ty.prod (Ty.int IntKind.i64) (Ty.int IntKind.i64)) (Ty.prod (Ty.int IntKind.i64) (Ty.int IntKind.i64))))) (.agg (Ty.prod (Ty.prod (Ty.int IntKind.i64) (Ty.prod (Ty.int IntKind.i64) (Ty.int IntKind.i64))) (Ty.prod (Ty.prod (Ty.int IntKind.i64) (Ty.prod (Ty.int IntKind.i64) (Ty.int IntKind.i64))) (Ty.prod (Ty.int IntKind.i64) (Ty.prod (Ty.int IntKind.i64) (Ty.int IntKind.i64)))))))) x) (retE (.pair (.agg (Ty.prod (Ty.int IntKind.i64) (Ty.prod (Ty.int IntKind.i64) (Ty.int IntKind.i64)))) (.one (Ty.int IntKind.i64))) Q)) := .eq (r11lift_vc x Q) (have hp := Eq.mp (r11lift_pre.eq_1 x) hp; have hq := Eq.mp (congrArg Q (r11lift.eq_1 x)) hq;
 (And.intro trivial (let_k (Q := Q) hp hq fun y hp hq => (cB_b (Q := Q) hq (fun c hq => hq) (fun c hq => have hp := (hp c); (And.intro trivial (let_k (Q := Q) hp hq fun y_1 hp hq => (cB_b (Q := Q) hq (fun c hq => hq) (fun c hq => have hp := (hp c); (And.intro trivial (let_k (Q := Q) hp hq fun y_2 hp hq => (cB_b (Q := Q) hq (fun c hq => hq) (fun c hq => have hp := (hp c); (And.intro trivial (let_k (Q := Q) hp hq fun y_3 hp hq => (cB_b (Q := Q) hq (fun c hq => hq) (fun c hq => have hp := (hp c); (And.intro hp.1 (let_k (Q := Q) hp.2 hq fun y_4 hp hq => (cB_b (Q := Q) hq (fun c hq => hq) (fun c hq => have hp := (hp c); (And.intro hp.1 (let_k (Q := Q) hp.2 hq fun y_5 hp hq => (And.intro hp.1 (let_k (Q := Q) hp.2 hq fun y_6 hp hq => (And.intro hp (let_0 (Q := Q) hq fun y_7 hq => hq)))))))))))))))))))))))))))
noncomputable def r11lift_S : FnS := ⟨(.pair (.agg (Ty.prod (Ty.int IntKind.i64) (Ty.int IntKind.i64))) (.pair (.agg (Ty.prod (Ty.prod (Ty.int IntKind.i64) (Ty.int IntKind.i64)) (Ty.prod (Ty.prod (Ty.int IntKind.i64) (Ty.int IntKind.i64)) (Ty.prod (Ty.int IntKind.i64) (Ty.int IntKind.i64))))) (.agg (Ty.prod (Ty.prod (Ty.int IntKind.i64) (Ty.prod (Ty.int IntKind.i64) (Ty.int IntKind.i64))) (Ty.prod (Ty.prod (Ty.int IntKind.i64) (Ty.prod (Ty.int IntKind.i64) (Ty.int IntKind.i64))) (Ty.prod (Ty.int IntKind.i64) (Ty.prod (Ty.int IntKind.i64) (Ty.int IntKind.i64)))))))), (.pair (.agg (Ty.prod (Ty.int IntKind.i64) (Ty.prod (Ty.int IntKind.i64) (Ty.int IntKind.i64)))) (.one (Ty.int IntKind.i64))), r11lift_pre, r11lift⟩
theorem r11lift_ok : SpecOk Try.prog 21 (fnSpec r11lift_S) := SpecOk.fnT' (fn := Try.f21) tt_ok sp_r11weights_ok mixed (by kernel_rfl) (by kernel_rfl) (.pair (.agg (Ty.prod (Ty.int IntKind.i64) (Ty.int IntKind.i64))) (.pair (.agg (Ty.prod (Ty.prod (Ty.int IntKind.i64) (Ty.int IntKind.i64)) (Ty.prod (Ty.prod (Ty.int IntKind.i64) (Ty.int IntKind.i64)) (Ty.prod (Ty.int IntKind.i64) (Ty.int IntKind.i64))))) (.agg (Ty.prod (Ty.prod (Ty.int IntKind.i64) (Ty.prod (Ty.int IntKind.i64) (Ty.int IntKind.i64))) (Ty.prod (Ty.prod (Ty.int IntKind.i64) (Ty.prod (Ty.int IntKind.i64) (Ty.int IntKind.i64))) (Ty.prod (Ty.int IntKind.i64) (Ty.prod (Ty.int IntKind.i64) (Ty.int IntKind.i64)))))))) (.pair (.agg (Ty.prod (Ty.int IntKind.i64) (Ty.prod (Ty.int IntKind.i64) (Ty.int IntKind.i64)))) (.one (Ty.int IntKind.i64))) r11lift_pre r11lift (by kernel_rfl) fun x hp => ⟨_, _, (ItsOk.nil _ _), LpsOk.nil, r11lift_fn x (fun y => y = r11lift x) hp rfl⟩
def sp_r11lift : List (Nat × Ev.Spec) := (21, fnSpec r11lift_S) :: sp_r11weights
theorem sp_r11lift_ok : SpecsOk Try.prog sp_r11lift := SpecsOk.cons (Enters.of (fn := Try.f21) (by kernel_rfl) (by kernel_rfl) (by kernel_rfl)) r11lift_ok sp_r11weights_ok
end Go.Proofs.Ytpdhabfebpjihaa
