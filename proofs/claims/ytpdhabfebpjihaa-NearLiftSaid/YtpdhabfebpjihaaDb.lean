/- Models of functions of near, and that the code does what they say. -/
import Derived.Test.YtpdhabfebpjihaaDa
namespace Go.Proofs.Ytpdhabfebpjihaa
open Go Go.Ev Go.Proofs
set_option linter.unusedVariables false
noncomputable def ends (x : ((Int × Int) × (Int × (Int × Int)))) : ((Int × Int) × (Int × (Int × Int))) :=
 x
noncomputable def ends_pre (_ : ((Int × Int) × (Int × (Int × Int)))) : Prop := True
theorem ends_vc (x : ((Int × Int) × (Int × (Int × Int)))) (Q : ((Int × Int) × (Int × (Int × Int))) → Prop) : fnE ⟨tt, sp_mright, noX, [], [], []⟩ Try.f28 (argsE (.agg (Ty.prod (Ty.prod (Ty.int IntKind.i64) (Ty.int IntKind.i64)) (Ty.prod (Ty.int IntKind.i64) (Ty.prod (Ty.int IntKind.i64) (Ty.int IntKind.i64))))) x) (heapE (.agg (Ty.prod (Ty.prod (Ty.int IntKind.i64) (Ty.int IntKind.i64)) (Ty.prod (Ty.int IntKind.i64) (Ty.prod (Ty.int IntKind.i64) (Ty.int IntKind.i64))))) x) (retE (.pair (.agg (Ty.prod (Ty.int IntKind.i64) (Ty.int IntKind.i64))) (.pair (.one (Ty.int IntKind.i64)) (.agg (Ty.prod (Ty.int IntKind.i64) (Ty.int IntKind.i64))))) Q) =
 (Q x) := by kernel_rfl
theorem ends_fn (x : ((Int × Int) × (Int × (Int × Int)))) (Q : ((Int × Int) × (Int × (Int × Int))) → Prop) (hp : ends_pre x) (hq : Q (ends x)) : Vc (fnE ⟨tt, sp_mright, noX, [], [], []⟩ Try.f28 (argsE (.agg (Ty.prod (Ty.prod (Ty.int IntKind.i64) (Ty.int IntKind.i64)) (Ty.prod (Ty.int IntKind.i64) (Ty.prod (Ty.int IntKind.i64) (Ty.int IntKind.i64))))) x) (heapE (.agg (Ty.prod (Ty.prod (Ty.int IntKind.i64) (Ty.int IntKind.i64)) (Ty.prod (Ty.int IntKind.i64) (Ty.prod (Ty.int IntKind.i64) (Ty.int IntKind.i64))))) x) (retE (.pair (.agg (Ty.prod (Ty.int IntKind.i64) (Ty.int IntKind.i64))) (.pair (.one (Ty.int IntKind.i64)) (.agg (Ty.prod (Ty.int IntKind.i64) (Ty.int IntKind.i64))))) Q)) := .eq (ends_vc x Q) (have hp := Eq.mp (ends_pre.eq_1 x) hp; have hq := Eq.mp (congrArg Q (ends.eq_1 x)) hq;
 hq)
noncomputable def ends_S : FnS := ⟨(.agg (Ty.prod (Ty.prod (Ty.int IntKind.i64) (Ty.int IntKind.i64)) (Ty.prod (Ty.int IntKind.i64) (Ty.prod (Ty.int IntKind.i64) (Ty.int IntKind.i64))))), (.pair (.agg (Ty.prod (Ty.int IntKind.i64) (Ty.int IntKind.i64))) (.pair (.one (Ty.int IntKind.i64)) (.agg (Ty.prod (Ty.int IntKind.i64) (Ty.int IntKind.i64))))), ends_pre, ends⟩
theorem ends_ok : SpecOk Try.prog 28 (fnSpec ends_S) := SpecOk.fnT' (fn := Try.f28) tt_ok sp_mright_ok mixed (by kernel_rfl) (by kernel_rfl) (.agg (Ty.prod (Ty.prod (Ty.int IntKind.i64) (Ty.int IntKind.i64)) (Ty.prod (Ty.int IntKind.i64) (Ty.prod (Ty.int IntKind.i64) (Ty.int IntKind.i64))))) (.pair (.agg (Ty.prod (Ty.int IntKind.i64) (Ty.int IntKind.i64))) (.pair (.one (Ty.int IntKind.i64)) (.agg (Ty.prod (Ty.int IntKind.i64) (Ty.int IntKind.i64))))) ends_pre ends (by kernel_rfl) fun x hp => ⟨_, _, (ItsOk.nil _ _), LpsOk.nil, ends_fn x (fun y => y = ends x) hp rfl⟩
def sp_ends : List (Nat × Ev.Spec) := (28, fnSpec ends_S) :: sp_mright
theorem sp_ends_ok : SpecsOk Try.prog sp_ends := SpecsOk.cons (Enters.of (fn := Try.f28) (by kernel_rfl) (by kernel_rfl) (by kernel_rfl)) ends_ok sp_mright_ok
noncomputable def nend (x : ((Int × Int) × ((Int × Int) × Int))) : ((Int × Int) × (Int × (Int × Int))) :=
 (letV (sub2 (x.1, x.2.1)) fun y =>
 (letV (dot (y, y)) fun y_1 =>
 (x.2.1, (x.2.2, (y_1, (1 : Int))))))
noncomputable def nend_pre (x : ((Int × Int) × ((Int × Int) × Int))) : Prop :=
 (sub2_pre (x.1, x.2.1))
theorem nend_vc (x : ((Int × Int) × ((Int × Int) × Int))) (Q : ((Int × Int) × (Int × (Int × Int))) → Prop) : fnE ⟨tt, sp_ends, noX, [], [], []⟩ Try.f41 (argsE (.pair (.agg (Ty.prod (Ty.int IntKind.i64) (Ty.int IntKind.i64))) (.pair (.agg (Ty.prod (Ty.int IntKind.i64) (Ty.int IntKind.i64))) (.one (Ty.int IntKind.i64)))) x) (heapE (.pair (.agg (Ty.prod (Ty.int IntKind.i64) (Ty.int IntKind.i64))) (.pair (.agg (Ty.prod (Ty.int IntKind.i64) (Ty.int IntKind.i64))) (.one (Ty.int IntKind.i64)))) x) (retE (.agg (Ty.prod (Ty.prod (Ty.int IntKind.i64) (Ty.int IntKind.i64)) (Ty.prod (Ty.int IntKind.i64) (Ty.prod (Ty.int IntKind.i64) (Ty.int IntKind.i64))))) Q) =
 ((sub2_pre (x.1, x.2.1)) ∧ ∀ y : (Int × Int), y = (sub2 (x.1, x.2.1)) →
 ((dot_pre (y, y)) ∧ ∀ y_1 : Int, y_1 = (dot (y, y)) →
 (Q (x.2.1, (x.2.2, (y_1, (1 : Int))))))) := by kernel_rfl
theorem nend_fn (x : ((Int × Int) × ((Int × Int) × Int))) (Q : ((Int × Int) × (Int × (Int × Int))) → Prop) (hp : nend_pre x) (hq : Q (nend x)) : Vc (fnE ⟨tt, sp_ends, noX, [], [], []⟩ Try.f41 (argsE (.pair (.agg (Ty.prod (Ty.int IntKind.i64) (Ty.int IntKind.i64))) (.pair (.agg (Ty.prod (Ty.int IntKind.i64) (Ty.int IntKind.i64))) (.one (Ty.int IntKind.i64)))) x) (heapE (.pair (.agg (Ty.prod (Ty.int IntKind.i64) (Ty.int IntKind.i64))) (.pair (.agg (Ty.prod (Ty.int IntKind.i64) (Ty.int IntKind.i64))) (.one (Ty.int IntKind.i64)))) x) (retE (.agg (Ty.prod (Ty.prod (Ty.int IntKind.i64) (Ty.int IntKind.i64)) (Ty.prod (Ty.int IntKind.i64) (Ty.prod (Ty.int IntKind.i64) (Ty.int IntKind.i64))))) Q)) := .eq (nend_vc x Q) (have hp := Eq.mp (nend_pre.eq_1 x) hp; have hq := Eq.mp (congrArg Q (nend.eq_1 x)) hq;
 (And.intro hp (let_0 (Q := Q) hq fun y hq => (And.intro trivial (let_0 (Q := Q) hq fun y_1 hq => hq)))))
noncomputable def nend_S : FnS := ⟨(.pair (.agg (Ty.prod (Ty.int IntKind.i64) (Ty.int IntKind.i64))) (.pair (.agg (Ty.prod (Ty.int IntKind.i64) (Ty.int IntKind.i64))) (.one (Ty.int IntKind.i64)))), (.agg (Ty.prod (Ty.prod (Ty.int IntKind.i64) (Ty.int IntKind.i64)) (Ty.prod (Ty.int IntKind.i64) (Ty.prod (Ty.int IntKind.i64) (Ty.int IntKind.i64))))), nend_pre, nend⟩
theorem nend_ok : SpecOk Try.prog 41 (fnSpec nend_S) := SpecOk.fnT' (fn := Try.f41) tt_ok sp_ends_ok mixed (by kernel_rfl) (by kernel_rfl) (.pair (.agg (Ty.prod (Ty.int IntKind.i64) (Ty.int IntKind.i64))) (.pair (.agg (Ty.prod (Ty.int IntKind.i64) (Ty.int IntKind.i64))) (.one (Ty.int IntKind.i64)))) (.agg (Ty.prod (Ty.prod (Ty.int IntKind.i64) (Ty.int IntKind.i64)) (Ty.prod (Ty.int IntKind.i64) (Ty.prod (Ty.int IntKind.i64) (Ty.int IntKind.i64))))) nend_pre nend (by kernel_rfl) fun x hp => ⟨_, _, (ItsOk.nil _ _), LpsOk.nil, nend_fn x (fun y => y = nend x) hp rfl⟩
def sp_nend : List (Nat × Ev.Spec) := (41, fnSpec nend_S) :: sp_ends
theorem sp_nend_ok : SpecsOk Try.prog sp_nend := SpecsOk.cons (Enters.of (fn := Try.f41) (by kernel_rfl) (by kernel_rfl) (by kernel_rfl)) nend_ok sp_ends_ok
noncomputable def find (x : ((Int × Int) × ((Int × Int) × (Int × Int)))) : ((Int × Int) × (Int × (Int × Int))) :=
 (letV (sub2 (x.1, x.2.1)) fun y =>
 (letV (sub2 (x.2.2, x.2.1)) fun y_1 =>
 (letV (dot (y, y_1)) fun y_2 =>
 (letV (dot (y_1, y_1)) fun y_3 =>
 (if (y_2 ≤ (0 : Int)) then
 (letV (nend (x.1, (x.2.1, (0 : Int)))) fun y_4 =>
 y_4) else
 (if ((y_3 == (0 : Int)) = true) then
 (letV (nend (x.1, (x.2.1, (0 : Int)))) fun y_4 =>
 y_4) else
 (if (y_2 ≥ y_3) then
 (letV (nend (x.1, (x.2.2, (1 : Int)))) fun y_4 =>
 y_4) else
 (letV (sarea (x.2.1, (x.2.2, x.1))) fun y_4 =>
 (letV (floor ((w64 (y_1.1 * y_2)), y_3)) fun y_5 =>
 (letV (floor ((w64 (y_1.2 * y_2)), y_3)) fun y_6 =>
 (((w64 (x.2.1.1 + y_5)), (w64 (x.2.1.2 + y_6))), ((2 : Int), ((w64 (y_4.1 * y_4.1)), y_3)))))))))))))
noncomputable def find_pre (x : ((Int × Int) × ((Int × Int) × (Int × Int)))) : Prop :=
 ((sub2_pre (x.1, x.2.1)) ∧
 letP (sub2 (x.1, x.2.1)) fun y =>
 ((sub2_pre (x.2.2, x.2.1)) ∧
 letP (sub2 (x.2.2, x.2.1)) fun y_1 =>
 (letP (dot (y, y_1)) fun y_2 =>
 (letP (dot (y_1, y_1)) fun y_3 =>
 (((y_2 ≤ (0 : Int)) →
 (nend_pre (x.1, (x.2.1, (0 : Int))))) ∧
 (¬ (y_2 ≤ (0 : Int)) →
 ((((y_3 == (0 : Int)) = true) →
 (nend_pre (x.1, (x.2.1, (0 : Int))))) ∧
 (¬ ((y_3 == (0 : Int)) = true) →
 (((y_2 ≥ y_3) →
 (nend_pre (x.1, (x.2.2, (1 : Int))))) ∧
 (¬ (y_2 ≥ y_3) →
 ((sarea_pre (x.2.1, (x.2.2, x.1))) ∧
 letP (sarea (x.2.1, (x.2.2, x.1))) fun y_4 =>
 ((floor_pre ((w64 (y_1.1 * y_2)), y_3)) ∧
 letP (floor ((w64 (y_1.1 * y_2)), y_3)) fun y_5 =>
 (floor_pre ((w64 (y_1.2 * y_2)), y_3))))))))))))))
theorem find_vc (x : ((Int × Int) × ((Int × Int) × (Int × Int)))) (Q : ((Int × Int) × (Int × (Int × Int))) → Prop) : fnE ⟨tt, sp_nend, noX, [], [], []⟩ Try.f22 (argsE (.pair (.agg (Ty.prod (Ty.int IntKind.i64) (Ty.int IntKind.i64))) (.pair (.agg (Ty.prod (Ty.int IntKind.i64) (Ty.int IntKind.i64))) (.agg (Ty.prod (Ty.int IntKind.i64) (Ty.int IntKind.i64))))) x) (heapE (.pair (.agg (Ty.prod (Ty.int IntKind.i64) (Ty.int IntKind.i64))) (.pair (.agg (Ty.prod (Ty.int IntKind.i64) (Ty.int IntKind.i64))) (.agg (Ty.prod (Ty.int IntKind.i64) (Ty.int IntKind.i64))))) x) (retE (.agg (Ty.prod (Ty.prod (Ty.int IntKind.i64) (Ty.int IntKind.i64)) (Ty.prod (Ty.int IntKind.i64) (Ty.prod (Ty.int IntKind.i64) (Ty.int IntKind.i64))))) Q) =
 ((sub2_pre (x.1, x.2.1)) ∧ ∀ y : (Int × Int), y = (sub2 (x.1, x.2.1)) →
 ((sub2_pre (x.2.2, x.2.1)) ∧ ∀ y_1 : (Int × Int), y_1 = (sub2 (x.2.2, x.2.1)) →
 ((dot_pre (y, y_1)) ∧ ∀ y_2 : Int, y_2 = (dot (y, y_1)) →
 ((dot_pre (y_1, y_1)) ∧ ∀ y_3 : Int, y_3 = (dot (y_1, y_1)) →
 (cB (decide (y_2 ≤ (0 : Int)))
 ((nend_pre (x.1, (x.2.1, (0 : Int)))) ∧ ∀ y_4 : ((Int × Int) × (Int × (Int × Int))), y_4 = (nend (x.1, (x.2.1, (0 : Int)))) →
 (Q y_4))
 (cB (y_3 == (0 : Int))
 ((nend_pre (x.1, (x.2.1, (0 : Int)))) ∧ ∀ y_4 : ((Int × Int) × (Int × (Int × Int))), y_4 = (nend (x.1, (x.2.1, (0 : Int)))) →
 (Q y_4))
 (cB (decide (y_2 ≥ y_3))
 ((nend_pre (x.1, (x.2.2, (1 : Int)))) ∧ ∀ y_4 : ((Int × Int) × (Int × (Int × Int))), y_4 = (nend (x.1, (x.2.2, (1 : Int)))) →
 (Q y_4))
 ((sarea_pre (x.2.1, (x.2.2, x.1))) ∧ ∀ y_4 : (Int × Int), y_4 = (sarea (x.2.1, (x.2.2, x.1))) →
 ((floor_pre ((w64 (y_1.1 * y_2)), y_3)) ∧ ∀ y_5 : Int, y_5 = (floor ((w64 (y_1.1 * y_2)), y_3)) →
 ((floor_pre ((w64 (y_1.2 * y_2)), y_3)) ∧ ∀ y_6 : Int, y_6 = (floor ((w64 (y_1.2 * y_2)), y_3)) →
 (Q (((w64 (x.2.1.1 + y_5)), (w64 (x.2.1.2 + y_6))), ((2 : Int), ((w64 (y_4.1 * y_4.1)), y_3)))))))))))))) := by kernel_rfl
theorem find_fn (x : ((Int × Int) × ((Int × Int) × (Int × Int)))) (Q : ((Int × Int) × (Int × (Int × Int))) → Prop) (hp : find_pre x) (hq : Q (find x)) : Vc (fnE ⟨tt, sp_nend, noX, [], [], []⟩ Try.f22 (argsE (.pair (.agg (Ty.prod (Ty.int IntKind.i64) (Ty.int IntKind.i64))) (.pair (.agg (Ty.prod (Ty.int IntKind.i64) (Ty.int IntKind.i64))) (.agg (Ty.prod (Ty.int IntKind.i64) (Ty.int IntKind.i64))))) x) (heapE (.pair (.agg (Ty.prod (Ty.int IntKind.i64) (Ty.int IntKind.i64))) (.pair (.agg (Ty.prod (Ty.int IntKind.i64) (Ty.int IntKind.i64))) (.agg (Ty.prod (Ty.int IntKind.i64) (Ty.int IntKind.i64))))) x) (retE (.agg (Ty.prod (Ty.prod (Ty.int IntKind.i64) (Ty.int IntKind.i64)) (Ty.prod (Ty.int IntKind.i64) (Ty.prod (Ty.int IntKind.i64) (Ty.int IntKind.i64))))) Q)) := .eq (find_vc x Q) (have hp := Eq.mp (find_pre.eq_1 x) hp; have hq := Eq.mp (congrArg Q (find.eq_1 x)) hq;
 (And.intro hp.1 (let_k (Q := Q) hp.2 hq fun y hp hq => (And.intro hp.1 (let_k (Q := Q) hp.2 hq fun y_1 hp hq => (And.intro trivial (let_k (Q := Q) hp hq fun y_2 hp hq => (And.intro trivial (let_k (Q := Q) hp hq fun y_3 hp hq => (cB_d (Q := Q) hq (fun c hq => have hp := (hp.1 c); (And.intro hp (let_0 (Q := Q) hq fun y_4 hq => hq))) (fun c hq => have hp := (hp.2 c); (cB_b (Q := Q) hq (fun c hq => have hp := (hp.1 c); (And.intro hp (let_0 (Q := Q) hq fun y_4 hq => hq))) (fun c hq => have hp := (hp.2 c); (cB_d (Q := Q) hq (fun c hq => have hp := (hp.1 c); (And.intro hp (let_0 (Q := Q) hq fun y_4 hq => hq))) (fun c hq => have hp := (hp.2 c); (And.intro hp.1 (let_k (Q := Q) hp.2 hq fun y_4 hp hq => (And.intro hp.1 (let_k (Q := Q) hp.2 hq fun y_5 hp hq => (And.intro hp (let_0 (Q := Q) hq fun y_6 hq => hq)))))))))))))))))))))
noncomputable def find_S : FnS := ⟨(.pair (.agg (Ty.prod (Ty.int IntKind.i64) (Ty.int IntKind.i64))) (.pair (.agg (Ty.prod (Ty.int IntKind.i64) (Ty.int IntKind.i64))) (.agg (Ty.prod (Ty.int IntKind.i64) (Ty.int IntKind.i64))))), (.agg (Ty.prod (Ty.prod (Ty.int IntKind.i64) (Ty.int IntKind.i64)) (Ty.prod (Ty.int IntKind.i64) (Ty.prod (Ty.int IntKind.i64) (Ty.int IntKind.i64))))), find_pre, find⟩
theorem find_ok : SpecOk Try.prog 22 (fnSpec find_S) := SpecOk.fnT' (fn := Try.f22) tt_ok sp_nend_ok mixed (by kernel_rfl) (by kernel_rfl) (.pair (.agg (Ty.prod (Ty.int IntKind.i64) (Ty.int IntKind.i64))) (.pair (.agg (Ty.prod (Ty.int IntKind.i64) (Ty.int IntKind.i64))) (.agg (Ty.prod (Ty.int IntKind.i64) (Ty.int IntKind.i64))))) (.agg (Ty.prod (Ty.prod (Ty.int IntKind.i64) (Ty.int IntKind.i64)) (Ty.prod (Ty.int IntKind.i64) (Ty.prod (Ty.int IntKind.i64) (Ty.int IntKind.i64))))) find_pre find (by kernel_rfl) fun x hp => ⟨_, _, (ItsOk.nil _ _), LpsOk.nil, find_fn x (fun y => y = find x) hp rfl⟩
def sp_find : List (Nat × Ev.Spec) := (22, fnSpec find_S) :: sp_nend
theorem sp_find_ok : SpecsOk Try.prog sp_find := SpecsOk.cons (Enters.of (fn := Try.f22) (by kernel_rfl) (by kernel_rfl) (by kernel_rfl)) find_ok sp_nend_ok
noncomputable def fright (x : (Int × Int)) : Bool :=
 (if (x.2 ≥ (1 : Int)) then
 (if (x.2 ≤ (1000000000000000000 : Int)) then
 (if (x.1 ≥ (-1000000000000000000 : Int)) then
 (decide (x.1 ≤ (1000000000000000000 : Int))) else
 false) else
 false) else
 false)
noncomputable def fright_pre (_ : (Int × Int)) : Prop := True
theorem fright_vc (x : (Int × Int)) (Q : Bool → Prop) : fnE ⟨tt, sp_find, noX, [], [], []⟩ Try.f43 (argsE (.agg (Ty.prod (Ty.int IntKind.i64) (Ty.int IntKind.i64))) x) (heapE (.agg (Ty.prod (Ty.int IntKind.i64) (Ty.int IntKind.i64))) x) (retE (.one Ty.bool) Q) =
 (cB (decide (x.2 ≥ (1 : Int)))
 (cB (decide (x.2 ≤ (1000000000000000000 : Int)))
 (cB (decide (x.1 ≥ (-1000000000000000000 : Int)))
 (Q (decide (x.1 ≤ (1000000000000000000 : Int))))
 (Q false))
 (Q false))
 (Q false)) := by kernel_rfl
theorem fright_fn (x : (Int × Int)) (Q : Bool → Prop) (hp : fright_pre x) (hq : Q (fright x)) : Vc (fnE ⟨tt, sp_find, noX, [], [], []⟩ Try.f43 (argsE (.agg (Ty.prod (Ty.int IntKind.i64) (Ty.int IntKind.i64))) x) (heapE (.agg (Ty.prod (Ty.int IntKind.i64) (Ty.int IntKind.i64))) x) (retE (.one Ty.bool) Q)) := .eq (fright_vc x Q) (have hp := Eq.mp (fright_pre.eq_1 x) hp; have hq := Eq.mp (congrArg Q (fright.eq_1 x)) hq;
 (cB_d (Q := Q) hq (fun c hq => (cB_d (Q := Q) hq (fun c hq => (cB_d (Q := Q) hq (fun c hq => hq) (fun c hq => hq))) (fun c hq => hq))) (fun c hq => hq)))
noncomputable def fright_S : FnS := ⟨(.agg (Ty.prod (Ty.int IntKind.i64) (Ty.int IntKind.i64))), (.one Ty.bool), fright_pre, fright⟩
theorem fright_ok : SpecOk Try.prog 43 (fnSpec fright_S) := SpecOk.fnT' (fn := Try.f43) tt_ok sp_find_ok mixed (by kernel_rfl) (by kernel_rfl) (.agg (Ty.prod (Ty.int IntKind.i64) (Ty.int IntKind.i64))) (.one Ty.bool) fright_pre fright (by kernel_rfl) fun x hp => ⟨_, _, (ItsOk.nil _ _), LpsOk.nil, fright_fn x (fun y => y = fright x) hp rfl⟩
def sp_fright : List (Nat × Ev.Spec) := (43, fnSpec fright_S) :: sp_find
theorem sp_fright_ok : SpecsOk Try.prog sp_fright := SpecsOk.cons (Enters.of (fn := Try.f43) (by kernel_rfl) (by kernel_rfl) (by kernel_rfl)) fright_ok sp_find_ok
noncomputable def fto (x : ((Int × Int) × (Int × Int))) : Int :=
 (letV (fright x.1) fun y =>
 (letV (fright x.2) fun y_1 =>
 (if (y = true) then
 (if (y_1 = true) then
 (letV (wmul (x.1.1, x.2.2)) fun y_2 =>
 (letV (wmul (x.2.1, x.1.2)) fun y_3 =>
 (letV (wcmp (y_2.1, y_3.1)) fun y_4 =>
 y_4))) else
 (if (y_1 = true) then
 (-1 : Int) else
 (if (y = true) then
 (1 : Int) else
 (letV (compare (x.1.1, x.2.1)) fun y_2 =>
 (letV (compare (x.1.2, x.2.2)) fun y_3 =>
 (letV (cor [y_2, y_3]) fun y_4 =>
 y_4)))))) else
 (if (y_1 = true) then
 (-1 : Int) else
 (if (y = true) then
 (1 : Int) else
 (letV (compare (x.1.1, x.2.1)) fun y_2 =>
 (letV (compare (x.1.2, x.2.2)) fun y_3 =>
 (letV (cor [y_2, y_3]) fun y_4 =>
 y_4))))))))
noncomputable def fto_pre (x : ((Int × Int) × (Int × Int))) : Prop :=
 (letP (fright x.1) fun y =>
 (letP (fright x.2) fun y_1 =>
 (((y = true) →
 (((y_1 = true) →
 (letP (wmul (x.1.1, x.2.2)) fun y_2 =>
 (letP (wmul (x.2.1, x.1.2)) fun y_3 =>
 (wcmp_pre (y_2.1, y_3.1))))) ∧
 (¬ (y_1 = true) →
 (¬ (y_1 = true) →
 (¬ (y = true) →
 (letP (compare (x.1.1, x.2.1)) fun y_2 =>
 (letP (compare (x.1.2, x.2.2)) fun y_3 =>
 (cor_pre [y_2, y_3])))))))) ∧
 (¬ (y = true) →
 (¬ (y_1 = true) →
 (¬ (y = true) →
 (letP (compare (x.1.1, x.2.1)) fun y_2 =>
 (letP (compare (x.1.2, x.2.2)) fun y_3 =>
 (cor_pre [y_2, y_3])))))))))
theorem fto_vc (x : ((Int × Int) × (Int × Int))) (Q : Int → Prop) : fnE ⟨tt, sp_fright, noX, [], [], []⟩ Try.f26 (argsE (.pair (.agg (Ty.prod (Ty.int IntKind.i64) (Ty.int IntKind.i64))) (.agg (Ty.prod (Ty.int IntKind.i64) (Ty.int IntKind.i64)))) x) (heapE (.pair (.agg (Ty.prod (Ty.int IntKind.i64) (Ty.int IntKind.i64))) (.agg (Ty.prod (Ty.int IntKind.i64) (Ty.int IntKind.i64)))) x) (retE (.one (Ty.int IntKind.i64)) Q) =
 ((fright_pre x.1) ∧ ∀ y : Bool, y = (fright x.1) →
 ((fright_pre x.2) ∧ ∀ y_1 : Bool, y_1 = (fright x.2) →
 (cB y
 (cB y_1
 ((wmul_pre (x.1.1, x.2.2)) ∧ ∀ y_2 : ((Int × Int) × Int), y_2 = (wmul (x.1.1, x.2.2)) →
 ((wmul_pre (x.2.1, x.1.2)) ∧ ∀ y_3 : ((Int × Int) × Int), y_3 = (wmul (x.2.1, x.1.2)) →
 ((wcmp_pre (y_2.1, y_3.1)) ∧ ∀ y_4 : Int, y_4 = (wcmp (y_2.1, y_3.1)) →
 (Q y_4))))
 (cB y_1
 (Q (-1 : Int))
 (cB y
 (Q (1 : Int))
 ((compare_pre (x.1.1, x.2.1)) ∧ ∀ y_2 : Int, y_2 = (compare (x.1.1, x.2.1)) →
 ((compare_pre (x.1.2, x.2.2)) ∧ ∀ y_3 : Int, y_3 = (compare (x.1.2, x.2.2)) →
 ((cor_pre [y_2, y_3]) ∧ ∀ y_4 : Int, y_4 = (cor [y_2, y_3]) →
 (Q y_4)))))))
 (cB y_1
 (Q (-1 : Int))
 (cB y
 (Q (1 : Int))
 ((compare_pre (x.1.1, x.2.1)) ∧ ∀ y_2 : Int, y_2 = (compare (x.1.1, x.2.1)) →
 ((compare_pre (x.1.2, x.2.2)) ∧ ∀ y_3 : Int, y_3 = (compare (x.1.2, x.2.2)) →
 ((cor_pre [y_2, y_3]) ∧ ∀ y_4 : Int, y_4 = (cor [y_2, y_3]) →
 (Q y_4))))))))) := by kernel_rfl
theorem fto_fn (x : ((Int × Int) × (Int × Int))) (Q : Int → Prop) (hp : fto_pre x) (hq : Q (fto x)) : Vc (fnE ⟨tt, sp_fright, noX, [], [], []⟩ Try.f26 (argsE (.pair (.agg (Ty.prod (Ty.int IntKind.i64) (Ty.int IntKind.i64))) (.agg (Ty.prod (Ty.int IntKind.i64) (Ty.int IntKind.i64)))) x) (heapE (.pair (.agg (Ty.prod (Ty.int IntKind.i64) (Ty.int IntKind.i64))) (.agg (Ty.prod (Ty.int IntKind.i64) (Ty.int IntKind.i64)))) x) (retE (.one (Ty.int IntKind.i64)) Q)) := .eq (fto_vc x Q) (have hp := Eq.mp (fto_pre.eq_1 x) hp; have hq := Eq.mp (congrArg Q (fto.eq_1 x)) hq;
 (And.intro trivial (let_k (Q := Q) hp hq fun y hp hq => (And.intro trivial (let_k (Q := Q) hp hq fun y_1 hp hq => (cB_b (Q := Q) hq (fun c hq => have hp := (hp.1 c); (cB_b (Q := Q) hq (fun c hq => have hp := (hp.1 c); (And.intro trivial (let_k (Q := Q) hp hq fun y_2 hp hq => (And.intro trivial (let_k (Q := Q) hp hq fun y_3 hp hq => (And.intro hp (let_0 (Q := Q) hq fun y_4 hq => hq))))))) (fun c hq => have hp := (hp.2 c); (cB_b (Q := Q) hq (fun c hq => hq) (fun c hq => have hp := (hp c); (cB_b (Q := Q) hq (fun c hq => hq) (fun c hq => have hp := (hp c); (And.intro trivial (let_k (Q := Q) hp hq fun y_2 hp hq => (And.intro trivial (let_k (Q := Q) hp hq fun y_3 hp hq => (And.intro hp (let_0 (Q := Q) hq fun y_4 hq => hq))))))))))))) (fun c hq => have hp := (hp.2 c); (cB_b (Q := Q) hq (fun c hq => hq) (fun c hq => have hp := (hp c); (cB_b (Q := Q) hq (fun c hq => hq) (fun c hq => have hp := (hp c); (And.intro trivial (let_k (Q := Q) hp hq fun y_2 hp hq => (And.intro trivial (let_k (Q := Q) hp hq fun y_3 hp hq => (And.intro hp (let_0 (Q := Q) hq fun y_4 hq => hq)))))))))))))))))
noncomputable def fto_S : FnS := ⟨(.pair (.agg (Ty.prod (Ty.int IntKind.i64) (Ty.int IntKind.i64))) (.agg (Ty.prod (Ty.int IntKind.i64) (Ty.int IntKind.i64)))), (.one (Ty.int IntKind.i64)), fto_pre, fto⟩
theorem fto_ok : SpecOk Try.prog 26 (fnSpec fto_S) := SpecOk.fnT' (fn := Try.f26) tt_ok sp_fright_ok mixed (by kernel_rfl) (by kernel_rfl) (.pair (.agg (Ty.prod (Ty.int IntKind.i64) (Ty.int IntKind.i64))) (.agg (Ty.prod (Ty.int IntKind.i64) (Ty.int IntKind.i64)))) (.one (Ty.int IntKind.i64)) fto_pre fto (by kernel_rfl) fun x hp => ⟨_, _, (ItsOk.nil _ _), LpsOk.nil, fto_fn x (fun y => y = fto x) hp rfl⟩
def sp_fto : List (Nat × Ev.Spec) := (26, fnSpec fto_S) :: sp_fright
theorem sp_fto_ok : SpecsOk Try.prog sp_fto := SpecsOk.cons (Enters.of (fn := Try.f26) (by kernel_rfl) (by kernel_rfl) (by kernel_rfl)) fto_ok sp_fright_ok
noncomputable def fcmp (x : ((Int × Int) × (Int × Int))) : Int :=
 (letV (fto x) fun y =>
 y)
noncomputable def fcmp_pre (x : ((Int × Int) × (Int × Int))) : Prop :=
 (fto_pre x)
theorem fcmp_vc (x : ((Int × Int) × (Int × Int))) (Q : Int → Prop) : fnE ⟨tt, sp_fto, noX, [], [], []⟩ Try.f12 (argsE (.pair (.agg (Ty.prod (Ty.int IntKind.i64) (Ty.int IntKind.i64))) (.agg (Ty.prod (Ty.int IntKind.i64) (Ty.int IntKind.i64)))) x) (heapE (.pair (.agg (Ty.prod (Ty.int IntKind.i64) (Ty.int IntKind.i64))) (.agg (Ty.prod (Ty.int IntKind.i64) (Ty.int IntKind.i64)))) x) (retE (.one (Ty.int IntKind.i64)) Q) =
 ((fto_pre x) ∧ ∀ y : Int, y = (fto x) →
 (Q y)) := by kernel_rfl
theorem fcmp_fn (x : ((Int × Int) × (Int × Int))) (Q : Int → Prop) (hp : fcmp_pre x) (hq : Q (fcmp x)) : Vc (fnE ⟨tt, sp_fto, noX, [], [], []⟩ Try.f12 (argsE (.pair (.agg (Ty.prod (Ty.int IntKind.i64) (Ty.int IntKind.i64))) (.agg (Ty.prod (Ty.int IntKind.i64) (Ty.int IntKind.i64)))) x) (heapE (.pair (.agg (Ty.prod (Ty.int IntKind.i64) (Ty.int IntKind.i64))) (.agg (Ty.prod (Ty.int IntKind.i64) (Ty.int IntKind.i64)))) x) (retE (.one (Ty.int IntKind.i64)) Q)) := .eq (fcmp_vc x Q) (have hp := Eq.mp (fcmp_pre.eq_1 x) hp; have hq := Eq.mp (congrArg Q (fcmp.eq_1 x)) hq;
 (And.intro hp (let_0 (Q := Q) hq fun y hq => hq)))
noncomputable def fcmp_S : FnS := ⟨(.pair (.agg (Ty.prod (Ty.int IntKind.i64) (Ty.int IntKind.i64))) (.agg (Ty.prod (Ty.int IntKind.i64) (Ty.int IntKind.i64)))), (.one (Ty.int IntKind.i64)), fcmp_pre, fcmp⟩
theorem fcmp_ok : SpecOk Try.prog 12 (fnSpec fcmp_S) := SpecOk.fnT' (fn := Try.f12) tt_ok sp_fto_ok mixed (by kernel_rfl) (by kernel_rfl) (.pair (.agg (Ty.prod (Ty.int IntKind.i64) (Ty.int IntKind.i64))) (.agg (Ty.prod (Ty.int IntKind.i64) (Ty.int IntKind.i64)))) (.one (Ty.int IntKind.i64)) fcmp_pre fcmp (by kernel_rfl) fun x hp => ⟨_, _, (ItsOk.nil _ _), LpsOk.nil, fcmp_fn x (fun y => y = fcmp x) hp rfl⟩
def sp_fcmp : List (Nat × Ev.Spec) := (12, fnSpec fcmp_S) :: sp_fto
theorem sp_fcmp_ok : SpecsOk Try.prog sp_fcmp := SpecsOk.cons (Enters.of (fn := Try.f12) (by kernel_rfl) (by kernel_rfl) (by kernel_rfl)) fcmp_ok sp_fto_ok
noncomputable def nedge (x : ((Int × Int) × ((Int × Int) × (Int × Int)))) : ((Int × Int) × (Int × ((Int × Int) × Int))) :=
 (letV (small2 [x.1, x.2.1, x.2.2]) fun y =>
 (if ((!y) = true) then
 (((0 : Int), (0 : Int)), ((0 : Int), (((0 : Int), (0 : Int)), (5 : Int)))) else
 (letV (find x) fun y_1 =>
 (letV (ends y_1) fun y_2 =>
 (y_2.1, (y_2.2.1, (y_2.2.2, (0 : Int))))))))
noncomputable def nedge_pre (x : ((Int × Int) × ((Int × Int) × (Int × Int)))) : Prop :=
 ((small2_pre [x.1, x.2.1, x.2.2]) ∧
 letP (small2 [x.1, x.2.1, x.2.2]) fun y =>
 (¬ ((!y) = true) →
 (find_pre x)))
theorem nedge_vc (x : ((Int × Int) × ((Int × Int) × (Int × Int)))) (Q : ((Int × Int) × (Int × ((Int × Int) × Int))) → Prop) : fnE ⟨tt, sp_fcmp, noX, [], [], []⟩ Try.f15 (argsE (.pair (.agg (Ty.prod (Ty.int IntKind.i64) (Ty.int IntKind.i64))) (.pair (.agg (Ty.prod (Ty.int IntKind.i64) (Ty.int IntKind.i64))) (.agg (Ty.prod (Ty.int IntKind.i64) (Ty.int IntKind.i64))))) x) (heapE (.pair (.agg (Ty.prod (Ty.int IntKind.i64) (Ty.int IntKind.i64))) (.pair (.agg (Ty.prod (Ty.int IntKind.i64) (Ty.int IntKind.i64))) (.agg (Ty.prod (Ty.int IntKind.i64) (Ty.int IntKind.i64))))) x) (retE (.pair (.agg (Ty.prod (Ty.int IntKind.i64) (Ty.int IntKind.i64))) (.pair (.one (Ty.int IntKind.i64)) (.pair (.agg (Ty.prod (Ty.int IntKind.i64) (Ty.int IntKind.i64))) (.one (Ty.int IntKind.i64))))) Q) =
 ((small2_pre [x.1, x.2.1, x.2.2]) ∧ ∀ y : Bool, y = (small2 [x.1, x.2.1, x.2.2]) →
 (cB (!y)
 (Q (((0 : Int), (0 : Int)), ((0 : Int), (((0 : Int), (0 : Int)), (5 : Int)))))
 ((find_pre x) ∧ ∀ y_1 : ((Int × Int) × (Int × (Int × Int))), y_1 = (find x) →
 ((ends_pre y_1) ∧ ∀ y_2 : ((Int × Int) × (Int × (Int × Int))), y_2 = (ends y_1) →
 (Q (y_2.1, (y_2.2.1, (y_2.2.2, (0 : Int))))))))) := by kernel_rfl
theorem nedge_fn (x : ((Int × Int) × ((Int × Int) × (Int × Int)))) (Q : ((Int × Int) × (Int × ((Int × Int) × Int))) → Prop) (hp : nedge_pre x) (hq : Q (nedge x)) : Vc (fnE ⟨tt, sp_fcmp, noX, [], [], []⟩ Try.f15 (argsE (.pair (.agg (Ty.prod (Ty.int IntKind.i64) (Ty.int IntKind.i64))) (.pair (.agg (Ty.prod (Ty.int IntKind.i64) (Ty.int IntKind.i64))) (.agg (Ty.prod (Ty.int IntKind.i64) (Ty.int IntKind.i64))))) x) (heapE (.pair (.agg (Ty.prod (Ty.int IntKind.i64) (Ty.int IntKind.i64))) (.pair (.agg (Ty.prod (Ty.int IntKind.i64) (Ty.int IntKind.i64))) (.agg (Ty.prod (Ty.int IntKind.i64) (Ty.int IntKind.i64))))) x) (retE (.pair (.agg (Ty.prod (Ty.int IntKind.i64) (Ty.int IntKind.i64))) (.pair (.one (Ty.int IntKind.i64)) (.pair (.agg (Ty.prod (Ty.int IntKind.i64) (Ty.int IntKind.i64))) (.one (Ty.int IntKind.i64))))) Q)) := .eq (nedge_vc x Q) (have hp := Eq.mp (nedge_pre.eq_1 x) hp; have hq := Eq.mp (congrArg Q (nedge.eq_1 x)) hq;
 (And.intro hp.1 (let_k (Q := Q) hp.2 hq fun y hp hq => (cB_b (Q := Q) hq (fun c hq => hq) (fun c hq => have hp := (hp c); (And.intro hp (let_0 (Q := Q) hq fun y_1 hq => (And.intro trivial (let_0 (Q := Q) hq fun y_2 hq => hq)))))))))
noncomputable def nedge_S : FnS := ⟨(.pair (.agg (Ty.prod (Ty.int IntKind.i64) (Ty.int IntKind.i64))) (.pair (.agg (Ty.prod (Ty.int IntKind.i64) (Ty.int IntKind.i64))) (.agg (Ty.prod (Ty.int IntKind.i64) (Ty.int IntKind.i64))))), (.pair (.agg (Ty.prod (Ty.int IntKind.i64) (Ty.int IntKind.i64))) (.pair (.one (Ty.int IntKind.i64)) (.pair (.agg (Ty.prod (Ty.int IntKind.i64) (Ty.int IntKind.i64))) (.one (Ty.int IntKind.i64))))), nedge_pre, nedge⟩
theorem nedge_ok : SpecOk Try.prog 15 (fnSpec nedge_S) := SpecOk.fnT' (fn := Try.f15) tt_ok sp_fcmp_ok mixed (by kernel_rfl) (by kernel_rfl) (.pair (.agg (Ty.prod (Ty.int IntKind.i64) (Ty.int IntKind.i64))) (.pair (.agg (Ty.prod (Ty.int IntKind.i64) (Ty.int IntKind.i64))) (.agg (Ty.prod (Ty.int IntKind.i64) (Ty.int IntKind.i64))))) (.pair (.agg (Ty.prod (Ty.int IntKind.i64) (Ty.int IntKind.i64))) (.pair (.one (Ty.int IntKind.i64)) (.pair (.agg (Ty.prod (Ty.int IntKind.i64) (Ty.int IntKind.i64))) (.one (Ty.int IntKind.i64))))) nedge_pre nedge (by kernel_rfl) fun x hp => ⟨_, _, (ItsOk.nil _ _), LpsOk.nil, nedge_fn x (fun y => y = nedge x) hp rfl⟩
def sp_nedge : List (Nat × Ev.Spec) := (15, fnSpec nedge_S) :: sp_fcmp
theorem sp_nedge_ok : SpecsOk Try.prog sp_nedge := SpecsOk.cons (Enters.of (fn := Try.f15) (by kernel_rfl) (by kernel_rfl) (by kernel_rfl)) nedge_ok sp_fcmp_ok
noncomputable def mside (x : ((Int × Int) × ((Int × Int) × ((Int × Int) × Int)))) : Int :=
 (letV (sside (x.2.1, (x.2.2.1, x.1))) fun y =>
 (w64 (x.2.2.2 * y.1)))
noncomputable def mside_pre (x : ((Int × Int) × ((Int × Int) × ((Int × Int) × Int)))) : Prop :=
 (sside_pre (x.2.1, (x.2.2.1, x.1)))
theorem mside_vc (x : ((Int × Int) × ((Int × Int) × ((Int × Int) × Int)))) (Q : Int → Prop) : fnE ⟨tt, sp_nedge, noX, [], [], []⟩ Try.f49 (argsE (.pair (.agg (Ty.prod (Ty.int IntKind.i64) (Ty.int IntKind.i64))) (.pair (.ptr (.prod (.int .i64) (.int .i64))) (.pair (.ptr (.prod (.int .i64) (.int .i64))) (.ptr (.int .i64))))) x) (heapE (.pair (.agg (Ty.prod (Ty.int IntKind.i64) (Ty.int IntKind.i64))) (.pair (.ptr (.prod (.int .i64) (.int .i64))) (.pair (.ptr (.prod (.int .i64) (.int .i64))) (.ptr (.int .i64))))) x) (retE (.one (Ty.int IntKind.i64)) Q) =
 ((sside_pre (x.2.1, (x.2.2.1, x.1))) ∧ ∀ y : (Int × Int), y = (sside (x.2.1, (x.2.2.1, x.1))) →
 (Q (w64 (x.2.2.2 * y.1)))) := by kernel_rfl
theorem mside_fn (x : ((Int × Int) × ((Int × Int) × ((Int × Int) × Int)))) (Q : Int → Prop) (hp : mside_pre x) (hq : Q (mside x)) : Vc (fnE ⟨tt, sp_nedge, noX, [], [], []⟩ Try.f49 (argsE (.pair (.agg (Ty.prod (Ty.int IntKind.i64) (Ty.int IntKind.i64))) (.pair (.ptr (.prod (.int .i64) (.int .i64))) (.pair (.ptr (.prod (.int .i64) (.int .i64))) (.ptr (.int .i64))))) x) (heapE (.pair (.agg (Ty.prod (Ty.int IntKind.i64) (Ty.int IntKind.i64))) (.pair (.ptr (.prod (.int .i64) (.int .i64))) (.pair (.ptr (.prod (.int .i64) (.int .i64))) (.ptr (.int .i64))))) x) (retE (.one (Ty.int IntKind.i64)) Q)) := .eq (mside_vc x Q) (have hp := Eq.mp (mside_pre.eq_1 x) hp; have hq := Eq.mp (congrArg Q (mside.eq_1 x)) hq;
 (And.intro hp (let_0 (Q := Q) hq fun y hq => hq)))
noncomputable def mside_S : FnS := ⟨(.pair (.agg (Ty.prod (Ty.int IntKind.i64) (Ty.int IntKind.i64))) (.pair (.ptr (.prod (.int .i64) (.int .i64))) (.pair (.ptr (.prod (.int .i64) (.int .i64))) (.ptr (.int .i64))))), (.one (Ty.int IntKind.i64)), mside_pre, mside⟩
theorem mside_ok : SpecOk Try.prog 49 (fnSpec mside_S) := SpecOk.fnT' (fn := Try.f49) tt_ok sp_nedge_ok mixed (by kernel_rfl) (by kernel_rfl) (.pair (.agg (Ty.prod (Ty.int IntKind.i64) (Ty.int IntKind.i64))) (.pair (.ptr (.prod (.int .i64) (.int .i64))) (.pair (.ptr (.prod (.int .i64) (.int .i64))) (.ptr (.int .i64))))) (.one (Ty.int IntKind.i64)) mside_pre mside (by kernel_rfl) fun x hp => ⟨_, _, (ItsOk.nil _ _), LpsOk.nil, mside_fn x (fun y => y = mside x) hp rfl⟩
def sp_mside : List (Nat × Ev.Spec) := (49, fnSpec mside_S) :: sp_nedge
theorem sp_mside_ok : SpecsOk Try.prog sp_mside := SpecsOk.cons (Enters.of (fn := Try.f49) (by kernel_rfl) (by kernel_rfl) (by kernel_rfl)) mside_ok sp_nedge_ok
noncomputable def mIn (x : ((Int × Int) × ((Int × Int) × ((Int × Int) × (Int × Int))))) : (Int × Int) :=
 (letV (small2 [x.1]) fun y =>
 (if ((!y) = true) then
 ((0 : Int), (5 : Int)) else
 (letV (mright x.2) fun y_1 =>
 (if ((!y_1) = true) then
 ((0 : Int), (1 : Int)) else
 (letV (sside x.2) fun y_2 =>
 (letV (mside (x.1, (x.2.1, (x.2.2.1, y_2.1)))) fun y_3 =>
 (letV (mside (x.1, (x.2.2.1, (x.2.2.2, y_2.1)))) fun y_4 =>
 (letV (mside (x.1, (x.2.2.2, (x.2.1, y_2.1)))) fun y_5 =>
 ((w64 ((minI (minI (minI (1 : Int) y_3) y_4) y_5) + (1 : Int))), (0 : Int))))))))))
noncomputable def mIn_pre (x : ((Int × Int) × ((Int × Int) × ((Int × Int) × (Int × Int))))) : Prop :=
 ((small2_pre [x.1]) ∧
 letP (small2 [x.1]) fun y =>
 (¬ ((!y) = true) →
 ((mright_pre x.2) ∧
 letP (mright x.2) fun y_1 =>
 (¬ ((!y_1) = true) →
 ((sside_pre x.2) ∧
 letP (sside x.2) fun y_2 =>
 ((mside_pre (x.1, (x.2.1, (x.2.2.1, y_2.1)))) ∧
 letP (mside (x.1, (x.2.1, (x.2.2.1, y_2.1)))) fun y_3 =>
 ((mside_pre (x.1, (x.2.2.1, (x.2.2.2, y_2.1)))) ∧
 letP (mside (x.1, (x.2.2.1, (x.2.2.2, y_2.1)))) fun y_4 =>
 (mside_pre (x.1, (x.2.2.2, (x.2.1, y_2.1)))))))))))
theorem mIn_vc (x : ((Int × Int) × ((Int × Int) × ((Int × Int) × (Int × Int))))) (Q : (Int × Int) → Prop) : fnE ⟨tt, sp_mside, noX, [], [], ((48, itFn tt sp_mside noX (fun ys => [(0, unrolled tt sp_mside noX [] ys [(27, itFn tt sp_mside noX (fun ys => []) [] Try.f27)] 0 (cI (blk 0 (bodyOf Try.f48))) 4)]) [(27, itFn tt sp_mside noX (fun ys => []) [] Try.f27)] Try.f48) :: [(27, itFn tt sp_mside noX (fun ys => []) [] Try.f27)])⟩ Try.f14 (argsE (.pair (.agg (Ty.prod (Ty.int IntKind.i64) (Ty.int IntKind.i64))) (.agg (Ty.prod (Ty.prod (Ty.int IntKind.i64) (Ty.int IntKind.i64)) (Ty.prod (Ty.prod (Ty.int IntKind.i64) (Ty.int IntKind.i64)) (Ty.prod (Ty.int IntKind.i64) (Ty.int IntKind.i64)))))) x) (heapE (.pair (.agg (Ty.prod (Ty.int IntKind.i64) (Ty.int IntKind.i64))) (.agg (Ty.prod (Ty.prod (Ty.int IntKind.i64) (Ty.int IntKind.i64)) (Ty.prod (Ty.prod (Ty.int IntKind.i64) (Ty.int IntKind.i64)) (Ty.prod (Ty.int IntKind.i64) (Ty.int IntKind.i64)))))) x) (retE (.pair (.one (Ty.int IntKind.i64)) (.one (Ty.int IntKind.i64))) Q) =
 ((small2_pre [x.1]) ∧ ∀ y : Bool, y = (small2 [x.1]) →
 (cB (!y)
 (Q ((0 : Int), (5 : Int)))
 ((mright_pre x.2) ∧ ∀ y_1 : Bool, y_1 = (mright x.2) →
 (cB (!y_1)
 (Q ((0 : Int), (1 : Int)))
 (∀ ρ1 : Env,
 ((ρ1 = ρ1) ∧
 ((4 = 4) ∧
 (∀ r : Loop,
 (∀ ρ0 : Env,
 ((sside_pre x.2) ∧ ∀ y_2 : (Int × Int), y_2 = (sside x.2) →
 ((noX = noX) ∧
 ((ρ0 = ρ0) ∧
 ((7 = 7) ∧
 ((r = r) ∧
 (∀ ρ1_1 : Env,
 ((ρ1_1 = ρ1_1) ∧
 ((11 = 11) ∧
 ((r = r) ∧
 ((mside_pre (x.1, (x.2.1, (x.2.2.1, y_2.1)))) ∧ ∀ y_3 : Int, y_3 = (mside (x.1, (x.2.1, (x.2.2.1, y_2.1)))) →
 ((r = r) ∧
 ((ρ1_1 = ρ1_1) ∧
 ((11 = 11) ∧
 ((noX = noX) ∧
 ((ρ0 = ρ0) ∧
 ((7 = 7) ∧
 ((r = r) ∧
 (∀ ρ1_2 : Env,
 ((ρ1_2 = ρ1_2) ∧
 ((14 = 14) ∧
 ((r = r) ∧
 ((mside_pre (x.1, (x.2.2.1, (x.2.2.2, y_2.1)))) ∧ ∀ y_4 : Int, y_4 = (mside (x.1, (x.2.2.1, (x.2.2.2, y_2.1)))) →
 ((r = r) ∧
 ((ρ1_2 = ρ1_2) ∧
 ((14 = 14) ∧
 ((noX = noX) ∧
 ((ρ0 = ρ0) ∧
 ((7 = 7) ∧
 ((r = r) ∧
 (∀ ρ1_3 : Env,
 ((ρ1_3 = ρ1_3) ∧
 ((17 = 17) ∧
 ((r = r) ∧
 ((mside_pre (x.1, (x.2.2.2, (x.2.1, y_2.1)))) ∧ ∀ y_5 : Int, y_5 = (mside (x.1, (x.2.2.2, (x.2.1, y_2.1)))) →
 ((r = r) ∧
 ((ρ1_3 = ρ1_3) ∧
 ((17 = 17) ∧
 ((ρ0 = ρ0) ∧
 ((7 = 7) ∧
 (Q ((w64 ((minI (minI (minI (1 : Int) y_3) y_4) y_5) + (1 : Int))), (0 : Int))))))))))))))))))))))))))))))))))))))))))))))))))) := by kernel_rfl
theorem mIn_fn (x : ((Int × Int) × ((Int × Int) × ((Int × Int) × (Int × Int))))) (Q : (Int × Int) → Prop) (hp : mIn_pre x) (hq : Q (mIn x)) : Vc (fnE ⟨tt, sp_mside, noX, [], [], ((48, itFn tt sp_mside noX (fun ys => [(0, unrolled tt sp_mside noX [] ys [(27, itFn tt sp_mside noX (fun ys => []) [] Try.f27)] 0 (cI (blk 0 (bodyOf Try.f48))) 4)]) [(27, itFn tt sp_mside noX (fun ys => []) [] Try.f27)] Try.f48) :: [(27, itFn tt sp_mside noX (fun ys => []) [] Try.f27)])⟩ Try.f14 (argsE (.pair (.agg (Ty.prod (Ty.int IntKind.i64) (Ty.int IntKind.i64))) (.agg (Ty.prod (Ty.prod (Ty.int IntKind.i64) (Ty.int IntKind.i64)) (Ty.prod (Ty.prod (Ty.int IntKind.i64) (Ty.int IntKind.i64)) (Ty.prod (Ty.int IntKind.i64) (Ty.int IntKind.i64)))))) x) (heapE (.pair (.agg (Ty.prod (Ty.int IntKind.i64) (Ty.int IntKind.i64))) (.agg (Ty.prod (Ty.prod (Ty.int IntKind.i64) (Ty.int IntKind.i64)) (Ty.prod (Ty.prod (Ty.int IntKind.i64) (Ty.int IntKind.i64)) (Ty.prod (Ty.int IntKind.i64) (Ty.int IntKind.i64)))))) x) (retE (.pair (.one (Ty.int IntKind.i64)) (.one (Ty.int IntKind.i64))) Q)) := .eq (mIn_vc x Q) (have hp := Eq.mp (mIn_pre.eq_1 x) hp; have hq := Eq.mp (congrArg Q (mIn.eq_1 x)) hq;
 (And.intro hp.1 (let_k (Q := Q) hp.2 hq fun y hp hq => (cB_b (Q := Q) hq (fun c hq => hq) (fun c hq => have hp := (hp c); (And.intro hp.1 (let_k (Q := Q) hp.2 hq fun y_1 hp hq => (cB_b (Q := Q) hq (fun c hq => hq) (fun c hq => have hp := (hp c); (fun ρ1 => (And.intro rfl (And.intro rfl (fun r => (fun ρ0 => (And.intro hp.1 (let_k (Q := Q) hp.2 hq fun y_2 hp hq => (And.intro rfl (And.intro rfl (And.intro rfl (And.intro rfl (fun ρ1_1 => (And.intro rfl (And.intro rfl (And.intro rfl (And.intro hp.1 (let_k (Q := Q) hp.2 hq fun y_3 hp hq => (And.intro rfl (And.intro rfl (And.intro rfl (And.intro rfl (And.intro rfl (And.intro rfl (And.intro rfl (fun ρ1_2 => (And.intro rfl (And.intro rfl (And.intro rfl (And.intro hp.1 (let_k (Q := Q) hp.2 hq fun y_4 hp hq => (And.intro rfl (And.intro rfl (And.intro rfl (And.intro rfl (And.intro rfl (And.intro rfl (And.intro rfl (fun ρ1_3 => (And.intro rfl (And.intro rfl (And.intro rfl (And.intro hp (let_0 (Q := Q) hq fun y_5 hq => (And.intro rfl (And.intro rfl (And.intro rfl (And.intro rfl (And.intro rfl hq)))))))))))))))))))))))))))))))))))))))))))))))))))))))))
noncomputable def mIn_S : FnS := ⟨(.pair (.agg (Ty.prod (Ty.int IntKind.i64) (Ty.int IntKind.i64))) (.agg (Ty.prod (Ty.prod (Ty.int IntKind.i64) (Ty.int IntKind.i64)) (Ty.prod (Ty.prod (Ty.int IntKind.i64) (Ty.int IntKind.i64)) (Ty.prod (Ty.int IntKind.i64) (Ty.int IntKind.i64)))))), (.pair (.one (Ty.int IntKind.i64)) (.one (Ty.int IntKind.i64))), mIn_pre, mIn⟩
theorem mIn_ok : SpecOk Try.prog 14 (fnSpec mIn_S) := SpecOk.fnT' (fn := Try.f14) tt_ok sp_mside_ok mixed (by kernel_rfl) (by kernel_rfl) (.pair (.agg (Ty.prod (Ty.int IntKind.i64) (Ty.int IntKind.i64))) (.agg (Ty.prod (Ty.prod (Ty.int IntKind.i64) (Ty.int IntKind.i64)) (Ty.prod (Ty.prod (Ty.int IntKind.i64) (Ty.int IntKind.i64)) (Ty.prod (Ty.int IntKind.i64) (Ty.int IntKind.i64)))))) (.pair (.one (Ty.int IntKind.i64)) (.one (Ty.int IntKind.i64))) mIn_pre mIn (by kernel_rfl) fun x hp => ⟨_, _, (ItsOk.cons (Enters.of (fn := Try.f48) (by kernel_rfl) (by kernel_rfl) (by kernel_rfl)) (ISpecOk.fn tt_ok sp_mside_ok mixed (fn := Try.f48) (by kernel_rfl) (by kernel_rfl) (ItsOk.cons (Enters.of (fn := Try.f27) (by kernel_rfl) (by kernel_rfl) (by kernel_rfl)) (ISpecOk.fn tt_ok sp_mside_ok mixed (fn := Try.f27) (by kernel_rfl) (by kernel_rfl) (ItsOk.nil _ _) (fun ys hy => LpsOk.nil)) (ItsOk.nil _ _)) (fun ys hy => (LpsOk.unroll tt_ok ⟨sp_mside_ok, hy, (ItsOk.cons (Enters.of (fn := Try.f27) (by kernel_rfl) (by kernel_rfl) (by kernel_rfl)) (ISpecOk.fn tt_ok sp_mside_ok mixed (fn := Try.f27) (by kernel_rfl) (by kernel_rfl) (ItsOk.nil _ _) (fun ys hy => LpsOk.nil)) (ItsOk.nil _ _))⟩ mixed 4 LpsOk.nil (by kernel_rfl) (by kernel_rfl)))) (ItsOk.cons (Enters.of (fn := Try.f27) (by kernel_rfl) (by kernel_rfl) (by kernel_rfl)) (ISpecOk.fn tt_ok sp_mside_ok mixed (fn := Try.f27) (by kernel_rfl) (by kernel_rfl) (ItsOk.nil _ _) (fun ys hy => LpsOk.nil)) (ItsOk.nil _ _))), LpsOk.nil, mIn_fn x (fun y => y = mIn x) hp rfl⟩
def sp_mIn : List (Nat × Ev.Spec) := (14, fnSpec mIn_S) :: sp_mside
theorem sp_mIn_ok : SpecsOk Try.prog sp_mIn := SpecsOk.cons (Enters.of (fn := Try.f14) (by kernel_rfl) (by kernel_rfl) (by kernel_rfl)) mIn_ok sp_mside_ok
noncomputable def closest (x : ((Int × Int) × ((Int × Int) × ((Int × Int) × (Int × Int))))) : ((Int × Int) × ((Int × Int) × Int)) :=
 (letV (mIn x) fun y =>
 (if ((y.2 != (0 : Int)) = true) then
 (((0 : Int), (0 : Int)), (((0 : Int), (0 : Int)), y.2)) else
 (if (y.1 > (0 : Int)) then
 (x.1, (((0 : Int), (1 : Int)), (0 : Int))) else
 (letV (find (x.1, (x.2.1, x.2.2.1))) fun y_1 =>
 (letV (find (x.1, x.2.2)) fun y_2 =>
 (letV (fcmp (y_2.2.2, y_1.2.2)) fun y_3 =>
 (if (y_3 < (0 : Int)) then
 (letV (find (x.1, (x.2.2.2, x.2.1))) fun y_4 =>
 (letV (fcmp (y_4.2.2, y_2.2.2)) fun y_5 =>
 (if (y_5 < (0 : Int)) then
 (y_4.1, (y_4.2.2, (0 : Int))) else
 (y_2.1, (y_2.2.2, (0 : Int)))))) else
 (letV (find (x.1, (x.2.2.2, x.2.1))) fun y_4 =>
 (letV (fcmp (y_4.2.2, y_1.2.2)) fun y_5 =>
 (if (y_5 < (0 : Int)) then
 (y_4.1, (y_4.2.2, (0 : Int))) else
 (y_1.1, (y_1.2.2, (0 : Int)))))))))))))
noncomputable def closest_pre (x : ((Int × Int) × ((Int × Int) × ((Int × Int) × (Int × Int))))) : Prop :=
 ((mIn_pre x) ∧
 letP (mIn x) fun y =>
 (¬ ((y.2 != (0 : Int)) = true) →
 (¬ (y.1 > (0 : Int)) →
 ((find_pre (x.1, (x.2.1, x.2.2.1))) ∧
 letP (find (x.1, (x.2.1, x.2.2.1))) fun y_1 =>
 ((find_pre (x.1, x.2.2)) ∧
 letP (find (x.1, x.2.2)) fun y_2 =>
 ((fcmp_pre (y_2.2.2, y_1.2.2)) ∧
 letP (fcmp (y_2.2.2, y_1.2.2)) fun y_3 =>
 (((y_3 < (0 : Int)) →
 ((find_pre (x.1, (x.2.2.2, x.2.1))) ∧
 letP (find (x.1, (x.2.2.2, x.2.1))) fun y_4 =>
 (fcmp_pre (y_4.2.2, y_2.2.2)))) ∧
 (¬ (y_3 < (0 : Int)) →
 ((find_pre (x.1, (x.2.2.2, x.2.1))) ∧
 letP (find (x.1, (x.2.2.2, x.2.1))) fun y_4 =>
 (fcmp_pre (y_4.2.2, y_1.2.2)))))))))))
theorem closest_vc (x : ((Int × Int) × ((Int × Int) × ((Int × Int) × (Int × Int))))) (Q : ((Int × Int) × ((Int × Int) × Int)) → Prop) : fnE ⟨tt, sp_mIn, noX, [], [], [(23, itFn tt sp_mIn noX (fun ys => []) [] Try.f23)]⟩ Try.f8 (argsE (.pair (.agg (Ty.prod (Ty.int IntKind.i64) (Ty.int IntKind.i64))) (.agg (Ty.prod (Ty.prod (Ty.int IntKind.i64) (Ty.int IntKind.i64)) (Ty.prod (Ty.prod (Ty.int IntKind.i64) (Ty.int IntKind.i64)) (Ty.prod (Ty.int IntKind.i64) (Ty.int IntKind.i64)))))) x) (heapE (.pair (.agg (Ty.prod (Ty.int IntKind.i64) (Ty.int IntKind.i64))) (.agg (Ty.prod (Ty.prod (Ty.int IntKind.i64) (Ty.int IntKind.i64)) (Ty.prod (Ty.prod (Ty.int IntKind.i64) (Ty.int IntKind.i64)) (Ty.prod (Ty.int IntKind.i64) (Ty.int IntKind.i64)))))) x) (retE (.pair (.agg (Ty.prod (Ty.int IntKind.i64) (Ty.int IntKind.i64))) (.pair (.agg (Ty.prod (Ty.int IntKind.i64) (Ty.int IntKind.i64))) (.one (Ty.int IntKind.i64)))) Q) =
 ((mIn_pre x) ∧ ∀ y : (Int × Int), y = (mIn x) →
 (cB (y.2 != (0 : Int))
 (Q (((0 : Int), (0 : Int)), (((0 : Int), (0 : Int)), y.2)))
 (cB (decide (y.1 > (0 : Int)))
 (Q (x.1, (((0 : Int), (1 : Int)), (0 : Int))))
 ((find_pre (x.1, (x.2.1, x.2.2.1))) ∧ ∀ y_1 : ((Int × Int) × (Int × (Int × Int))), y_1 = (find (x.1, (x.2.1, x.2.2.1))) →
 ((find_pre (x.1, x.2.2)) ∧ ∀ y_2 : ((Int × Int) × (Int × (Int × Int))), y_2 = (find (x.1, x.2.2)) →
 (∀ ρ1 : Env,
 ((fcmp_pre (y_2.2.2, y_1.2.2)) ∧ ∀ y_3 : Int, y_3 = (fcmp (y_2.2.2, y_1.2.2)) →
 (cB (decide (y_3 < (0 : Int)))
 ((ρ1 = ρ1) ∧
 ((5 = 5) ∧
 ((find_pre (x.1, (x.2.2.2, x.2.1))) ∧ ∀ y_4 : ((Int × Int) × (Int × (Int × Int))), y_4 = (find (x.1, (x.2.2.2, x.2.1))) →
 (∀ ρ1_1 : Env,
 ((fcmp_pre (y_4.2.2, y_2.2.2)) ∧ ∀ y_5 : Int, y_5 = (fcmp (y_4.2.2, y_2.2.2)) →
 (cB (decide (y_5 < (0 : Int)))
 ((ρ1_1 = ρ1_1) ∧
 ((7 = 7) ∧
 (Q (y_4.1, (y_4.2.2, (0 : Int))))))
 ((ρ1_1 = ρ1_1) ∧
 ((7 = 7) ∧
 (Q (y_2.1, (y_2.2.2, (0 : Int))))))))))))
 ((ρ1 = ρ1) ∧
 ((5 = 5) ∧
 ((find_pre (x.1, (x.2.2.2, x.2.1))) ∧ ∀ y_4 : ((Int × Int) × (Int × (Int × Int))), y_4 = (find (x.1, (x.2.2.2, x.2.1))) →
 (∀ ρ1_1 : Env,
 ((fcmp_pre (y_4.2.2, y_1.2.2)) ∧ ∀ y_5 : Int, y_5 = (fcmp (y_4.2.2, y_1.2.2)) →
 (cB (decide (y_5 < (0 : Int)))
 ((ρ1_1 = ρ1_1) ∧
 ((7 = 7) ∧
 (Q (y_4.1, (y_4.2.2, (0 : Int))))))
 ((ρ1_1 = ρ1_1) ∧
 ((7 = 7) ∧
 (Q (y_1.1, (y_1.2.2, (0 : Int)))))))))))))))))))) := by kernel_rfl
theorem closest_fn (x : ((Int × Int) × ((Int × Int) × ((Int × Int) × (Int × Int))))) (Q : ((Int × Int) × ((Int × Int) × Int)) → Prop) (hp : closest_pre x) (hq : Q (closest x)) : Vc (fnE ⟨tt, sp_mIn, noX, [], [], [(23, itFn tt sp_mIn noX (fun ys => []) [] Try.f23)]⟩ Try.f8 (argsE (.pair (.agg (Ty.prod (Ty.int IntKind.i64) (Ty.int IntKind.i64))) (.agg (Ty.prod (Ty.prod (Ty.int IntKind.i64) (Ty.int IntKind.i64)) (Ty.prod (Ty.prod (Ty.int IntKind.i64) (Ty.int IntKind.i64)) (Ty.prod (Ty.int IntKind.i64) (Ty.int IntKind.i64)))))) x) (heapE (.pair (.agg (Ty.prod (Ty.int IntKind.i64) (Ty.int IntKind.i64))) (.agg (Ty.prod (Ty.prod (Ty.int IntKind.i64) (Ty.int IntKind.i64)) (Ty.prod (Ty.prod (Ty.int IntKind.i64) (Ty.int IntKind.i64)) (Ty.prod (Ty.int IntKind.i64) (Ty.int IntKind.i64)))))) x) (retE (.pair (.agg (Ty.prod (Ty.int IntKind.i64) (Ty.int IntKind.i64))) (.pair (.agg (Ty.prod (Ty.int IntKind.i64) (Ty.int IntKind.i64))) (.one (Ty.int IntKind.i64)))) Q)) := .eq (closest_vc x Q) (have hp := Eq.mp (closest_pre.eq_1 x) hp; have hq := Eq.mp (congrArg Q (closest.eq_1 x)) hq;
 (And.intro hp.1 (let_k (Q := Q) hp.2 hq fun y hp hq => (cB_b (Q := Q) hq (fun c hq => hq) (fun c hq => have hp := (hp c); (cB_d (Q := Q) hq (fun c hq => hq) (fun c hq => have hp := (hp c); (And.intro hp.1 (let_k (Q := Q) hp.2 hq fun y_1 hp hq => (And.intro hp.1 (let_k (Q := Q) hp.2 hq fun y_2 hp hq => (fun ρ1 => (And.intro hp.1 (let_k (Q := Q) hp.2 hq fun y_3 hp hq => (cB_d (Q := Q) hq (fun c hq => have hp := (hp.1 c); (And.intro rfl (And.intro rfl (And.intro hp.1 (let_k (Q := Q) hp.2 hq fun y_4 hp hq => (fun ρ1_1 => (And.intro hp (let_0 (Q := Q) hq fun y_5 hq => (cB_d (Q := Q) hq (fun c hq => (And.intro rfl (And.intro rfl hq))) (fun c hq => (And.intro rfl (And.intro rfl hq)))))))))))) (fun c hq => have hp := (hp.2 c); (And.intro rfl (And.intro rfl (And.intro hp.1 (let_k (Q := Q) hp.2 hq fun y_4 hp hq => (fun ρ1_1 => (And.intro hp (let_0 (Q := Q) hq fun y_5 hq => (cB_d (Q := Q) hq (fun c hq => (And.intro rfl (And.intro rfl hq))) (fun c hq => (And.intro rfl (And.intro rfl hq)))))))))))))))))))))))))))
noncomputable def closest_S : FnS := ⟨(.pair (.agg (Ty.prod (Ty.int IntKind.i64) (Ty.int IntKind.i64))) (.agg (Ty.prod (Ty.prod (Ty.int IntKind.i64) (Ty.int IntKind.i64)) (Ty.prod (Ty.prod (Ty.int IntKind.i64) (Ty.int IntKind.i64)) (Ty.prod (Ty.int IntKind.i64) (Ty.int IntKind.i64)))))), (.pair (.agg (Ty.prod (Ty.int IntKind.i64) (Ty.int IntKind.i64))) (.pair (.agg (Ty.prod (Ty.int IntKind.i64) (Ty.int IntKind.i64))) (.one (Ty.int IntKind.i64)))), closest_pre, closest⟩
theorem closest_ok : SpecOk Try.prog 8 (fnSpec closest_S) := SpecOk.fnT' (fn := Try.f8) tt_ok sp_mIn_ok mixed (by kernel_rfl) (by kernel_rfl) (.pair (.agg (Ty.prod (Ty.int IntKind.i64) (Ty.int IntKind.i64))) (.agg (Ty.prod (Ty.prod (Ty.int IntKind.i64) (Ty.int IntKind.i64)) (Ty.prod (Ty.prod (Ty.int IntKind.i64) (Ty.int IntKind.i64)) (Ty.prod (Ty.int IntKind.i64) (Ty.int IntKind.i64)))))) (.pair (.agg (Ty.prod (Ty.int IntKind.i64) (Ty.int IntKind.i64))) (.pair (.agg (Ty.prod (Ty.int IntKind.i64) (Ty.int IntKind.i64))) (.one (Ty.int IntKind.i64)))) closest_pre closest (by kernel_rfl) fun x hp => ⟨_, _, (ItsOk.cons (Enters.of (fn := Try.f23) (by kernel_rfl) (by kernel_rfl) (by kernel_rfl)) (ISpecOk.fn tt_ok sp_mIn_ok mixed (fn := Try.f23) (by kernel_rfl) (by kernel_rfl) (ItsOk.nil _ _) (fun ys hy => LpsOk.nil)) (ItsOk.nil _ _)), LpsOk.nil, closest_fn x (fun y => y = closest x) hp rfl⟩
def sp_closest : List (Nat × Ev.Spec) := (8, fnSpec closest_S) :: sp_mIn
theorem sp_closest_ok : SpecsOk Try.prog sp_closest := SpecsOk.cons (Enters.of (fn := Try.f8) (by kernel_rfl) (by kernel_rfl) (by kernel_rfl)) closest_ok sp_mIn_ok
noncomputable def weights (x : ((Int × Int) × ((Int × Int) × ((Int × Int) × (Int × Int))))) : ((Int × (Int × Int)) × (Int × Int)) :=
 (letV (mIn x) fun y =>
 (if ((y.2 != (0 : Int)) = true) then
 (((0 : Int), ((0 : Int), (0 : Int))), ((0 : Int), y.2)) else
 (letV (sarea x.2) fun y_1 =>
 (letV (sside x.2) fun y_2 =>
 (letV (sarea (x.1, x.2.2)) fun y_3 =>
 (letV (sarea (x.1, (x.2.2.2, x.2.1))) fun y_4 =>
 (letV (sarea (x.1, (x.2.1, x.2.2.1))) fun y_5 =>
 (((cond false (w64 (y_5.1 * y_2.1)) (cond false (w64 (y_4.1 * y_2.1)) (cond true (w64 (y_3.1 * y_2.1)) (0 : Int)))), ((cond false (w64 (y_5.1 * y_2.1)) (cond true (w64 (y_4.1 * y_2.1)) (cond false (w64 (y_3.1 * y_2.1)) (0 : Int)))), (cond true (w64 (y_5.1 * y_2.1)) (cond false (w64 (y_4.1 * y_2.1)) (cond false (w64 (y_3.1 * y_2.1)) (0 : Int)))))), ((w64 (y_1.1 * y_2.1)), (0 : Int))))))))))
noncomputable def weights_pre (x : ((Int × Int) × ((Int × Int) × ((Int × Int) × (Int × Int))))) : Prop :=
 ((mIn_pre x) ∧
 letP (mIn x) fun y =>
 (¬ ((y.2 != (0 : Int)) = true) →
 ((sarea_pre x.2) ∧
 letP (sarea x.2) fun y_1 =>
 ((sside_pre x.2) ∧
 letP (sside x.2) fun y_2 =>
 ((sarea_pre (x.1, x.2.2)) ∧
 letP (sarea (x.1, x.2.2)) fun y_3 =>
 ((sarea_pre (x.1, (x.2.2.2, x.2.1))) ∧
 letP (sarea (x.1, (x.2.2.2, x.2.1))) fun y_4 =>
 (sarea_pre (x.1, (x.2.1, x.2.2.1)))))))))
theorem weights_vc (x : ((Int × Int) × ((Int × Int) × ((Int × Int) × (Int × Int))))) (Q : ((Int × (Int × Int)) × (Int × Int)) → Prop) : fnE ⟨tt, sp_closest, noX, [(0, unrolled tt sp_closest noX [] [] [] 0 (cI (blk 0 (bodyOf Try.f16))) 4)], [], []⟩ Try.f16 (argsE (.pair (.agg (Ty.prod (Ty.int IntKind.i64) (Ty.int IntKind.i64))) (.agg (Ty.prod (Ty.prod (Ty.int IntKind.i64) (Ty.int IntKind.i64)) (Ty.prod (Ty.prod (Ty.int IntKind.i64) (Ty.int IntKind.i64)) (Ty.prod (Ty.int IntKind.i64) (Ty.int IntKind.i64)))))) x) (heapE (.pair (.agg (Ty.prod (Ty.int IntKind.i64) (Ty.int IntKind.i64))) (.agg (Ty.prod (Ty.prod (Ty.int IntKind.i64) (Ty.int IntKind.i64)) (Ty.prod (Ty.prod (Ty.int IntKind.i64) (Ty.int IntKind.i64)) (Ty.prod (Ty.int IntKind.i64) (Ty.int IntKind.i64)))))) x) (retE (.pair (.agg (Ty.prod (Ty.int IntKind.i64) (Ty.prod (Ty.int IntKind.i64) (Ty.int IntKind.i64)))) (.pair (.one (Ty.int IntKind.i64)) (.one (Ty.int IntKind.i64)))) Q) =
 ((mIn_pre x) ∧ ∀ y : (Int × Int), y = (mIn x) →
 (cB (y.2 != (0 : Int))
 (Q (((0 : Int), ((0 : Int), (0 : Int))), ((0 : Int), y.2)))
 ((sarea_pre x.2) ∧ ∀ y_1 : (Int × Int), y_1 = (sarea x.2) →
 ((sside_pre x.2) ∧ ∀ y_2 : (Int × Int), y_2 = (sside x.2) →
 ((sarea_pre (x.1, x.2.2)) ∧ ∀ y_3 : (Int × Int), y_3 = (sarea (x.1, x.2.2)) →
 ((sarea_pre (x.1, (x.2.2.2, x.2.1))) ∧ ∀ y_4 : (Int × Int), y_4 = (sarea (x.1, (x.2.2.2, x.2.1))) →
 ((sarea_pre (x.1, (x.2.1, x.2.2.1))) ∧ ∀ y_5 : (Int × Int), y_5 = (sarea (x.1, (x.2.1, x.2.2.1))) →
 (Q (((cond false (w64 (y_5.1 * y_2.1)) (cond false (w64 (y_4.1 * y_2.1)) (cond true (w64 (y_3.1 * y_2.1)) (0 : Int)))), ((cond false (w64 (y_5.1 * y_2.1)) (cond true (w64 (y_4.1 * y_2.1)) (cond false (w64 (y_3.1 * y_2.1)) (0 : Int)))), (cond true (w64 (y_5.1 * y_2.1)) (cond false (w64 (y_4.1 * y_2.1)) (cond false (w64 (y_3.1 * y_2.1)) (0 : Int)))))), ((w64 (y_1.1 * y_2.1)), (0 : Int))))))))))) := by kernel_rfl
theorem weights_fn (x : ((Int × Int) × ((Int × Int) × ((Int × Int) × (Int × Int))))) (Q : ((Int × (Int × Int)) × (Int × Int)) → Prop) (hp : weights_pre x) (hq : Q (weights x)) : Vc (fnE ⟨tt, sp_closest, noX, [(0, unrolled tt sp_closest noX [] [] [] 0 (cI (blk 0 (bodyOf Try.f16))) 4)], [], []⟩ Try.f16 (argsE (.pair (.agg (Ty.prod (Ty.int IntKind.i64) (Ty.int IntKind.i64))) (.agg (Ty.prod (Ty.prod (Ty.int IntKind.i64) (Ty.int IntKind.i64)) (Ty.prod (Ty.prod (Ty.int IntKind.i64) (Ty.int IntKind.i64)) (Ty.prod (Ty.int IntKind.i64) (Ty.int IntKind.i64)))))) x) (heapE (.pair (.agg (Ty.prod (Ty.int IntKind.i64) (Ty.int IntKind.i64))) (.agg (Ty.prod (Ty.prod (Ty.int IntKind.i64) (Ty.int IntKind.i64)) (Ty.prod (Ty.prod (Ty.int IntKind.i64) (Ty.int IntKind.i64)) (Ty.prod (Ty.int IntKind.i64) (Ty.int IntKind.i64)))))) x) (retE (.pair (.agg (Ty.prod (Ty.int IntKind.i64) (Ty.prod (Ty.int IntKind.i64) (Ty.int IntKind.i64)))) (.pair (.one (Ty.int IntKind.i64)) (.one (Ty.int IntKind.i64)))) Q)) := .eq (weights_vc x Q) (have hp := Eq.mp (weights_pre.eq_1 x) hp; have hq := Eq.mp (congrArg Q (weights.eq_1 x)) hq;
 (And.intro hp.1 (let_k (Q := Q) hp.2 hq fun y hp hq => (cB_b (Q := Q) hq (fun c hq => hq) (fun c hq => have hp := (hp c); (And.intro hp.1 (let_k (Q := Q) hp.2 hq fun y_1 hp hq => (And.intro hp.1 (let_k (Q := Q) hp.2 hq fun y_2 hp hq => (And.intro hp.1 (let_k (Q := Q) hp.2 hq fun y_3 hp hq => (And.intro hp.1 (let_k (Q := Q) hp.2 hq fun y_4 hp hq => (And.intro hp (let_0 (Q := Q) hq fun y_5 hq => hq)))))))))))))))
noncomputable def weights_S : FnS := ⟨(.pair (.agg (Ty.prod (Ty.int IntKind.i64) (Ty.int IntKind.i64))) (.agg (Ty.prod (Ty.prod (Ty.int IntKind.i64) (Ty.int IntKind.i64)) (Ty.prod (Ty.prod (Ty.int IntKind.i64) (Ty.int IntKind.i64)) (Ty.prod (Ty.int IntKind.i64) (Ty.int IntKind.i64)))))), (.pair (.agg (Ty.prod (Ty.int IntKind.i64) (Ty.prod (Ty.int IntKind.i64) (Ty.int IntKind.i64)))) (.pair (.one (Ty.int IntKind.i64)) (.one (Ty.int IntKind.i64)))), weights_pre, weights⟩
theorem weights_ok : SpecOk Try.prog 16 (fnSpec weights_S) := SpecOk.fnT' (fn := Try.f16) tt_ok sp_closest_ok mixed (by kernel_rfl) (by kernel_rfl) (.pair (.agg (Ty.prod (Ty.int IntKind.i64) (Ty.int IntKind.i64))) (.agg (Ty.prod (Ty.prod (Ty.int IntKind.i64) (Ty.int IntKind.i64)) (Ty.prod (Ty.prod (Ty.int IntKind.i64) (Ty.int IntKind.i64)) (Ty.prod (Ty.int IntKind.i64) (Ty.int IntKind.i64)))))) (.pair (.agg (Ty.prod (Ty.int IntKind.i64) (Ty.prod (Ty.int IntKind.i64) (Ty.int IntKind.i64)))) (.pair (.one (Ty.int IntKind.i64)) (.one (Ty.int IntKind.i64)))) weights_pre weights (by kernel_rfl) fun x hp => ⟨_, _, (ItsOk.nil _ _), (LpsOk.unroll tt_ok (SpecsOk.ctxI sp_closest_ok (ItsOk.nil _ _)) mixed _ LpsOk.nil (by kernel_rfl) (by kernel_rfl)), weights_fn x (fun y => y = weights x) hp rfl⟩
def sp_weights : List (Nat × Ev.Spec) := (16, fnSpec weights_S) :: sp_closest
theorem sp_weights_ok : SpecsOk Try.prog sp_weights := SpecsOk.cons (Enters.of (fn := Try.f16) (by kernel_rfl) (by kernel_rfl) (by kernel_rfl)) weights_ok sp_closest_ok
noncomputable def nlift (x : ((Int × Int) × (((Int × Int) × ((Int × Int) × (Int × Int))) × ((Int × (Int × Int)) × ((Int × (Int × Int)) × (Int × (Int × Int))))))) : ((Int × (Int × Int)) × Int) :=
 (letV (small2 [x.1]) fun y =>
 (if ((!y) = true) then
 (((0 : Int), ((0 : Int), (0 : Int))), (5 : Int)) else
 (letV (small3 [x.2.2.1, x.2.2.2.1, x.2.2.2.2]) fun y_1 =>
 (if ((!y_1) = true) then
 (((0 : Int), ((0 : Int), (0 : Int))), (5 : Int)) else
 (letV (weights (x.1, x.2.1)) fun y_2 =>
 (if ((y_2.2.2 != (0 : Int)) = true) then
 (((0 : Int), ((0 : Int), (0 : Int))), y_2.2.2) else
 (letV (floor ((w64 ((w64 ((w64 ((0 : Int) + (w64 (y_2.1.1 * x.2.2.1.1)))) + (w64 (y_2.1.2.1 * x.2.2.2.1.1)))) + (w64 (y_2.1.2.2 * x.2.2.2.2.1)))), y_2.2.1)) fun y_3 =>
 (letV (floor ((w64 ((w64 ((w64 ((0 : Int) + (w64 (y_2.1.1 * x.2.2.1.2.1)))) + (w64 (y_2.1.2.1 * x.2.2.2.1.2.1)))) + (w64 (y_2.1.2.2 * x.2.2.2.2.2.1)))), y_2.2.1)) fun y_4 =>
 (letV (floor ((w64 ((w64 ((w64 ((0 : Int) + (w64 (y_2.1.1 * x.2.2.1.2.2)))) + (w64 (y_2.1.2.1 * x.2.2.2.1.2.2)))) + (w64 (y_2.1.2.2 * x.2.2.2.2.2.2)))), y_2.2.1)) fun y_5 =>
 ((y_3, (y_4, y_5)), (0 : Int)))))))))))
noncomputable def nlift_pre (x : ((Int × Int) × (((Int × Int) × ((Int × Int) × (Int × Int))) × ((Int × (Int × Int)) × ((Int × (Int × Int)) × (Int × (Int × Int))))))) : Prop :=
 ((small2_pre [x.1]) ∧
 letP (small2 [x.1]) fun y =>
 (¬ ((!y) = true) →
 ((small3_pre [x.2.2.1, x.2.2.2.1, x.2.2.2.2]) ∧
 letP (small3 [x.2.2.1, x.2.2.2.1, x.2.2.2.2]) fun y_1 =>
 (¬ ((!y_1) = true) →
 ((weights_pre (x.1, x.2.1)) ∧
 letP (weights (x.1, x.2.1)) fun y_2 =>
 (¬ ((y_2.2.2 != (0 : Int)) = true) →
 ((floor_pre ((w64 ((w64 ((w64 ((0 : Int) + (w64 (y_2.1.1 * x.2.2.1.1)))) + (w64 (y_2.1.2.1 * x.2.2.2.1.1)))) + (w64 (y_2.1.2.2 * x.2.2.2.2.1)))), y_2.2.1)) ∧
 letP (floor ((w64 ((w64 ((w64 ((0 : Int) + (w64 (y_2.1.1 * x.2.2.1.1)))) + (w64 (y_2.1.2.1 * x.2.2.2.1.1)))) + (w64 (y_2.1.2.2 * x.2.2.2.2.1)))), y_2.2.1)) fun y_3 =>
 ((floor_pre ((w64 ((w64 ((w64 ((0 : Int) + (w64 (y_2.1.1 * x.2.2.1.2.1)))) + (w64 (y_2.1.2.1 * x.2.2.2.1.2.1)))) + (w64 (y_2.1.2.2 * x.2.2.2.2.2.1)))), y_2.2.1)) ∧
 letP (floor ((w64 ((w64 ((w64 ((0 : Int) + (w64 (y_2.1.1 * x.2.2.1.2.1)))) + (w64 (y_2.1.2.1 * x.2.2.2.1.2.1)))) + (w64 (y_2.1.2.2 * x.2.2.2.2.2.1)))), y_2.2.1)) fun y_4 =>
 (floor_pre ((w64 ((w64 ((w64 ((0 : Int) + (w64 (y_2.1.1 * x.2.2.1.2.2)))) + (w64 (y_2.1.2.1 * x.2.2.2.1.2.2)))) + (w64 (y_2.1.2.2 * x.2.2.2.2.2.2)))), y_2.2.1))))))))))
theorem nlift_vc (x : ((Int × Int) × (((Int × Int) × ((Int × Int) × (Int × Int))) × ((Int × (Int × Int)) × ((Int × (Int × Int)) × (Int × (Int × Int))))))) (Q : ((Int × (Int × Int)) × Int) → Prop) : fnE ⟨tt, sp_weights, noX, [(0, unrolled tt sp_weights noX [] [] [] 0 (cI (blk 0 (bodyOf Try.f20))) 4)], [], []⟩ Try.f20 (argsE (.pair (.agg (Ty.prod (Ty.int IntKind.i64) (Ty.int IntKind.i64))) (.pair (.agg (Ty.prod (Ty.prod (Ty.int IntKind.i64) (Ty.int IntKind.i64)) (Ty.prod (Ty.prod (Ty.int IntKind.i64) (Ty.int IntKind.i64)) (Ty.prod (Ty.int IntKind.i64) (Ty.int IntKind.i64))))) (.agg (Ty.prod (Ty.prod (Ty.int IntKind.i64) (Ty.prod (Ty.int IntKind.i64) (Ty.int IntKind.i64))) (Ty.prod (Ty.prod (Ty.int IntKind.i64) (Ty.prod (Ty.int IntKind.i64) (Ty.int IntKind.i64))) (Ty.prod (Ty.int IntKind.i64) (Ty.prod (Ty.int IntKind.i64) (Ty.int IntKind.i64)))))))) x) (heapE (.pair (.agg (Ty.prod (Ty.int IntKind.i64) (Ty.int IntKind.i64))) (.pair (.agg (Ty.prod (Ty.prod (Ty.int IntKind.i64) (Ty.int IntKind.i64)) (Ty.prod (Ty.prod (Ty.int IntKind.i64) (Ty.int IntKind.i64)) (Ty.prod (Ty.int IntKind.i64) (Ty.int IntKind.i64))))) (.agg (Ty.prod (Ty.prod (Ty.int IntKind.i64) (Ty.prod (Ty.int IntKind.i64) (Ty.int IntKind.i64))) (Ty.prod (Ty.prod (Ty.int IntKind.i64) (Ty.prod (Ty.int IntKind.i64) (Ty.int IntKind.i64))) (Ty.prod (Ty.int IntKind.i64) (Ty.prod (Ty.int IntKind.i64) (Ty.int IntKind.i64)))))))) x) (retE (.pair (.agg (Ty.prod (Ty.int IntKind.i64) (Ty.prod (Ty.int IntKind.i64) (Ty.int IntKind.i64)))) (.one (Ty.int IntKind.i64))) Q) =
 ((small2_pre [x.1]) ∧ ∀ y : Bool, y = (small2 [x.1]) →
 (cB (!y)
 (Q (((0 : Int), ((0 : Int), (0 : Int))), (5 : Int)))
 ((small3_pre [x.2.2.1, x.2.2.2.1, x.2.2.2.2]) ∧ ∀ y_1 : Bool, y_1 = (small3 [x.2.2.1, x.2.2.2.1, x.2.2.2.2]) →
 (cB (!y_1)
 (Q (((0 : Int), ((0 : Int), (0 : Int))), (5 : Int)))
 ((weights_pre (x.1, x.2.1)) ∧ ∀ y_2 : ((Int × (Int × Int)) × (Int × Int)), y_2 = (weights (x.1, x.2.1)) →
 (cB (y_2.2.2 != (0 : Int))
 (Q (((0 : Int), ((0 : Int), (0 : Int))), y_2.2.2))
 ((floor_pre ((w64 ((w64 ((w64 ((0 : Int) + (w64 (y_2.1.1 * x.2.2.1.1)))) + (w64 (y_2.1.2.1 * x.2.2.2.1.1)))) + (w64 (y_2.1.2.2 * x.2.2.2.2.1)))), y_2.2.1)) ∧ ∀ y_3 : Int, y_3 = (floor ((w64 ((w64 ((w64 ((0 : Int) + (w64 (y_2.1.1 * x.2.2.1.1)))) + (w64 (y_2.1.2.1 * x.2.2.2.1.1)))) + (w64 (y_2.1.2.2 * x.2.2.2.2.1)))), y_2.2.1)) →
 ((floor_pre ((w64 ((w64 ((w64 ((0 : Int) + (w64 (y_2.1.1 * x.2.2.1.2.1)))) + (w64 (y_2.1.2.1 * x.2.2.2.1.2.1)))) + (w64 (y_2.1.2.2 * x.2.2.2.2.2.1)))), y_2.2.1)) ∧ ∀ y_4 : Int, y_4 = (floor ((w64 ((w64 ((w64 ((0 : Int) + (w64 (y_2.1.1 * x.2.2.1.2.1)))) + (w64 (y_2.1.2.1 * x.2.2.2.1.2.1)))) + (w64 (y_2.1.2.2 * x.2.2.2.2.2.1)))), y_2.2.1)) →
 ((floor_pre ((w64 ((w64 ((w64 ((0 : Int) + (w64 (y_2.1.1 * x.2.2.1.2.2)))) + (w64 (y_2.1.2.1 * x.2.2.2.1.2.2)))) + (w64 (y_2.1.2.2 * x.2.2.2.2.2.2)))), y_2.2.1)) ∧ ∀ y_5 : Int, y_5 = (floor ((w64 ((w64 ((w64 ((0 : Int) + (w64 (y_2.1.1 * x.2.2.1.2.2)))) + (w64 (y_2.1.2.1 * x.2.2.2.1.2.2)))) + (w64 (y_2.1.2.2 * x.2.2.2.2.2.2)))), y_2.2.1)) →
 (Q ((y_3, (y_4, y_5)), (0 : Int)))))))))))) := by kernel_rfl
theorem nlift_fn (x : ((Int × Int) × (((Int × Int) × ((Int × Int) × (Int × Int))) × ((Int × (Int × Int)) × ((Int × (Int × Int)) × (Int × (Int × Int))))))) (Q : ((Int × (Int × Int)) × Int) → Prop) (hp : nlift_pre x) (hq : Q (nlift x)) : Vc (fnE ⟨tt, sp_weights, noX, [(0, unrolled tt sp_weights noX [] [] [] 0 (cI (blk 0 (bodyOf Try.f20))) 4)], [], []⟩ Try.f20 (argsE (.pair (.agg (Ty.prod (Ty.int IntKind.i64) (Ty.int IntKind.i64))) (.pair (.agg (Ty.prod (Ty.prod (Ty.int IntKind.i64) (Ty.int IntKind.i64)) (Ty.prod (Ty.prod (Ty.int IntKind.i64) (Ty.int IntKind.i64)) (Ty.prod (Ty.int IntKind.i64) (Ty.int IntKind.i64))))) (.agg (Ty.prod (Ty.prod (Ty.int IntKind.i64) (Ty.prod (Ty.int IntKind.i64) (Ty.int IntKind.i64))) (Ty.prod (Ty.prod (Ty.int IntKind.i64) (Ty.prod (Ty.int IntKind.i64) (Ty.int IntKind.i64))) (Ty.prod (Ty.int IntKind.i64) (Ty.prod (Ty.int IntKind.i64) (Ty.int IntKind.i64)))))))) x) (heapE (.pair (.agg (Ty.prod (Ty.int IntKind.i64) (Ty.int IntKind.i64))) (.pair (.agg (Ty.prod (Ty.prod (Ty.int IntKind.i64) (Ty.int IntKind.i64)) (Ty.prod (Ty.prod (Ty.int IntKind.i64) (Ty.int IntKind.i64)) (Ty.prod (Ty.int IntKind.i64) (Ty.int IntKind.i64))))) (.agg (Ty.prod (Ty.prod (Ty.int IntKind.i64) (Ty.prod (Ty.int IntKind.i64) (Ty.int IntKind.i64))) (Ty.prod (Ty.prod (Ty.int IntKind.i64) (Ty.prod (Ty.int IntKind.i64) (Ty.int IntKind.i64))) (Ty.prod (Ty.int IntKind.i64) (Ty.prod (Ty.int IntKind.i64) (Ty.int IntKind.i64)))))))) x) (retE (.pair (.agg (Ty.prod (Ty.int IntKind.i64) (Ty.prod (Ty.int IntKind.i64) (Ty.int IntKind.i64)))) (.one (Ty.int IntKind.i64))) Q)) := .eq (nlift_vc x Q) (have hp := Eq.mp (nlift_pre.eq_1 x) hp; have hq := Eq.mp (congrArg Q (nlift.eq_1 x)) hq;
 (And.intro hp.1 (let_k (Q := Q) hp.2 hq fun y hp hq => (cB_b (Q := Q) hq (fun c hq => hq) (fun c hq => have hp := (hp c); (And.intro hp.1 (let_k (Q := Q) hp.2 hq fun y_1 hp hq => (cB_b (Q := Q) hq (fun c hq => hq) (fun c hq => have hp := (hp c); (And.intro hp.1 (let_k (Q := Q) hp.2 hq fun y_2 hp hq => (cB_b (Q := Q) hq (fun c hq => hq) (fun c hq => have hp := (hp c); (And.intro hp.1 (let_k (Q := Q) hp.2 hq fun y_3 hp hq => (And.intro hp.1 (let_k (Q := Q) hp.2 hq fun y_4 hp hq => (And.intro hp (let_0 (Q := Q) hq fun y_5 hq => hq)))))))))))))))))))
noncomputable def nlift_S : FnS := ⟨(.pair (.agg (Ty.prod (Ty.int IntKind.i64) (Ty.int IntKind.i64))) (.pair (.agg (Ty.prod (Ty.prod (Ty.int IntKind.i64) (Ty.int IntKind.i64)) (Ty.prod (Ty.prod (Ty.int IntKind.i64) (Ty.int IntKind.i64)) (Ty.prod (Ty.int IntKind.i64) (Ty.int IntKind.i64))))) (.agg (Ty.prod (Ty.prod (Ty.int IntKind.i64) (Ty.prod (Ty.int IntKind.i64) (Ty.int IntKind.i64))) (Ty.prod (Ty.prod (Ty.int IntKind.i64) (Ty.prod (Ty.int IntKind.i64) (Ty.int IntKind.i64))) (Ty.prod (Ty.int IntKind.i64) (Ty.prod (Ty.int IntKind.i64) (Ty.int IntKind.i64)))))))), (.pair (.agg (Ty.prod (Ty.int IntKind.i64) (Ty.prod (Ty.int IntKind.i64) (Ty.int IntKind.i64)))) (.one (Ty.int IntKind.i64))), nlift_pre, nlift⟩
theorem nlift_ok : SpecOk Try.prog 20 (fnSpec nlift_S) := SpecOk.fnT' (fn := Try.f20) tt_ok sp_weights_ok mixed (by kernel_rfl) (by kernel_rfl) (.pair (.agg (Ty.prod (Ty.int IntKind.i64) (Ty.int IntKind.i64))) (.pair (.agg (Ty.prod (Ty.prod (Ty.int IntKind.i64) (Ty.int IntKind.i64)) (Ty.prod (Ty.prod (Ty.int IntKind.i64) (Ty.int IntKind.i64)) (Ty.prod (Ty.int IntKind.i64) (Ty.int IntKind.i64))))) (.agg (Ty.prod (Ty.prod (Ty.int IntKind.i64) (Ty.prod (Ty.int IntKind.i64) (Ty.int IntKind.i64))) (Ty.prod (Ty.prod (Ty.int IntKind.i64) (Ty.prod (Ty.int IntKind.i64) (Ty.int IntKind.i64))) (Ty.prod (Ty.int IntKind.i64) (Ty.prod (Ty.int IntKind.i64) (Ty.int IntKind.i64)))))))) (.pair (.agg (Ty.prod (Ty.int IntKind.i64) (Ty.prod (Ty.int IntKind.i64) (Ty.int IntKind.i64)))) (.one (Ty.int IntKind.i64))) nlift_pre nlift (by kernel_rfl) fun x hp => ⟨_, _, (ItsOk.nil _ _), (LpsOk.unroll tt_ok (SpecsOk.ctxI sp_weights_ok (ItsOk.nil _ _)) mixed _ LpsOk.nil (by kernel_rfl) (by kernel_rfl)), nlift_fn x (fun y => y = nlift x) hp rfl⟩
def sp_nlift : List (Nat × Ev.Spec) := (20, fnSpec nlift_S) :: sp_weights
theorem sp_nlift_ok : SpecsOk Try.prog sp_nlift := SpecsOk.cons (Enters.of (fn := Try.f20) (by kernel_rfl) (by kernel_rfl) (by kernel_rfl)) nlift_ok sp_weights_ok
end Go.Proofs.Ytpdhabfebpjihaa
