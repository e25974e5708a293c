/- Models of functions, and that the code does what they say. -/
import Derived.Test.YtpdhabfebpjihaaEvO
import Derived.Test.YtpdhabfebpjihaaTt
namespace Go.Proofs.Ytpdhabfebpjihaa
open Go Go.Ev Go.Proofs
set_option linter.unusedVariables false
noncomputable def isnan (x : Int) : Bool :=
 (x != x)
noncomputable def isnan_pre (_ : Int) : Prop := True
theorem isnan_vc (x : Int) (Q : Bool → Prop) : fnE ⟨tt, [], noX, [], [], []⟩ Try.f65 (argsE (.one (Ty.int IntKind.i64)) x) (heapE (.one (Ty.int IntKind.i64)) x) (retE (.one Ty.bool) Q) =
 (Q (x != x)) := by kernel_rfl
theorem isnan_fn (x : Int) (Q : Bool → Prop) (hp : isnan_pre x) (hq : Q (isnan x)) : Vc (fnE ⟨tt, [], noX, [], [], []⟩ Try.f65 (argsE (.one (Ty.int IntKind.i64)) x) (heapE (.one (Ty.int IntKind.i64)) x) (retE (.one Ty.bool) Q)) := .eq (isnan_vc x Q) (have hp := Eq.mp (isnan_pre.eq_1 x) hp; have hq := Eq.mp (congrArg Q (isnan.eq_1 x)) hq;
 hq)
noncomputable def isnan_S : FnS := ⟨(.one (Ty.int IntKind.i64)), (.one Ty.bool), isnan_pre, isnan⟩
theorem isnan_ok : SpecOk Try.prog 65 (fnSpec isnan_S) := SpecOk.fnT' (fn := Try.f65) tt_ok (SpecsOk.nil _) mixed (by kernel_rfl) (by kernel_rfl) (.one (Ty.int IntKind.i64)) (.one Ty.bool) isnan_pre isnan (by kernel_rfl) fun x hp => ⟨_, _, (ItsOk.nil _ _), LpsOk.nil, isnan_fn x (fun y => y = isnan x) hp rfl⟩
def sp_isnan : List (Nat × Ev.Spec) := (65, fnSpec isnan_S) :: []
theorem sp_isnan_ok : SpecsOk Try.prog sp_isnan := SpecsOk.cons (Enters.of (fn := Try.f65) (by kernel_rfl) (by kernel_rfl) (by kernel_rfl)) isnan_ok (SpecsOk.nil _)
noncomputable def compare (x : (Int × Int)) : Int :=
 (letV (isnan x.1) fun y =>
 (letV (isnan x.2) fun y_1 =>
 (if (y = true) then
 (if (y_1 = true) then
 (0 : Int) else
 (-1 : Int)) else
 (if (y_1 = true) then
 (1 : Int) else
 (if (x.1 < x.2) then
 (-1 : Int) else
 (if (x.1 > x.2) then
 (1 : Int) else
 (0 : Int)))))))
noncomputable def compare_pre (_ : (Int × Int)) : Prop := True
theorem compare_vc (x : (Int × Int)) (Q : Int → Prop) : fnE ⟨tt, sp_isnan, noX, [], [], []⟩ Try.f47 (argsE (.pair (.one (Ty.int IntKind.i64)) (.one (Ty.int IntKind.i64))) x) (heapE (.pair (.one (Ty.int IntKind.i64)) (.one (Ty.int IntKind.i64))) x) (retE (.one (Ty.int IntKind.i64)) Q) =
 ((isnan_pre x.1) ∧ ∀ y : Bool, y = (isnan x.1) →
 ((isnan_pre x.2) ∧ ∀ y_1 : Bool, y_1 = (isnan x.2) →
 (cB y
 (cB y_1
 (Q (0 : Int))
 (Q (-1 : Int)))
 (cB y_1
 (Q (1 : Int))
 (cB (decide (x.1 < x.2))
 (Q (-1 : Int))
 (cB (decide (x.1 > x.2))
 (Q (1 : Int))
 (Q (0 : Int)))))))) := by kernel_rfl
theorem compare_fn (x : (Int × Int)) (Q : Int → Prop) (hp : compare_pre x) (hq : Q (compare x)) : Vc (fnE ⟨tt, sp_isnan, noX, [], [], []⟩ Try.f47 (argsE (.pair (.one (Ty.int IntKind.i64)) (.one (Ty.int IntKind.i64))) x) (heapE (.pair (.one (Ty.int IntKind.i64)) (.one (Ty.int IntKind.i64))) x) (retE (.one (Ty.int IntKind.i64)) Q)) := .eq (compare_vc x Q) (have hp := Eq.mp (compare_pre.eq_1 x) hp; have hq := Eq.mp (congrArg Q (compare.eq_1 x)) hq;
 (And.intro trivial (let_0 (Q := Q) hq fun y hq => (And.intro trivial (let_0 (Q := Q) hq fun y_1 hq => (cB_b (Q := Q) hq (fun c hq => (cB_b (Q := Q) hq (fun c hq => hq) (fun c hq => hq))) (fun c hq => (cB_b (Q := Q) hq (fun c hq => hq) (fun c hq => (cB_d (Q := Q) hq (fun c hq => hq) (fun c hq => (cB_d (Q := Q) hq (fun c hq => hq) (fun c hq => hq)))))))))))))
noncomputable def compare_S : FnS := ⟨(.pair (.one (Ty.int IntKind.i64)) (.one (Ty.int IntKind.i64))), (.one (Ty.int IntKind.i64)), compare_pre, compare⟩
theorem compare_ok : SpecOk Try.prog 47 (fnSpec compare_S) := SpecOk.fnT' (fn := Try.f47) tt_ok sp_isnan_ok mixed (by kernel_rfl) (by kernel_rfl) (.pair (.one (Ty.int IntKind.i64)) (.one (Ty.int IntKind.i64))) (.one (Ty.int IntKind.i64)) compare_pre compare (by kernel_rfl) fun x hp => ⟨_, _, (ItsOk.nil _ _), LpsOk.nil, compare_fn x (fun y => y = compare x) hp rfl⟩
def sp_compare : List (Nat × Ev.Spec) := (47, fnSpec compare_S) :: sp_isnan
theorem sp_compare_ok : SpecsOk Try.prog sp_compare := SpecsOk.cons (Enters.of (fn := Try.f47) (by kernel_rfl) (by kernel_rfl) (by kernel_rfl)) compare_ok sp_isnan_ok
noncomputable def dot (x : ((Int × Int) × (Int × Int))) : Int :=
 (w64 ((w64 (x.1.1 * x.2.1)) + (w64 (x.1.2 * x.2.2))))
noncomputable def dot_pre (_ : ((Int × Int) × (Int × Int))) : Prop := True
theorem dot_vc (x : ((Int × Int) × (Int × Int))) (Q : Int → Prop) : fnE ⟨tt, sp_compare, noX, [], [], []⟩ Try.f40 (argsE (.pair (.agg (Ty.prod (Ty.int IntKind.i64) (Ty.int IntKind.i64))) (.agg (Ty.prod (Ty.int IntKind.i64) (Ty.int IntKind.i64)))) x) (heapE (.pair (.agg (Ty.prod (Ty.int IntKind.i64) (Ty.int IntKind.i64))) (.agg (Ty.prod (Ty.int IntKind.i64) (Ty.int IntKind.i64)))) x) (retE (.one (Ty.int IntKind.i64)) Q) =
 (Q (w64 ((w64 (x.1.1 * x.2.1)) + (w64 (x.1.2 * x.2.2))))) := by kernel_rfl
theorem dot_fn (x : ((Int × Int) × (Int × Int))) (Q : Int → Prop) (hp : dot_pre x) (hq : Q (dot x)) : Vc (fnE ⟨tt, sp_compare, noX, [], [], []⟩ Try.f40 (argsE (.pair (.agg (Ty.prod (Ty.int IntKind.i64) (Ty.int IntKind.i64))) (.agg (Ty.prod (Ty.int IntKind.i64) (Ty.int IntKind.i64)))) x) (heapE (.pair (.agg (Ty.prod (Ty.int IntKind.i64) (Ty.int IntKind.i64))) (.agg (Ty.prod (Ty.int IntKind.i64) (Ty.int IntKind.i64)))) x) (retE (.one (Ty.int IntKind.i64)) Q)) := .eq (dot_vc x Q) (have hp := Eq.mp (dot_pre.eq_1 x) hp; have hq := Eq.mp (congrArg Q (dot.eq_1 x)) hq;
 hq)
noncomputable def dot_S : FnS := ⟨(.pair (.agg (Ty.prod (Ty.int IntKind.i64) (Ty.int IntKind.i64))) (.agg (Ty.prod (Ty.int IntKind.i64) (Ty.int IntKind.i64)))), (.one (Ty.int IntKind.i64)), dot_pre, dot⟩
theorem dot_ok : SpecOk Try.prog 40 (fnSpec dot_S) := SpecOk.fnT' (fn := Try.f40) tt_ok sp_compare_ok mixed (by kernel_rfl) (by kernel_rfl) (.pair (.agg (Ty.prod (Ty.int IntKind.i64) (Ty.int IntKind.i64))) (.agg (Ty.prod (Ty.int IntKind.i64) (Ty.int IntKind.i64)))) (.one (Ty.int IntKind.i64)) dot_pre dot (by kernel_rfl) fun x hp => ⟨_, _, (ItsOk.nil _ _), LpsOk.nil, dot_fn x (fun y => y = dot x) hp rfl⟩
def sp_dot : List (Nat × Ev.Spec) := (40, fnSpec dot_S) :: sp_compare
theorem sp_dot_ok : SpecsOk Try.prog sp_dot := SpecsOk.cons (Enters.of (fn := Try.f40) (by kernel_rfl) (by kernel_rfl) (by kernel_rfl)) dot_ok sp_compare_ok
noncomputable def near_l0_tm (x : (List Int)) (s : Int) : AS := ⟨[D, D, D, D, D, .v (.one (.full 0)), vi (((List.length x) : Nat) : Int), vi s, D, D, D, D, D, D, D, D, D, D], [.row (Ty.int IntKind.i64) x 0]⟩
noncomputable def near_l0_out (x : (List Int)) (r : (Unit ⊕ Unit)) (K : Exit → AS → Prop) : Prop := cS r (fun a0 => K .ret ⟨[D, D, vb false, D, D, D, D, D, D, D, D, D, D, D, D, D, D, D], []⟩) (fun b0 => K .normal ⟨[D, D, D, D, D, D, D, D, D, D, D, D, D, D, D, D, D, D], []⟩)
noncomputable def near_l0_step (x : (List Int)) (s : Int) : Int ⊕ (Unit ⊕ Unit) :=
 (if (s < (((List.length x) : Nat) : Int)) then
 (if ((List.getD x (Int.toNat s) (0 : Int)) < (-1048576 : Int)) then
 (Sum.inr (Sum.inl ())) else
 (if ((List.getD x (Int.toNat s) (0 : Int)) > (1048576 : Int)) then
 (Sum.inr (Sum.inl ())) else
 (Sum.inl (w64 (s + (1 : Int)))))) else
 (Sum.inr (Sum.inr (()))))
noncomputable def near_l0_pre (x : (List Int)) (s : Int) : Prop :=
 ((s < (((List.length x) : Nat) : Int)) →
 ((((0 : Int) ≤ s) ∧ (s < (((List.length x) : Nat) : Int))) ∧
 (((Int.toNat s) < (List.length x)) ∧
 ((Int.toNat s) < (List.length x)))))
noncomputable def near_l0_sp (x : (List Int)) : LSpec := loopSp (near_l0_tm x) (near_l0_step x) (near_l0_pre x) (near_l0_out x)
theorem near_l0_vc (x : (List Int)) (s : Int) (K : Exit → AS → Prop) (KN : AS → Prop) : codeE ⟨tt, sp_dot, noX, [], [], []⟩ (cI (blk 0 (bodyOf Try.f72))) (near_l0_tm x s) (KB 0 K KN) =
 (cB (decide (s < (((List.length x) : Nat) : Int)))
 (ob ((decide ((0 : Int) ≤ s)) && (decide (s < (((List.length x) : Nat) : Int))))
 (ob (decide ((Int.toNat s) < (List.length x)))
 (ob (decide ((Int.toNat s) < (List.length x)))
 (cB (decide ((List.getD x (Int.toNat s) (0 : Int)) < (-1048576 : Int)))
 (KB 0 K KN .ret ⟨[D, D, vb false, D, vi (List.getD x (Int.toNat s) (0 : Int)), .v (.one (.full 0)), vi (((List.length x) : Nat) : Int), vi s, vb (decide (s < (((List.length x) : Nat) : Int))), .v (.one (.eptr 0 (Int.toNat s) 0)), vi (List.getD x (Int.toNat s) (0 : Int)), vi (List.getD x (Int.toNat s) (0 : Int)), vb (decide ((List.getD x (Int.toNat s) (0 : Int)) < (-1048576 : Int))), vb true, und, und, vb true, D], [.row (Ty.int IntKind.i64) x 0]⟩)
 (cB (decide ((List.getD x (Int.toNat s) (0 : Int)) > (1048576 : Int)))
 (KB 0 K KN .ret ⟨[D, D, vb false, D, vi (List.getD x (Int.toNat s) (0 : Int)), .v (.one (.full 0)), vi (((List.length x) : Nat) : Int), vi s, vb (decide (s < (((List.length x) : Nat) : Int))), .v (.one (.eptr 0 (Int.toNat s) 0)), vi (List.getD x (Int.toNat s) (0 : Int)), vi (List.getD x (Int.toNat s) (0 : Int)), vb (decide ((List.getD x (Int.toNat s) (0 : Int)) < (-1048576 : Int))), vb false, vi (List.getD x (Int.toNat s) (0 : Int)), vb (decide ((List.getD x (Int.toNat s) (0 : Int)) > (1048576 : Int))), vb (decide ((List.getD x (Int.toNat s) (0 : Int)) > (1048576 : Int))), D], [.row (Ty.int IntKind.i64) x 0]⟩)
 (KB 0 K KN .normal ⟨[D, D, D, D, vi (List.getD x (Int.toNat s) (0 : Int)), .v (.one (.full 0)), vi (((List.length x) : Nat) : Int), vi (w64 (s + (1 : Int))), vb (decide (s < (((List.length x) : Nat) : Int))), .v (.one (.eptr 0 (Int.toNat s) 0)), vi (List.getD x (Int.toNat s) (0 : Int)), vi (List.getD x (Int.toNat s) (0 : Int)), vb (decide ((List.getD x (Int.toNat s) (0 : Int)) < (-1048576 : Int))), vb false, vi (List.getD x (Int.toNat s) (0 : Int)), vb (decide ((List.getD x (Int.toNat s) (0 : Int)) > (1048576 : Int))), vb (decide ((List.getD x (Int.toNat s) (0 : Int)) > (1048576 : Int))), vi (w64 (s + (1 : Int)))], [.row (Ty.int IntKind.i64) x 0]⟩))))))
 (KB 0 K KN (.exit 0) ⟨[D, D, D, D, D, .v (.one (.full 0)), vi (((List.length x) : Nat) : Int), vi s, vb (decide (s < (((List.length x) : Nat) : Int))), D, D, D, D, D, D, D, D, D], [.row (Ty.int IntKind.i64) x 0]⟩)) := by kernel_rfl
theorem near_l0_ok (x : (List Int)) : ∀ st K, near_l0_sp x st K → Vc (codeE ⟨tt, sp_dot, noX, [], [], []⟩ (.loop (cI (blk 0 (bodyOf Try.f72)))) st (wrapB 0 (orWeak K))) := loopSp_okV fun s K KN hp hq => .eq (near_l0_vc x s K KN) (have hp := Eq.mp (near_l0_pre.eq_1 x s) hp; have hq := Eq.mp (congrArg (stepQ (near_l0_tm x) (near_l0_out x) K KN) (near_l0_step.eq_1 x s)) hq;
 (cB_d (Q := (stepQ (near_l0_tm x) (near_l0_out x) K KN)) hq (fun c hq => have hp := (hp c); (ob_k (and_t (decide_eq_true hp.1.1) (decide_eq_true hp.1.2)) (have hp := hp.2; (ob_k (decide_eq_true hp.1) (have hp := hp.2; (ob_k (decide_eq_true hp) (cB_d (Q := (stepQ (near_l0_tm x) (near_l0_out x) K KN)) hq (fun c hq => (Exists.intro ⟨[D, D, vb false, D, D, D, D, D, D, D, D, D, D, D, D, D, D, D], []⟩ (And.intro (ren_ok (π := []) (And.intro rfl trivial) trivial rfl) hq))) (fun c hq => (cB_d (Q := (stepQ (near_l0_tm x) (near_l0_out x) K KN)) hq (fun c hq => (Exists.intro ⟨[D, D, vb false, D, D, D, D, D, D, D, D, D, D, D, D, D, D, D], []⟩ (And.intro (ren_ok (π := []) (And.intro rfl trivial) trivial rfl) hq))) (fun c hq => (Exists.intro (near_l0_tm x (w64 (s + (1 : Int)))) (And.intro (ren_ok (π := [.same 0]) (And.intro rfl (And.intro rfl (And.intro rfl trivial))) (And.intro (ren_same rfl rfl) trivial) rfl) hq)))))))))))) (fun c hq => (Exists.intro ⟨[D, D, D, D, D, D, D, D, D, D, D, D, D, D, D, D, D, D], []⟩ (And.intro (ren_ok (π := []) trivial trivial rfl) hq)))))
noncomputable def near (x : (List Int)) : Bool :=
 (letV (run (near_l0_step x) (0 : Int)) fun r =>
 (Sum.elim (fun a =>
 false) (fun b =>
 true) r))
noncomputable def near_pre (x : (List Int)) : Prop :=
 (Term (near_l0_step x) (near_l0_pre x) (0 : Int))
theorem near_vc (x : (List Int)) (Q : Bool → Prop) : fnE ⟨tt, sp_dot, noX, [(0, near_l0_sp x)], [], []⟩ Try.f72 (argsE (.one (Ty.sl (Ty.int IntKind.i64))) x) (heapE (.one (Ty.sl (Ty.int IntKind.i64))) x) (retE (.one Ty.bool) Q) =
 (Exists fun s0 : Int => Weak ⟨[.v (.one (.full 0)), und, vb false, und, und, .v (.one (.full 0)), vi (((List.length x) : Nat) : Int), vi (0 : Int), und, und, und, und, und, und, und, und, und, und], [.row (Ty.int IntKind.i64) x 0]⟩ (near_l0_tm x s0) ∧ Term (near_l0_step x) (near_l0_pre x) s0 ∧ ∀ r : (Unit ⊕ Unit), r = run (near_l0_step x) s0 →
 (cS r (fun a =>
 (Q false)) (fun b =>
 (Q true)))) := by kernel_rfl
theorem near_fn (x : (List Int)) (Q : Bool → Prop) (hp : near_pre x) (hq : Q (near x)) : Vc (fnE ⟨tt, sp_dot, noX, [(0, near_l0_sp x)], [], []⟩ Try.f72 (argsE (.one (Ty.sl (Ty.int IntKind.i64))) x) (heapE (.one (Ty.sl (Ty.int IntKind.i64))) x) (retE (.one Ty.bool) Q)) := .eq (near_vc x Q) (have hp := Eq.mp (near_pre.eq_1 x) hp; have hq := Eq.mp (congrArg Q (near.eq_1 x)) hq;
 (Exists.intro (0 : Int) (And.intro (ren_ok (π := [.same 0]) (And.intro rfl (And.intro rfl (And.intro rfl trivial))) (And.intro (ren_same rfl rfl) trivial) rfl) (And.intro hp (let_0 (Q := Q) hq fun r hq => (cS_k (Q := Q) (P := fun _ => True) (P' := fun _ => True) (by cases r <;> trivial) hq (fun a _ hq => hq) (fun b _ hq => hq)))))))
noncomputable def near_S : FnS := ⟨(.one (Ty.sl (Ty.int IntKind.i64))), (.one Ty.bool), near_pre, near⟩
theorem near_ok : SpecOk Try.prog 72 (fnSpec near_S) := SpecOk.fnT' (fn := Try.f72) tt_ok sp_dot_ok mixed (by kernel_rfl) (by kernel_rfl) (.one (Ty.sl (Ty.int IntKind.i64))) (.one Ty.bool) near_pre near (by kernel_rfl) fun x hp => ⟨_, _, (ItsOk.nil _ _), (LpsOk.consV tt_ok (SpecsOk.ctxI sp_dot_ok (ItsOk.nil _ _)) mixed LpsOk.nil (by kernel_rfl) (by kernel_rfl) (near_l0_ok x)), near_fn x (fun y => y = near x) hp rfl⟩
def sp_near : List (Nat × Ev.Spec) := (72, fnSpec near_S) :: sp_dot
theorem sp_near_ok : SpecsOk Try.prog sp_near := SpecsOk.cons (Enters.of (fn := Try.f72) (by kernel_rfl) (by kernel_rfl) (by kernel_rfl)) near_ok sp_dot_ok
noncomputable def within_l0_tm (x : (Int × (List Int))) (s : Int) : AS := ⟨[vi x.1, D, D, D, D, D, D, .v (.one (.full 0)), vi (((List.length x.2) : Nat) : Int), vi s, D, D, D, D, D, D, D, D, D, D, D, D, D], [.row (Ty.int IntKind.i64) x.2 0]⟩
noncomputable def within_l0_out (x : (Int × (List Int))) (r : (Unit ⊕ Unit)) (K : Exit → AS → Prop) : Prop := cS r (fun a0 => K .ret ⟨[D, D, D, D, vb false, D, D, D, D, D, D, D, D, D, D, D, D, D, D, D, D, D, D], []⟩) (fun b0 => K .normal ⟨[D, D, D, D, D, D, D, D, D, D, D, D, D, D, D, D, D, D, D, D, D, D, D], []⟩)
noncomputable def within_l0_step (x : (Int × (List Int))) (s : Int) : Int ⊕ (Unit ⊕ Unit) :=
 (if (s < (((List.length x.2) : Nat) : Int)) then
 (if ((List.getD x.2 (Int.toNat s) (0 : Int)) < (w64 ((0 : Int) - x.1))) then
 (Sum.inr (Sum.inl ())) else
 (if ((List.getD x.2 (Int.toNat s) (0 : Int)) > x.1) then
 (Sum.inr (Sum.inl ())) else
 (Sum.inl (w64 (s + (1 : Int)))))) else
 (Sum.inr (Sum.inr (()))))
noncomputable def within_l0_pre (x : (Int × (List Int))) (s : Int) : Prop :=
 ((s < (((List.length x.2) : Nat) : Int)) →
 ((((0 : Int) ≤ s) ∧ (s < (((List.length x.2) : Nat) : Int))) ∧
 (((Int.toNat s) < (List.length x.2)) ∧
 ((Int.toNat s) < (List.length x.2)))))
noncomputable def within_l0_sp (x : (Int × (List Int))) : LSpec := loopSp (within_l0_tm x) (within_l0_step x) (within_l0_pre x) (within_l0_out x)
theorem within_l0_vc (x : (Int × (List Int))) (s : Int) (K : Exit → AS → Prop) (KN : AS → Prop) : codeE ⟨tt, sp_near, noX, [], [], []⟩ (cI (blk 0 (bodyOf Try.f24))) (within_l0_tm x s) (KB 0 K KN) =
 (cB (decide (s < (((List.length x.2) : Nat) : Int)))
 (ob ((decide ((0 : Int) ≤ s)) && (decide (s < (((List.length x.2) : Nat) : Int))))
 (ob (decide ((Int.toNat s) < (List.length x.2)))
 (ob (decide ((Int.toNat s) < (List.length x.2)))
 (cB (decide ((List.getD x.2 (Int.toNat s) (0 : Int)) < (w64 ((0 : Int) - x.1))))
 (KB 0 K KN .ret ⟨[vi x.1, D, D, D, vb false, D, vi (List.getD x.2 (Int.toNat s) (0 : Int)), .v (.one (.full 0)), vi (((List.length x.2) : Nat) : Int), vi s, vb (decide (s < (((List.length x.2) : Nat) : Int))), .v (.one (.eptr 0 (Int.toNat s) 0)), vi (List.getD x.2 (Int.toNat s) (0 : Int)), vi (List.getD x.2 (Int.toNat s) (0 : Int)), vi x.1, vi (w64 ((0 : Int) - x.1)), vb (decide ((List.getD x.2 (Int.toNat s) (0 : Int)) < (w64 ((0 : Int) - x.1)))), vb true, und, und, und, vb true, D], [.row (Ty.int IntKind.i64) x.2 0]⟩)
 (cB (decide ((List.getD x.2 (Int.toNat s) (0 : Int)) > x.1))
 (KB 0 K KN .ret ⟨[vi x.1, D, D, D, vb false, D, vi (List.getD x.2 (Int.toNat s) (0 : Int)), .v (.one (.full 0)), vi (((List.length x.2) : Nat) : Int), vi s, vb (decide (s < (((List.length x.2) : Nat) : Int))), .v (.one (.eptr 0 (Int.toNat s) 0)), vi (List.getD x.2 (Int.toNat s) (0 : Int)), vi (List.getD x.2 (Int.toNat s) (0 : Int)), vi x.1, vi (w64 ((0 : Int) - x.1)), vb (decide ((List.getD x.2 (Int.toNat s) (0 : Int)) < (w64 ((0 : Int) - x.1)))), vb false, vi (List.getD x.2 (Int.toNat s) (0 : Int)), vi x.1, vb (decide ((List.getD x.2 (Int.toNat s) (0 : Int)) > x.1)), vb (decide ((List.getD x.2 (Int.toNat s) (0 : Int)) > x.1)), D], [.row (Ty.int IntKind.i64) x.2 0]⟩)
 (KB 0 K KN .normal ⟨[vi x.1, D, D, D, D, D, vi (List.getD x.2 (Int.toNat s) (0 : Int)), .v (.one (.full 0)), vi (((List.length x.2) : Nat) : Int), vi (w64 (s + (1 : Int))), vb (decide (s < (((List.length x.2) : Nat) : Int))), .v (.one (.eptr 0 (Int.toNat s) 0)), vi (List.getD x.2 (Int.toNat s) (0 : Int)), vi (List.getD x.2 (Int.toNat s) (0 : Int)), vi x.1, vi (w64 ((0 : Int) - x.1)), vb (decide ((List.getD x.2 (Int.toNat s) (0 : Int)) < (w64 ((0 : Int) - x.1)))), vb false, vi (List.getD x.2 (Int.toNat s) (0 : Int)), vi x.1, vb (decide ((List.getD x.2 (Int.toNat s) (0 : Int)) > x.1)), vb (decide ((List.getD x.2 (Int.toNat s) (0 : Int)) > x.1)), vi (w64 (s + (1 : Int)))], [.row (Ty.int IntKind.i64) x.2 0]⟩))))))
 (KB 0 K KN (.exit 0) ⟨[vi x.1, D, D, D, D, D, D, .v (.one (.full 0)), vi (((List.length x.2) : Nat) : Int), vi s, vb (decide (s < (((List.length x.2) : Nat) : Int))), D, D, D, D, D, D, D, D, D, D, D, D], [.row (Ty.int IntKind.i64) x.2 0]⟩)) := by kernel_rfl
theorem within_l0_ok (x : (Int × (List Int))) : ∀ st K, within_l0_sp x st K → Vc (codeE ⟨tt, sp_near, noX, [], [], []⟩ (.loop (cI (blk 0 (bodyOf Try.f24)))) st (wrapB 0 (orWeak K))) := loopSp_okV fun s K KN hp hq => .eq (within_l0_vc x s K KN) (have hp := Eq.mp (within_l0_pre.eq_1 x s) hp; have hq := Eq.mp (congrArg (stepQ (within_l0_tm x) (within_l0_out x) K KN) (within_l0_step.eq_1 x s)) hq;
 (cB_d (Q := (stepQ (within_l0_tm x) (within_l0_out x) K KN)) hq (fun c hq => have hp := (hp c); (ob_k (and_t (decide_eq_true hp.1.1) (decide_eq_true hp.1.2)) (have hp := hp.2; (ob_k (decide_eq_true hp.1) (have hp := hp.2; (ob_k (decide_eq_true hp) (cB_d (Q := (stepQ (within_l0_tm x) (within_l0_out x) K KN)) hq (fun c hq => (Exists.intro ⟨[D, D, D, D, vb false, D, D, D, D, D, D, D, D, D, D, D, D, D, D, D, D, D, D], []⟩ (And.intro (ren_ok (π := []) (And.intro rfl trivial) trivial rfl) hq))) (fun c hq => (cB_d (Q := (stepQ (within_l0_tm x) (within_l0_out x) K KN)) hq (fun c hq => (Exists.intro ⟨[D, D, D, D, vb false, D, D, D, D, D, D, D, D, D, D, D, D, D, D, D, D, D, D], []⟩ (And.intro (ren_ok (π := []) (And.intro rfl trivial) trivial rfl) hq))) (fun c hq => (Exists.intro (within_l0_tm x (w64 (s + (1 : Int)))) (And.intro (ren_ok (π := [.same 0]) (And.intro rfl (And.intro rfl (And.intro rfl (And.intro rfl trivial)))) (And.intro (ren_same rfl rfl) trivial) rfl) hq)))))))))))) (fun c hq => (Exists.intro ⟨[D, D, D, D, D, D, D, D, D, D, D, D, D, D, D, D, D, D, D, D, D, D, D], []⟩ (And.intro (ren_ok (π := []) trivial trivial rfl) hq)))))
noncomputable def within (x : (Int × (List Int))) : Bool :=
 (letV (run (within_l0_step x) (0 : Int)) fun r =>
 (Sum.elim (fun a =>
 false) (fun b =>
 true) r))
noncomputable def within_pre (x : (Int × (List Int))) : Prop :=
 (Term (within_l0_step x) (within_l0_pre x) (0 : Int))
theorem within_vc (x : (Int × (List Int))) (Q : Bool → Prop) : fnE ⟨tt, sp_near, noX, [(0, within_l0_sp x)], [], []⟩ Try.f24 (argsE (.pair (.one (Ty.int IntKind.i64)) (.one (Ty.sl (Ty.int IntKind.i64)))) x) (heapE (.pair (.one (Ty.int IntKind.i64)) (.one (Ty.sl (Ty.int IntKind.i64)))) x) (retE (.one Ty.bool) Q) =
 (Exists fun s0 : Int => Weak ⟨[vi x.1, .v (.one (.full 0)), und, und, vb false, und, und, .v (.one (.full 0)), vi (((List.length x.2) : Nat) : Int), vi (0 : Int), und, und, und, und, und, und, und, und, und, und, und, und, und], [.row (Ty.int IntKind.i64) x.2 0]⟩ (within_l0_tm x s0) ∧ Term (within_l0_step x) (within_l0_pre x) s0 ∧ ∀ r : (Unit ⊕ Unit), r = run (within_l0_step x) s0 →
 (cS r (fun a =>
 (Q false)) (fun b =>
 (Q true)))) := by kernel_rfl
theorem within_fn (x : (Int × (List Int))) (Q : Bool → Prop) (hp : within_pre x) (hq : Q (within x)) : Vc (fnE ⟨tt, sp_near, noX, [(0, within_l0_sp x)], [], []⟩ Try.f24 (argsE (.pair (.one (Ty.int IntKind.i64)) (.one (Ty.sl (Ty.int IntKind.i64)))) x) (heapE (.pair (.one (Ty.int IntKind.i64)) (.one (Ty.sl (Ty.int IntKind.i64)))) x) (retE (.one Ty.bool) Q)) := .eq (within_vc x Q) (have hp := Eq.mp (within_pre.eq_1 x) hp; have hq := Eq.mp (congrArg Q (within.eq_1 x)) hq;
 (Exists.intro (0 : Int) (And.intro (ren_ok (π := [.same 0]) (And.intro rfl (And.intro rfl (And.intro rfl (And.intro rfl trivial)))) (And.intro (ren_same rfl rfl) trivial) rfl) (And.intro hp (let_0 (Q := Q) hq fun r hq => (cS_k (Q := Q) (P := fun _ => True) (P' := fun _ => True) (by cases r <;> trivial) hq (fun a _ hq => hq) (fun b _ hq => hq)))))))
noncomputable def within_S : FnS := ⟨(.pair (.one (Ty.int IntKind.i64)) (.one (Ty.sl (Ty.int IntKind.i64)))), (.one Ty.bool), within_pre, within⟩
theorem within_ok : SpecOk Try.prog 24 (fnSpec within_S) := SpecOk.fnT' (fn := Try.f24) tt_ok sp_near_ok mixed (by kernel_rfl) (by kernel_rfl) (.pair (.one (Ty.int IntKind.i64)) (.one (Ty.sl (Ty.int IntKind.i64)))) (.one Ty.bool) within_pre within (by kernel_rfl) fun x hp => ⟨_, _, (ItsOk.nil _ _), (LpsOk.consV tt_ok (SpecsOk.ctxI sp_near_ok (ItsOk.nil _ _)) mixed LpsOk.nil (by kernel_rfl) (by kernel_rfl) (within_l0_ok x)), within_fn x (fun y => y = within x) hp rfl⟩
def sp_within : List (Nat × Ev.Spec) := (24, fnSpec within_S) :: sp_near
theorem sp_within_ok : SpecsOk Try.prog sp_within := SpecsOk.cons (Enters.of (fn := Try.f24) (by kernel_rfl) (by kernel_rfl) (by kernel_rfl)) within_ok sp_near_ok
noncomputable def is2_l0_tm (x : (List (Int × Int))) (s : Int) : AS := ⟨[D, D, D, D, D, .v (.one (.full 0)), vi (((List.length x) : Nat) : Int), vi s, D, D, D, D, D, D, D, D, D, D, D], [.row (Ty.prod (Ty.int IntKind.i64) (Ty.int IntKind.i64)) x 0]⟩
noncomputable def is2_l0_out (x : (List (Int × Int))) (r : (Unit ⊕ Unit)) (K : Exit → AS → Prop) : Prop := cS r (fun a0 => K .ret ⟨[D, D, vb false, D, D, D, D, D, D, D, D, D, D, D, D, D, D, D, D], []⟩) (fun b0 => K .normal ⟨[D, D, D, D, D, D, D, D, D, D, D, D, D, D, D, D, D, D, D], []⟩)
noncomputable def is2_l0_step (x : (List (Int × Int))) (s : Int) : Int ⊕ (Unit ⊕ Unit) :=
 (if (s < (((List.length x) : Nat) : Int)) then
 (letV (near [(List.getD x (Int.toNat s) ((0 : Int), (0 : Int))).1, (List.getD x (Int.toNat s) ((0 : Int), (0 : Int))).2]) fun y =>
 (if ((!y) = true) then
 (Sum.inr (Sum.inl ())) else
 (Sum.inl (w64 (s + (1 : Int)))))) else
 (Sum.inr (Sum.inr (()))))
noncomputable def is2_l0_pre (x : (List (Int × Int))) (s : Int) : Prop :=
 ((s < (((List.length x) : Nat) : Int)) →
 ((((0 : Int) ≤ s) ∧ (s < (((List.length x) : Nat) : Int))) ∧
 (((Int.toNat s) < (List.length x)) ∧
 (((Int.toNat s) < (List.length x)) ∧
 (near_pre [(List.getD x (Int.toNat s) ((0 : Int), (0 : Int))).1, (List.getD x (Int.toNat s) ((0 : Int), (0 : Int))).2])))))
noncomputable def is2_l0_sp (x : (List (Int × Int))) : LSpec := loopSp (is2_l0_tm x) (is2_l0_step x) (is2_l0_pre x) (is2_l0_out x)
theorem is2_l0_vc (x : (List (Int × Int))) (s : Int) (K : Exit → AS → Prop) (KN : AS → Prop) : codeE ⟨tt, sp_within, noX, [], [], []⟩ (cI (blk 0 (bodyOf Try.f61))) (is2_l0_tm x s) (KB 0 K KN) =
 (cB (decide (s < (((List.length x) : Nat) : Int)))
 (ob ((decide ((0 : Int) ≤ s)) && (decide (s < (((List.length x) : Nat) : Int))))
 (ob (decide ((Int.toNat s) < (List.length x)))
 (ob (decide ((Int.toNat s) < (List.length x)))
 ((near_pre [(List.getD x (Int.toNat s) ((0 : Int), (0 : Int))).1, (List.getD x (Int.toNat s) ((0 : Int), (0 : Int))).2]) ∧ ∀ y : Bool, y = (near [(List.getD x (Int.toNat s) ((0 : Int), (0 : Int))).1, (List.getD x (Int.toNat s) ((0 : Int), (0 : Int))).2]) →
 (cB (!y)
 (KB 0 K KN .ret ⟨[D, D, vb false, D, .v (.one (.ptr 1 0)), .v (.one (.full 0)), vi (((List.length x) : Nat) : Int), vi s, vb (decide (s < (((List.length x) : Nat) : Int))), .v (.one (.eptr 0 (Int.toNat s) 0)), .v (.agg [ci (List.getD x (Int.toNat s) ((0 : Int), (0 : Int))).1, ci (List.getD x (Int.toNat s) ((0 : Int), (0 : Int))).2]), .v (.one (.ptr 1 0)), vi (List.getD x (Int.toNat s) ((0 : Int), (0 : Int))).1, .v (.one (.ptr 1 1)), vi (List.getD x (Int.toNat s) ((0 : Int), (0 : Int))).2, .v (.one (.sl 2 0 2 2)), vb y, vb (!y), D], [.row (Ty.prod (Ty.int IntKind.i64) (Ty.int IntKind.i64)) x 0, .cells [ci (List.getD x (Int.toNat s) ((0 : Int), (0 : Int))).1, ci (List.getD x (Int.toNat s) ((0 : Int), (0 : Int))).2] 23, .cells [ci (List.getD x (Int.toNat s) ((0 : Int), (0 : Int))).1, ci (List.getD x (Int.toNat s) ((0 : Int), (0 : Int))).2] 3]⟩)
 (KB 0 K KN .normal ⟨[D, D, D, D, .v (.one (.ptr 1 0)), .v (.one (.full 0)), vi (((List.length x) : Nat) : Int), vi (w64 (s + (1 : Int))), vb (decide (s < (((List.length x) : Nat) : Int))), .v (.one (.eptr 0 (Int.toNat s) 0)), .v (.agg [ci (List.getD x (Int.toNat s) ((0 : Int), (0 : Int))).1, ci (List.getD x (Int.toNat s) ((0 : Int), (0 : Int))).2]), .v (.one (.ptr 1 0)), vi (List.getD x (Int.toNat s) ((0 : Int), (0 : Int))).1, .v (.one (.ptr 1 1)), vi (List.getD x (Int.toNat s) ((0 : Int), (0 : Int))).2, .v (.one (.sl 2 0 2 2)), vb y, vb (!y), vi (w64 (s + (1 : Int)))], [.row (Ty.prod (Ty.int IntKind.i64) (Ty.int IntKind.i64)) x 0, .cells [ci (List.getD x (Int.toNat s) ((0 : Int), (0 : Int))).1, ci (List.getD x (Int.toNat s) ((0 : Int), (0 : Int))).2] 23, .cells [ci (List.getD x (Int.toNat s) ((0 : Int), (0 : Int))).1, ci (List.getD x (Int.toNat s) ((0 : Int), (0 : Int))).2] 3]⟩))))))
 (KB 0 K KN (.exit 0) ⟨[D, D, D, D, D, .v (.one (.full 0)), vi (((List.length x) : Nat) : Int), vi s, vb (decide (s < (((List.length x) : Nat) : Int))), D, D, D, D, D, D, D, D, D, D], [.row (Ty.prod (Ty.int IntKind.i64) (Ty.int IntKind.i64)) x 0]⟩)) := by kernel_rfl
theorem is2_l0_ok (x : (List (Int × Int))) : ∀ st K, is2_l0_sp x st K → Vc (codeE ⟨tt, sp_within, noX, [], [], []⟩ (.loop (cI (blk 0 (bodyOf Try.f61)))) st (wrapB 0 (orWeak K))) := loopSp_okV fun s K KN hp hq => .eq (is2_l0_vc x s K KN) (have hp := Eq.mp (is2_l0_pre.eq_1 x s) hp; have hq := Eq.mp (congrArg (stepQ (is2_l0_tm x) (is2_l0_out x) K KN) (is2_l0_step.eq_1 x s)) hq;
 (cB_d (Q := (stepQ (is2_l0_tm x) (is2_l0_out x) K KN)) hq (fun c hq => have hp := (hp c); (ob_k (and_t (decide_eq_true hp.1.1) (decide_eq_true hp.1.2)) (have hp := hp.2; (ob_k (decide_eq_true hp.1) (have hp := hp.2; (ob_k (decide_eq_true hp.1) (have hp := hp.2; (And.intro hp (let_0 (Q := (stepQ (is2_l0_tm x) (is2_l0_out x) K KN)) hq fun y hq => (cB_b (Q := (stepQ (is2_l0_tm x) (is2_l0_out x) K KN)) hq (fun c hq => (Exists.intro ⟨[D, D, vb false, D, D, D, D, D, D, D, D, D, D, D, D, D, D, D, D], []⟩ (And.intro (ren_ok (π := []) (And.intro rfl trivial) trivial rfl) hq))) (fun c hq => (Exists.intro (is2_l0_tm x (w64 (s + (1 : Int)))) (And.intro (ren_ok (π := [.same 0]) (And.intro rfl (And.intro rfl (And.intro rfl trivial))) (And.intro (ren_same rfl rfl) trivial) rfl) hq))))))))))))) (fun c hq => (Exists.intro ⟨[D, D, D, D, D, D, D, D, D, D, D, D, D, D, D, D, D, D, D], []⟩ (And.intro (ren_ok (π := []) trivial trivial rfl) hq)))))
noncomputable def is2 (x : (List (Int × Int))) : Bool :=
 (letV (run (is2_l0_step x) (0 : Int)) fun r =>
 (Sum.elim (fun a =>
 false) (fun b =>
 true) r))
noncomputable def is2_pre (x : (List (Int × Int))) : Prop :=
 (Term (is2_l0_step x) (is2_l0_pre x) (0 : Int))
theorem is2_vc (x : (List (Int × Int))) (Q : Bool → Prop) : fnE ⟨tt, sp_within, noX, [(0, is2_l0_sp x)], [], []⟩ Try.f61 (argsE (.one (Ty.sl (Ty.prod (Ty.int IntKind.i64) (Ty.int IntKind.i64)))) x) (heapE (.one (Ty.sl (Ty.prod (Ty.int IntKind.i64) (Ty.int IntKind.i64)))) x) (retE (.one Ty.bool) Q) =
 (Exists fun s0 : Int => Weak ⟨[.v (.one (.full 0)), und, vb false, und, und, .v (.one (.full 0)), vi (((List.length x) : Nat) : Int), vi (0 : Int), und, und, und, und, und, und, und, und, und, und, und], [.row (Ty.prod (Ty.int IntKind.i64) (Ty.int IntKind.i64)) x 0]⟩ (is2_l0_tm x s0) ∧ Term (is2_l0_step x) (is2_l0_pre x) s0 ∧ ∀ r : (Unit ⊕ Unit), r = run (is2_l0_step x) s0 →
 (cS r (fun a =>
 (Q false)) (fun b =>
 (Q true)))) := by kernel_rfl
theorem is2_fn (x : (List (Int × Int))) (Q : Bool → Prop) (hp : is2_pre x) (hq : Q (is2 x)) : Vc (fnE ⟨tt, sp_within, noX, [(0, is2_l0_sp x)], [], []⟩ Try.f61 (argsE (.one (Ty.sl (Ty.prod (Ty.int IntKind.i64) (Ty.int IntKind.i64)))) x) (heapE (.one (Ty.sl (Ty.prod (Ty.int IntKind.i64) (Ty.int IntKind.i64)))) x) (retE (.one Ty.bool) Q)) := .eq (is2_vc x Q) (have hp := Eq.mp (is2_pre.eq_1 x) hp; have hq := Eq.mp (congrArg Q (is2.eq_1 x)) hq;
 (Exists.intro (0 : Int) (And.intro (ren_ok (π := [.same 0]) (And.intro rfl (And.intro rfl (And.intro rfl trivial))) (And.intro (ren_same rfl rfl) trivial) rfl) (And.intro hp (let_0 (Q := Q) hq fun r hq => (cS_k (Q := Q) (P := fun _ => True) (P' := fun _ => True) (by cases r <;> trivial) hq (fun a _ hq => hq) (fun b _ hq => hq)))))))
noncomputable def is2_S : FnS := ⟨(.one (Ty.sl (Ty.prod (Ty.int IntKind.i64) (Ty.int IntKind.i64)))), (.one Ty.bool), is2_pre, is2⟩
theorem is2_ok : SpecOk Try.prog 61 (fnSpec is2_S) := SpecOk.fnT' (fn := Try.f61) tt_ok sp_within_ok mixed (by kernel_rfl) (by kernel_rfl) (.one (Ty.sl (Ty.prod (Ty.int IntKind.i64) (Ty.int IntKind.i64)))) (.one Ty.bool) is2_pre is2 (by kernel_rfl) fun x hp => ⟨_, _, (ItsOk.nil _ _), (LpsOk.consV tt_ok (SpecsOk.ctxI sp_within_ok (ItsOk.nil _ _)) mixed LpsOk.nil (by kernel_rfl) (by kernel_rfl) (is2_l0_ok x)), is2_fn x (fun y => y = is2 x) hp rfl⟩
def sp_is2 : List (Nat × Ev.Spec) := (61, fnSpec is2_S) :: sp_within
theorem sp_is2_ok : SpecsOk Try.prog sp_is2 := SpecsOk.cons (Enters.of (fn := Try.f61) (by kernel_rfl) (by kernel_rfl) (by kernel_rfl)) is2_ok sp_within_ok
noncomputable def small2_l0_tm (x : (List (Int × Int))) (s : Int) : AS := ⟨[D, D, D, D, D, .v (.one (.full 0)), vi (((List.length x) : Nat) : Int), vi s, D, D, D, D, D, D, D, D, D, D, D], [.row (Ty.prod (Ty.int IntKind.i64) (Ty.int IntKind.i64)) x 0]⟩
noncomputable def small2_l0_out (x : (List (Int × Int))) (r : (Unit ⊕ Unit)) (K : Exit → AS → Prop) : Prop := cS r (fun a0 => K .ret ⟨[D, D, vb false, D, D, D, D, D, D, D, D, D, D, D, D, D, D, D, D], []⟩) (fun b0 => K .normal ⟨[D, D, D, D, D, D, D, D, D, D, D, D, D, D, D, D, D, D, D], []⟩)
noncomputable def small2_l0_step (x : (List (Int × Int))) (s : Int) : Int ⊕ (Unit ⊕ Unit) :=
 (if (s < (((List.length x) : Nat) : Int)) then
 (letV (within ((4096 : Int), [(List.getD x (Int.toNat s) ((0 : Int), (0 : Int))).1, (List.getD x (Int.toNat s) ((0 : Int), (0 : Int))).2])) fun y =>
 (if ((!y) = true) then
 (Sum.inr (Sum.inl ())) else
 (Sum.inl (w64 (s + (1 : Int)))))) else
 (Sum.inr (Sum.inr (()))))
noncomputable def small2_l0_pre (x : (List (Int × Int))) (s : Int) : Prop :=
 ((s < (((List.length x) : Nat) : Int)) →
 ((((0 : Int) ≤ s) ∧ (s < (((List.length x) : Nat) : Int))) ∧
 (((Int.toNat s) < (List.length x)) ∧
 (((Int.toNat s) < (List.length x)) ∧
 (within_pre ((4096 : Int), [(List.getD x (Int.toNat s) ((0 : Int), (0 : Int))).1, (List.getD x (Int.toNat s) ((0 : Int), (0 : Int))).2]))))))
noncomputable def small2_l0_sp (x : (List (Int × Int))) : LSpec := loopSp (small2_l0_tm x) (small2_l0_step x) (small2_l0_pre x) (small2_l0_out x)
theorem small2_l0_vc (x : (List (Int × Int))) (s : Int) (K : Exit → AS → Prop) (KN : AS → Prop) : codeE ⟨tt, sp_is2, noX, [], [], []⟩ (cI (blk 0 (bodyOf Try.f10))) (small2_l0_tm x s) (KB 0 K KN) =
 (cB (decide (s < (((List.length x) : Nat) : Int)))
 (ob ((decide ((0 : Int) ≤ s)) && (decide (s < (((List.length x) : Nat) : Int))))
 (ob (decide ((Int.toNat s) < (List.length x)))
 (ob (decide ((Int.toNat s) < (List.length x)))
 ((within_pre ((4096 : Int), [(List.getD x (Int.toNat s) ((0 : Int), (0 : Int))).1, (List.getD x (Int.toNat s) ((0 : Int), (0 : Int))).2])) ∧ ∀ y : Bool, y = (within ((4096 : Int), [(List.getD x (Int.toNat s) ((0 : Int), (0 : Int))).1, (List.getD x (Int.toNat s) ((0 : Int), (0 : Int))).2])) →
 (cB (!y)
 (KB 0 K KN .ret ⟨[D, D, vb false, D, .v (.one (.ptr 1 0)), .v (.one (.full 0)), vi (((List.length x) : Nat) : Int), vi s, vb (decide (s < (((List.length x) : Nat) : Int))), .v (.one (.eptr 0 (Int.toNat s) 0)), .v (.agg [ci (List.getD x (Int.toNat s) ((0 : Int), (0 : Int))).1, ci (List.getD x (Int.toNat s) ((0 : Int), (0 : Int))).2]), .v (.one (.ptr 1 0)), vi (List.getD x (Int.toNat s) ((0 : Int), (0 : Int))).1, .v (.one (.ptr 1 1)), vi (List.getD x (Int.toNat s) ((0 : Int), (0 : Int))).2, .v (.one (.sl 2 0 2 2)), vb y, vb (!y), D], [.row (Ty.prod (Ty.int IntKind.i64) (Ty.int IntKind.i64)) x 0, .cells [ci (List.getD x (Int.toNat s) ((0 : Int), (0 : Int))).1, ci (List.getD x (Int.toNat s) ((0 : Int), (0 : Int))).2] 23, .cells [ci (List.getD x (Int.toNat s) ((0 : Int), (0 : Int))).1, ci (List.getD x (Int.toNat s) ((0 : Int), (0 : Int))).2] 3]⟩)
 (KB 0 K KN .normal ⟨[D, D, D, D, .v (.one (.ptr 1 0)), .v (.one (.full 0)), vi (((List.length x) : Nat) : Int), vi (w64 (s + (1 : Int))), vb (decide (s < (((List.length x) : Nat) : Int))), .v (.one (.eptr 0 (Int.toNat s) 0)), .v (.agg [ci (List.getD x (Int.toNat s) ((0 : Int), (0 : Int))).1, ci (List.getD x (Int.toNat s) ((0 : Int), (0 : Int))).2]), .v (.one (.ptr 1 0)), vi (List.getD x (Int.toNat s) ((0 : Int), (0 : Int))).1, .v (.one (.ptr 1 1)), vi (List.getD x (Int.toNat s) ((0 : Int), (0 : Int))).2, .v (.one (.sl 2 0 2 2)), vb y, vb (!y), vi (w64 (s + (1 : Int)))], [.row (Ty.prod (Ty.int IntKind.i64) (Ty.int IntKind.i64)) x 0, .cells [ci (List.getD x (Int.toNat s) ((0 : Int), (0 : Int))).1, ci (List.getD x (Int.toNat s) ((0 : Int), (0 : Int))).2] 23, .cells [ci (List.getD x (Int.toNat s) ((0 : Int), (0 : Int))).1, ci (List.getD x (Int.toNat s) ((0 : Int), (0 : Int))).2] 3]⟩))))))
 (KB 0 K KN (.exit 0) ⟨[D, D, D, D, D, .v (.one (.full 0)), vi (((List.length x) : Nat) : Int), vi s, vb (decide (s < (((List.length x) : Nat) : Int))), D, D, D, D, D, D, D, D, D, D], [.row (Ty.prod (Ty.int IntKind.i64) (Ty.int IntKind.i64)) x 0]⟩)) := by kernel_rfl
theorem small2_l0_ok (x : (List (Int × Int))) : ∀ st K, small2_l0_sp x st K → Vc (codeE ⟨tt, sp_is2, noX, [], [], []⟩ (.loop (cI (blk 0 (bodyOf Try.f10)))) st (wrapB 0 (orWeak K))) := loopSp_okV fun s K KN hp hq => .eq (small2_l0_vc x s K KN) (have hp := Eq.mp (small2_l0_pre.eq_1 x s) hp; have hq := Eq.mp (congrArg (stepQ (small2_l0_tm x) (small2_l0_out x) K KN) (small2_l0_step.eq_1 x s)) hq;
 (cB_d (Q := (stepQ (small2_l0_tm x) (small2_l0_out x) K KN)) hq (fun c hq => have hp := (hp c); (ob_k (and_t (decide_eq_true hp.1.1) (decide_eq_true hp.1.2)) (have hp := hp.2; (ob_k (decide_eq_true hp.1) (have hp := hp.2; (ob_k (decide_eq_true hp.1) (have hp := hp.2; (And.intro hp (let_0 (Q := (stepQ (small2_l0_tm x) (small2_l0_out x) K KN)) hq fun y hq => (cB_b (Q := (stepQ (small2_l0_tm x) (small2_l0_out x) K KN)) hq (fun c hq => (Exists.intro ⟨[D, D, vb false, D, D, D, D, D, D, D, D, D, D, D, D, D, D, D, D], []⟩ (And.intro (ren_ok (π := []) (And.intro rfl trivial) trivial rfl) hq))) (fun c hq => (Exists.intro (small2_l0_tm x (w64 (s + (1 : Int)))) (And.intro (ren_ok (π := [.same 0]) (And.intro rfl (And.intro rfl (And.intro rfl trivial))) (And.intro (ren_same rfl rfl) trivial) rfl) hq))))))))))))) (fun c hq => (Exists.intro ⟨[D, D, D, D, D, D, D, D, D, D, D, D, D, D, D, D, D, D, D], []⟩ (And.intro (ren_ok (π := []) trivial trivial rfl) hq)))))
noncomputable def small2 (x : (List (Int × Int))) : Bool :=
 (letV (run (small2_l0_step x) (0 : Int)) fun r =>
 (Sum.elim (fun a =>
 false) (fun b =>
 true) r))
noncomputable def small2_pre (x : (List (Int × Int))) : Prop :=
 (Term (small2_l0_step x) (small2_l0_pre x) (0 : Int))
theorem small2_vc (x : (List (Int × Int))) (Q : Bool → Prop) : fnE ⟨tt, sp_is2, noX, [(0, small2_l0_sp x)], [], []⟩ Try.f10 (argsE (.one (Ty.sl (Ty.prod (Ty.int IntKind.i64) (Ty.int IntKind.i64)))) x) (heapE (.one (Ty.sl (Ty.prod (Ty.int IntKind.i64) (Ty.int IntKind.i64)))) x) (retE (.one Ty.bool) Q) =
 (Exists fun s0 : Int => Weak ⟨[.v (.one (.full 0)), und, vb false, und, und, .v (.one (.full 0)), vi (((List.length x) : Nat) : Int), vi (0 : Int), und, und, und, und, und, und, und, und, und, und, und], [.row (Ty.prod (Ty.int IntKind.i64) (Ty.int IntKind.i64)) x 0]⟩ (small2_l0_tm x s0) ∧ Term (small2_l0_step x) (small2_l0_pre x) s0 ∧ ∀ r : (Unit ⊕ Unit), r = run (small2_l0_step x) s0 →
 (cS r (fun a =>
 (Q false)) (fun b =>
 (Q true)))) := by kernel_rfl
theorem small2_fn (x : (List (Int × Int))) (Q : Bool → Prop) (hp : small2_pre x) (hq : Q (small2 x)) : Vc (fnE ⟨tt, sp_is2, noX, [(0, small2_l0_sp x)], [], []⟩ Try.f10 (argsE (.one (Ty.sl (Ty.prod (Ty.int IntKind.i64) (Ty.int IntKind.i64)))) x) (heapE (.one (Ty.sl (Ty.prod (Ty.int IntKind.i64) (Ty.int IntKind.i64)))) x) (retE (.one Ty.bool) Q)) := .eq (small2_vc x Q) (have hp := Eq.mp (small2_pre.eq_1 x) hp; have hq := Eq.mp (congrArg Q (small2.eq_1 x)) hq;
 (Exists.intro (0 : Int) (And.intro (ren_ok (π := [.same 0]) (And.intro rfl (And.intro rfl (And.intro rfl trivial))) (And.intro (ren_same rfl rfl) trivial) rfl) (And.intro hp (let_0 (Q := Q) hq fun r hq => (cS_k (Q := Q) (P := fun _ => True) (P' := fun _ => True) (by cases r <;> trivial) hq (fun a _ hq => hq) (fun b _ hq => hq)))))))
noncomputable def small2_S : FnS := ⟨(.one (Ty.sl (Ty.prod (Ty.int IntKind.i64) (Ty.int IntKind.i64)))), (.one Ty.bool), small2_pre, small2⟩
theorem small2_ok : SpecOk Try.prog 10 (fnSpec small2_S) := SpecOk.fnT' (fn := Try.f10) tt_ok sp_is2_ok mixed (by kernel_rfl) (by kernel_rfl) (.one (Ty.sl (Ty.prod (Ty.int IntKind.i64) (Ty.int IntKind.i64)))) (.one Ty.bool) small2_pre small2 (by kernel_rfl) fun x hp => ⟨_, _, (ItsOk.nil _ _), (LpsOk.consV tt_ok (SpecsOk.ctxI sp_is2_ok (ItsOk.nil _ _)) mixed LpsOk.nil (by kernel_rfl) (by kernel_rfl) (small2_l0_ok x)), small2_fn x (fun y => y = small2 x) hp rfl⟩
def sp_small2 : List (Nat × Ev.Spec) := (10, fnSpec small2_S) :: sp_is2
theorem sp_small2_ok : SpecsOk Try.prog sp_small2 := SpecsOk.cons (Enters.of (fn := Try.f10) (by kernel_rfl) (by kernel_rfl) (by kernel_rfl)) small2_ok sp_is2_ok
noncomputable def small3_l0_tm (x : (List (Int × (Int × Int)))) (s : Int) : AS := ⟨[D, D, D, D, D, .v (.one (.full 0)), vi (((List.length x) : Nat) : Int), vi s, D, D, D, D, D, D, D, D, D, D, D, D, D], [.row (Ty.prod (Ty.int IntKind.i64) (Ty.prod (Ty.int IntKind.i64) (Ty.int IntKind.i64))) x 0]⟩
noncomputable def small3_l0_out (x : (List (Int × (Int × Int)))) (r : (Unit ⊕ Unit)) (K : Exit → AS → Prop) : Prop := cS r (fun a0 => K .ret ⟨[D, D, vb false, D, D, D, D, D, D, D, D, D, D, D, D, D, D, D, D, D, D], []⟩) (fun b0 => K .normal ⟨[D, D, D, D, D, D, D, D, D, D, D, D, D, D, D, D, D, D, D, D, D], []⟩)
noncomputable def small3_l0_step (x : (List (Int × (Int × Int)))) (s : Int) : Int ⊕ (Unit ⊕ Unit) :=
 (if (s < (((List.length x) : Nat) : Int)) then
 (letV (within ((16384 : Int), [(List.getD x (Int.toNat s) ((0 : Int), ((0 : Int), (0 : Int)))).1, (List.getD x (Int.toNat s) ((0 : Int), ((0 : Int), (0 : Int)))).2.1, (List.getD x (Int.toNat s) ((0 : Int), ((0 : Int), (0 : Int)))).2.2])) fun y =>
 (if ((!y) = true) then
 (Sum.inr (Sum.inl ())) else
 (Sum.inl (w64 (s + (1 : Int)))))) else
 (Sum.inr (Sum.inr (()))))
noncomputable def small3_l0_pre (x : (List (Int × (Int × Int)))) (s : Int) : Prop :=
 ((s < (((List.length x) : Nat) : Int)) →
 ((((0 : Int) ≤ s) ∧ (s < (((List.length x) : Nat) : Int))) ∧
 (((Int.toNat s) < (List.length x)) ∧
 (((Int.toNat s) < (List.length x)) ∧
 (within_pre ((16384 : Int), [(List.getD x (Int.toNat s) ((0 : Int), ((0 : Int), (0 : Int)))).1, (List.getD x (Int.toNat s) ((0 : Int), ((0 : Int), (0 : Int)))).2.1, (List.getD x (Int.toNat s) ((0 : Int), ((0 : Int), (0 : Int)))).2.2]))))))
noncomputable def small3_l0_sp (x : (List (Int × (Int × Int)))) : LSpec := loopSp (small3_l0_tm x) (small3_l0_step x) (small3_l0_pre x) (small3_l0_out x)
theorem small3_l0_vc (x : (List (Int × (Int × Int)))) (s : Int) (K : Exit → AS → Prop) (KN : AS → Prop) : codeE ⟨tt, sp_small2, noX, [], [], []⟩ (cI (blk 0 (bodyOf Try.f36))) (small3_l0_tm x s) (KB 0 K KN) =
 (cB (decide (s < (((List.length x) : Nat) : Int)))
 (ob ((decide ((0 : Int) ≤ s)) && (decide (s < (((List.length x) : Nat) : Int))))
 (ob (decide ((Int.toNat s) < (List.length x)))
 (ob (decide ((Int.toNat s) < (List.length x)))
 ((within_pre ((16384 : Int), [(List.getD x (Int.toNat s) ((0 : Int), ((0 : Int), (0 : Int)))).1, (List.getD x (Int.toNat s) ((0 : Int), ((0 : Int), (0 : Int)))).2.1, (List.getD x (Int.toNat s) ((0 : Int), ((0 : Int), (0 : Int)))).2.2])) ∧ ∀ y : Bool, y = (within ((16384 : Int), [(List.getD x (Int.toNat s) ((0 : Int), ((0 : Int), (0 : Int)))).1, (List.getD x (Int.toNat s) ((0 : Int), ((0 : Int), (0 : Int)))).2.1, (List.getD x (Int.toNat s) ((0 : Int), ((0 : Int), (0 : Int)))).2.2])) →
 (cB (!y)
 (KB 0 K KN .ret ⟨[D, D, vb false, D, .v (.one (.ptr 1 0)), .v (.one (.full 0)), vi (((List.length x) : Nat) : Int), vi s, vb (decide (s < (((List.length x) : Nat) : Int))), .v (.one (.eptr 0 (Int.toNat s) 0)), .v (.agg [ci (List.getD x (Int.toNat s) ((0 : Int), ((0 : Int), (0 : Int)))).1, ci (List.getD x (Int.toNat s) ((0 : Int), ((0 : Int), (0 : Int)))).2.1, ci (List.getD x (Int.toNat s) ((0 : Int), ((0 : Int), (0 : Int)))).2.2]), .v (.one (.ptr 1 0)), vi (List.getD x (Int.toNat s) ((0 : Int), ((0 : Int), (0 : Int)))).1, .v (.one (.ptr 1 1)), vi (List.getD x (Int.toNat s) ((0 : Int), ((0 : Int), (0 : Int)))).2.1, .v (.one (.ptr 1 2)), vi (List.getD x (Int.toNat s) ((0 : Int), ((0 : Int), (0 : Int)))).2.2, .v (.one (.sl 2 0 3 3)), vb y, vb (!y), D], [.row (Ty.prod (Ty.int IntKind.i64) (Ty.prod (Ty.int IntKind.i64) (Ty.int IntKind.i64))) x 0, .cells [ci (List.getD x (Int.toNat s) ((0 : Int), ((0 : Int), (0 : Int)))).1, ci (List.getD x (Int.toNat s) ((0 : Int), ((0 : Int), (0 : Int)))).2.1, ci (List.getD x (Int.toNat s) ((0 : Int), ((0 : Int), (0 : Int)))).2.2] 46, .cells [ci (List.getD x (Int.toNat s) ((0 : Int), ((0 : Int), (0 : Int)))).1, ci (List.getD x (Int.toNat s) ((0 : Int), ((0 : Int), (0 : Int)))).2.1, ci (List.getD x (Int.toNat s) ((0 : Int), ((0 : Int), (0 : Int)))).2.2] 3]⟩)
 (KB 0 K KN .normal ⟨[D, D, D, D, .v (.one (.ptr 1 0)), .v (.one (.full 0)), vi (((List.length x) : Nat) : Int), vi (w64 (s + (1 : Int))), vb (decide (s < (((List.length x) : Nat) : Int))), .v (.one (.eptr 0 (Int.toNat s) 0)), .v (.agg [ci (List.getD x (Int.toNat s) ((0 : Int), ((0 : Int), (0 : Int)))).1, ci (List.getD x (Int.toNat s) ((0 : Int), ((0 : Int), (0 : Int)))).2.1, ci (List.getD x (Int.toNat s) ((0 : Int), ((0 : Int), (0 : Int)))).2.2]), .v (.one (.ptr 1 0)), vi (List.getD x (Int.toNat s) ((0 : Int), ((0 : Int), (0 : Int)))).1, .v (.one (.ptr 1 1)), vi (List.getD x (Int.toNat s) ((0 : Int), ((0 : Int), (0 : Int)))).2.1, .v (.one (.ptr 1 2)), vi (List.getD x (Int.toNat s) ((0 : Int), ((0 : Int), (0 : Int)))).2.2, .v (.one (.sl 2 0 3 3)), vb y, vb (!y), vi (w64 (s + (1 : Int)))], [.row (Ty.prod (Ty.int IntKind.i64) (Ty.prod (Ty.int IntKind.i64) (Ty.int IntKind.i64))) x 0, .cells [ci (List.getD x (Int.toNat s) ((0 : Int), ((0 : Int), (0 : Int)))).1, ci (List.getD x (Int.toNat s) ((0 : Int), ((0 : Int), (0 : Int)))).2.1, ci (List.getD x (Int.toNat s) ((0 : Int), ((0 : Int), (0 : Int)))).2.2] 46, .cells [ci (List.getD x (Int.toNat s) ((0 : Int), ((0 : Int), (0 : Int)))).1, ci (List.getD x (Int.toNat s) ((0 : Int), ((0 : Int), (0 : Int)))).2.1, ci (List.getD x (Int.toNat s) ((0 : Int), ((0 : Int), (0 : Int)))).2.2] 3]⟩))))))
 (KB 0 K KN (.exit 0) ⟨[D, D, D, D, D, .v (.one (.full 0)), vi (((List.length x) : Nat) : Int), vi s, vb (decide (s < (((List.length x) : Nat) : Int))), D, D, D, D, D, D, D, D, D, D, D, D], [.row (Ty.prod (Ty.int IntKind.i64) (Ty.prod (Ty.int IntKind.i64) (Ty.int IntKind.i64))) x 0]⟩)) := by kernel_rfl
theorem small3_l0_ok (x : (List (Int × (Int × Int)))) : ∀ st K, small3_l0_sp x st K → Vc (codeE ⟨tt, sp_small2, noX, [], [], []⟩ (.loop (cI (blk 0 (bodyOf Try.f36)))) st (wrapB 0 (orWeak K))) := loopSp_okV fun s K KN hp hq => .eq (small3_l0_vc x s K KN) (have hp := Eq.mp (small3_l0_pre.eq_1 x s) hp; have hq := Eq.mp (congrArg (stepQ (small3_l0_tm x) (small3_l0_out x) K KN) (small3_l0_step.eq_1 x s)) hq;
 (cB_d (Q := (stepQ (small3_l0_tm x) (small3_l0_out x) K KN)) hq (fun c hq => have hp := (hp c); (ob_k (and_t (decide_eq_true hp.1.1) (decide_eq_true hp.1.2)) (have hp := hp.2; (ob_k (decide_eq_true hp.1) (have hp := hp.2; (ob_k (decide_eq_true hp.1) (have hp := hp.2; (And.intro hp (let_0 (Q := (stepQ (small3_l0_tm x) (small3_l0_out x) K KN)) hq fun y hq => (cB_b (Q := (stepQ (small3_l0_tm x) (small3_l0_out x) K KN)) hq (fun c hq => (Exists.intro ⟨[D, D, vb false, D, D, D, D, D, D, D, D, D, D, D, D, D, D, D, D, D, D], []⟩ (And.intro (ren_ok (π := []) (And.intro rfl trivial) trivial rfl) hq))) (fun c hq => (Exists.intro (small3_l0_tm x (w64 (s + (1 : Int)))) (And.intro (ren_ok (π := [.same 0]) (And.intro rfl (And.intro rfl (And.intro rfl trivial))) (And.intro (ren_same rfl rfl) trivial) rfl) hq))))))))))))) (fun c hq => (Exists.intro ⟨[D, D, D, D, D, D, D, D, D, D, D, D, D, D, D, D, D, D, D, D, D], []⟩ (And.intro (ren_ok (π := []) trivial trivial rfl) hq)))))
noncomputable def small3 (x : (List (Int × (Int × Int)))) : Bool :=
 (letV (run (small3_l0_step x) (0 : Int)) fun r =>
 (Sum.elim (fun a =>
 false) (fun b =>
 true) r))
noncomputable def small3_pre (x : (List (Int × (Int × Int)))) : Prop :=
 (Term (small3_l0_step x) (small3_l0_pre x) (0 : Int))
theorem small3_vc (x : (List (Int × (Int × Int)))) (Q : Bool → Prop) : fnE ⟨tt, sp_small2, noX, [(0, small3_l0_sp x)], [], []⟩ Try.f36 (argsE (.one (Ty.sl (Ty.prod (Ty.int IntKind.i64) (Ty.prod (Ty.int IntKind.i64) (Ty.int IntKind.i64))))) x) (heapE (.one (Ty.sl (Ty.prod (Ty.int IntKind.i64) (Ty.prod (Ty.int IntKind.i64) (Ty.int IntKind.i64))))) x) (retE (.one Ty.bool) Q) =
 (Exists fun s0 : Int => Weak ⟨[.v (.one (.full 0)), und, vb false, und, und, .v (.one (.full 0)), vi (((List.length x) : Nat) : Int), vi (0 : Int), und, und, und, und, und, und, und, und, und, und, und, und, und], [.row (Ty.prod (Ty.int IntKind.i64) (Ty.prod (Ty.int IntKind.i64) (Ty.int IntKind.i64))) x 0]⟩ (small3_l0_tm x s0) ∧ Term (small3_l0_step x) (small3_l0_pre x) s0 ∧ ∀ r : (Unit ⊕ Unit), r = run (small3_l0_step x) s0 →
 (cS r (fun a =>
 (Q false)) (fun b =>
 (Q true)))) := by kernel_rfl
theorem small3_fn (x : (List (Int × (Int × Int)))) (Q : Bool → Prop) (hp : small3_pre x) (hq : Q (small3 x)) : Vc (fnE ⟨tt, sp_small2, noX, [(0, small3_l0_sp x)], [], []⟩ Try.f36 (argsE (.one (Ty.sl (Ty.prod (Ty.int IntKind.i64) (Ty.prod (Ty.int IntKind.i64) (Ty.int IntKind.i64))))) x) (heapE (.one (Ty.sl (Ty.prod (Ty.int IntKind.i64) (Ty.prod (Ty.int IntKind.i64) (Ty.int IntKind.i64))))) x) (retE (.one Ty.bool) Q)) := .eq (small3_vc x Q) (have hp := Eq.mp (small3_pre.eq_1 x) hp; have hq := Eq.mp (congrArg Q (small3.eq_1 x)) hq;
 (Exists.intro (0 : Int) (And.intro (ren_ok (π := [.same 0]) (And.intro rfl (And.intro rfl (And.intro rfl trivial))) (And.intro (ren_same rfl rfl) trivial) rfl) (And.intro hp (let_0 (Q := Q) hq fun r hq => (cS_k (Q := Q) (P := fun _ => True) (P' := fun _ => True) (by cases r <;> trivial) hq (fun a _ hq => hq) (fun b _ hq => hq)))))))
noncomputable def small3_S : FnS := ⟨(.one (Ty.sl (Ty.prod (Ty.int IntKind.i64) (Ty.prod (Ty.int IntKind.i64) (Ty.int IntKind.i64))))), (.one Ty.bool), small3_pre, small3⟩
theorem small3_ok : SpecOk Try.prog 36 (fnSpec small3_S) := SpecOk.fnT' (fn := Try.f36) tt_ok sp_small2_ok mixed (by kernel_rfl) (by kernel_rfl) (.one (Ty.sl (Ty.prod (Ty.int IntKind.i64) (Ty.prod (Ty.int IntKind.i64) (Ty.int IntKind.i64))))) (.one Ty.bool) small3_pre small3 (by kernel_rfl) fun x hp => ⟨_, _, (ItsOk.nil _ _), (LpsOk.consV tt_ok (SpecsOk.ctxI sp_small2_ok (ItsOk.nil _ _)) mixed LpsOk.nil (by kernel_rfl) (by kernel_rfl) (small3_l0_ok x)), small3_fn x (fun y => y = small3 x) hp rfl⟩
def sp_small3 : List (Nat × Ev.Spec) := (36, fnSpec small3_S) :: sp_small2
theorem sp_small3_ok : SpecsOk Try.prog sp_small3 := SpecsOk.cons (Enters.of (fn := Try.f36) (by kernel_rfl) (by kernel_rfl) (by kernel_rfl)) small3_ok sp_small2_ok
noncomputable def sub2 (x : ((Int × Int) × (Int × Int))) : (Int × Int) :=
 (letV (is2 [x.1, x.2]) fun y =>
 (if ((!y) = true) then
 ((0 : Int), (0 : Int)) else
 ((w64 (x.1.1 - x.2.1)), (w64 (x.1.2 - x.2.2)))))
noncomputable def sub2_pre (x : ((Int × Int) × (Int × Int))) : Prop :=
 (is2_pre [x.1, x.2])
theorem sub2_vc (x : ((Int × Int) × (Int × Int))) (Q : (Int × Int) → Prop) : fnE ⟨tt, sp_small3, noX, [], [], []⟩ Try.f39 (argsE (.pair (.agg (Ty.prod (Ty.int IntKind.i64) (Ty.int IntKind.i64))) (.agg (Ty.prod (Ty.int IntKind.i64) (Ty.int IntKind.i64)))) x) (heapE (.pair (.agg (Ty.prod (Ty.int IntKind.i64) (Ty.int IntKind.i64))) (.agg (Ty.prod (Ty.int IntKind.i64) (Ty.int IntKind.i64)))) x) (retE (.agg (Ty.prod (Ty.int IntKind.i64) (Ty.int IntKind.i64))) Q) =
 ((is2_pre [x.1, x.2]) ∧ ∀ y : Bool, y = (is2 [x.1, x.2]) →
 (cB (!y)
 (Q ((0 : Int), (0 : Int)))
 (Q ((w64 (x.1.1 - x.2.1)), (w64 (x.1.2 - x.2.2)))))) := by kernel_rfl
theorem sub2_fn (x : ((Int × Int) × (Int × Int))) (Q : (Int × Int) → Prop) (hp : sub2_pre x) (hq : Q (sub2 x)) : Vc (fnE ⟨tt, sp_small3, noX, [], [], []⟩ Try.f39 (argsE (.pair (.agg (Ty.prod (Ty.int IntKind.i64) (Ty.int IntKind.i64))) (.agg (Ty.prod (Ty.int IntKind.i64) (Ty.int IntKind.i64)))) x) (heapE (.pair (.agg (Ty.prod (Ty.int IntKind.i64) (Ty.int IntKind.i64))) (.agg (Ty.prod (Ty.int IntKind.i64) (Ty.int IntKind.i64)))) x) (retE (.agg (Ty.prod (Ty.int IntKind.i64) (Ty.int IntKind.i64))) Q)) := .eq (sub2_vc x Q) (have hp := Eq.mp (sub2_pre.eq_1 x) hp; have hq := Eq.mp (congrArg Q (sub2.eq_1 x)) hq;
 (And.intro hp (let_0 (Q := Q) hq fun y hq => (cB_b (Q := Q) hq (fun c hq => hq) (fun c hq => hq)))))
noncomputable def sub2_S : FnS := ⟨(.pair (.agg (Ty.prod (Ty.int IntKind.i64) (Ty.int IntKind.i64))) (.agg (Ty.prod (Ty.int IntKind.i64) (Ty.int IntKind.i64)))), (.agg (Ty.prod (Ty.int IntKind.i64) (Ty.int IntKind.i64))), sub2_pre, sub2⟩
theorem sub2_ok : SpecOk Try.prog 39 (fnSpec sub2_S) := SpecOk.fnT' (fn := Try.f39) tt_ok sp_small3_ok mixed (by kernel_rfl) (by kernel_rfl) (.pair (.agg (Ty.prod (Ty.int IntKind.i64) (Ty.int IntKind.i64))) (.agg (Ty.prod (Ty.int IntKind.i64) (Ty.int IntKind.i64)))) (.agg (Ty.prod (Ty.int IntKind.i64) (Ty.int IntKind.i64))) sub2_pre sub2 (by kernel_rfl) fun x hp => ⟨_, _, (ItsOk.nil _ _), LpsOk.nil, sub2_fn x (fun y => y = sub2 x) hp rfl⟩
def sp_sub2 : List (Nat × Ev.Spec) := (39, fnSpec sub2_S) :: sp_small3
theorem sp_sub2_ok : SpecsOk Try.prog sp_sub2 := SpecsOk.cons (Enters.of (fn := Try.f39) (by kernel_rfl) (by kernel_rfl) (by kernel_rfl)) sub2_ok sp_small3_ok
noncomputable def cross2 (x : ((Int × Int) × (Int × Int))) : (Int × Int) :=
 (letV (is2 [x.1, x.2]) fun y =>
 (if ((!y) = true) then
 ((0 : Int), (5 : Int)) else
 ((w64 ((w64 (x.1.1 * x.2.2)) - (w64 (x.1.2 * x.2.1)))), (0 : Int))))
noncomputable def cross2_pre (x : ((Int × Int) × (Int × Int))) : Prop :=
 (is2_pre [x.1, x.2])
theorem cross2_vc (x : ((Int × Int) × (Int × Int))) (Q : (Int × Int) → Prop) : fnE ⟨tt, sp_sub2, noX, [], [], []⟩ Try.f62 (argsE (.pair (.agg (Ty.prod (Ty.int IntKind.i64) (Ty.int IntKind.i64))) (.agg (Ty.prod (Ty.int IntKind.i64) (Ty.int IntKind.i64)))) x) (heapE (.pair (.agg (Ty.prod (Ty.int IntKind.i64) (Ty.int IntKind.i64))) (.agg (Ty.prod (Ty.int IntKind.i64) (Ty.int IntKind.i64)))) x) (retE (.pair (.one (Ty.int IntKind.i64)) (.one (Ty.int IntKind.i64))) Q) =
 ((is2_pre [x.1, x.2]) ∧ ∀ y : Bool, y = (is2 [x.1, x.2]) →
 (cB (!y)
 (Q ((0 : Int), (5 : Int)))
 (Q ((w64 ((w64 (x.1.1 * x.2.2)) - (w64 (x.1.2 * x.2.1)))), (0 : Int))))) := by kernel_rfl
theorem cross2_fn (x : ((Int × Int) × (Int × Int))) (Q : (Int × Int) → Prop) (hp : cross2_pre x) (hq : Q (cross2 x)) : Vc (fnE ⟨tt, sp_sub2, noX, [], [], []⟩ Try.f62 (argsE (.pair (.agg (Ty.prod (Ty.int IntKind.i64) (Ty.int IntKind.i64))) (.agg (Ty.prod (Ty.int IntKind.i64) (Ty.int IntKind.i64)))) x) (heapE (.pair (.agg (Ty.prod (Ty.int IntKind.i64) (Ty.int IntKind.i64))) (.agg (Ty.prod (Ty.int IntKind.i64) (Ty.int IntKind.i64)))) x) (retE (.pair (.one (Ty.int IntKind.i64)) (.one (Ty.int IntKind.i64))) Q)) := .eq (cross2_vc x Q) (have hp := Eq.mp (cross2_pre.eq_1 x) hp; have hq := Eq.mp (congrArg Q (cross2.eq_1 x)) hq;
 (And.intro hp (let_0 (Q := Q) hq fun y hq => (cB_b (Q := Q) hq (fun c hq => hq) (fun c hq => hq)))))
noncomputable def cross2_S : FnS := ⟨(.pair (.agg (Ty.prod (Ty.int IntKind.i64) (Ty.int IntKind.i64))) (.agg (Ty.prod (Ty.int IntKind.i64) (Ty.int IntKind.i64)))), (.pair (.one (Ty.int IntKind.i64)) (.one (Ty.int IntKind.i64))), cross2_pre, cross2⟩
theorem cross2_ok : SpecOk Try.prog 62 (fnSpec cross2_S) := SpecOk.fnT' (fn := Try.f62) tt_ok sp_sub2_ok mixed (by kernel_rfl) (by kernel_rfl) (.pair (.agg (Ty.prod (Ty.int IntKind.i64) (Ty.int IntKind.i64))) (.agg (Ty.prod (Ty.int IntKind.i64) (Ty.int IntKind.i64)))) (.pair (.one (Ty.int IntKind.i64)) (.one (Ty.int IntKind.i64))) cross2_pre cross2 (by kernel_rfl) fun x hp => ⟨_, _, (ItsOk.nil _ _), LpsOk.nil, cross2_fn x (fun y => y = cross2 x) hp rfl⟩
def sp_cross2 : List (Nat × Ev.Spec) := (62, fnSpec cross2_S) :: sp_sub2
theorem sp_cross2_ok : SpecsOk Try.prog sp_cross2 := SpecsOk.cons (Enters.of (fn := Try.f62) (by kernel_rfl) (by kernel_rfl) (by kernel_rfl)) cross2_ok sp_sub2_ok
noncomputable def halves (x : Int) : (Int × Int) :=
 ((w64 (Int.tdiv x (1000000000 : Int))), (Int.tmod x (1000000000 : Int)))
noncomputable def halves_pre (_ : Int) : Prop := True
theorem halves_vc (x : Int) (Q : (Int × Int) → Prop) : fnE ⟨tt, sp_cross2, noX, [], [], []⟩ Try.f63 (argsE (.one (Ty.int IntKind.i64)) x) (heapE (.one (Ty.int IntKind.i64)) x) (retE (.agg (Ty.prod (Ty.int IntKind.i64) (Ty.int IntKind.i64))) Q) =
 (Q ((w64 (Int.tdiv x (1000000000 : Int))), (Int.tmod x (1000000000 : Int)))) := by kernel_rfl
theorem halves_fn (x : Int) (Q : (Int × Int) → Prop) (hp : halves_pre x) (hq : Q (halves x)) : Vc (fnE ⟨tt, sp_cross2, noX, [], [], []⟩ Try.f63 (argsE (.one (Ty.int IntKind.i64)) x) (heapE (.one (Ty.int IntKind.i64)) x) (retE (.agg (Ty.prod (Ty.int IntKind.i64) (Ty.int IntKind.i64))) Q)) := .eq (halves_vc x Q) (have hp := Eq.mp (halves_pre.eq_1 x) hp; have hq := Eq.mp (congrArg Q (halves.eq_1 x)) hq;
 hq)
noncomputable def halves_S : FnS := ⟨(.one (Ty.int IntKind.i64)), (.agg (Ty.prod (Ty.int IntKind.i64) (Ty.int IntKind.i64))), halves_pre, halves⟩
theorem halves_ok : SpecOk Try.prog 63 (fnSpec halves_S) := SpecOk.fnT' (fn := Try.f63) tt_ok sp_cross2_ok mixed (by kernel_rfl) (by kernel_rfl) (.one (Ty.int IntKind.i64)) (.agg (Ty.prod (Ty.int IntKind.i64) (Ty.int IntKind.i64))) halves_pre halves (by kernel_rfl) fun x hp => ⟨_, _, (ItsOk.nil _ _), LpsOk.nil, halves_fn x (fun y => y = halves x) hp rfl⟩
def sp_halves : List (Nat × Ev.Spec) := (63, fnSpec halves_S) :: sp_cross2
theorem sp_halves_ok : SpecsOk Try.prog sp_halves := SpecsOk.cons (Enters.of (fn := Try.f63) (by kernel_rfl) (by kernel_rfl) (by kernel_rfl)) halves_ok sp_cross2_ok
noncomputable def wis (x : (Int × Int)) : Bool :=
 (if (x.2 ≥ (0 : Int)) then
 (if (x.2 < (1000000000000000000 : Int)) then
 (if (x.1 ≥ (-4000000000000000000 : Int)) then
 (decide (x.1 ≤ (4000000000000000000 : Int))) else
 false) else
 false) else
 false)
noncomputable def wis_pre (_ : (Int × Int)) : Prop := True
theorem wis_vc (x : (Int × Int)) (Q : Bool → Prop) : fnE ⟨tt, sp_halves, noX, [], [], []⟩ Try.f73 (argsE (.agg (Ty.prod (Ty.int IntKind.i64) (Ty.int IntKind.i64))) x) (heapE (.agg (Ty.prod (Ty.int IntKind.i64) (Ty.int IntKind.i64))) x) (retE (.one Ty.bool) Q) =
 (cB (decide (x.2 ≥ (0 : Int)))
 (cB (decide (x.2 < (1000000000000000000 : Int)))
 (cB (decide (x.1 ≥ (-4000000000000000000 : Int)))
 (Q (decide (x.1 ≤ (4000000000000000000 : Int))))
 (Q false))
 (Q false))
 (Q false)) := by kernel_rfl
theorem wis_fn (x : (Int × Int)) (Q : Bool → Prop) (hp : wis_pre x) (hq : Q (wis x)) : Vc (fnE ⟨tt, sp_halves, noX, [], [], []⟩ Try.f73 (argsE (.agg (Ty.prod (Ty.int IntKind.i64) (Ty.int IntKind.i64))) x) (heapE (.agg (Ty.prod (Ty.int IntKind.i64) (Ty.int IntKind.i64))) x) (retE (.one Ty.bool) Q)) := .eq (wis_vc x Q) (have hp := Eq.mp (wis_pre.eq_1 x) hp; have hq := Eq.mp (congrArg Q (wis.eq_1 x)) hq;
 (cB_d (Q := Q) hq (fun c hq => (cB_d (Q := Q) hq (fun c hq => (cB_d (Q := Q) hq (fun c hq => hq) (fun c hq => hq))) (fun c hq => hq))) (fun c hq => hq)))
noncomputable def wis_S : FnS := ⟨(.agg (Ty.prod (Ty.int IntKind.i64) (Ty.int IntKind.i64))), (.one Ty.bool), wis_pre, wis⟩
theorem wis_ok : SpecOk Try.prog 73 (fnSpec wis_S) := SpecOk.fnT' (fn := Try.f73) tt_ok sp_halves_ok mixed (by kernel_rfl) (by kernel_rfl) (.agg (Ty.prod (Ty.int IntKind.i64) (Ty.int IntKind.i64))) (.one Ty.bool) wis_pre wis (by kernel_rfl) fun x hp => ⟨_, _, (ItsOk.nil _ _), LpsOk.nil, wis_fn x (fun y => y = wis x) hp rfl⟩
def sp_wis : List (Nat × Ev.Spec) := (73, fnSpec wis_S) :: sp_halves
theorem sp_wis_ok : SpecsOk Try.prog sp_wis := SpecsOk.cons (Enters.of (fn := Try.f73) (by kernel_rfl) (by kernel_rfl) (by kernel_rfl)) wis_ok sp_halves_ok
noncomputable def wright (x : (Int × Int)) : ((Int × Int) × Int) :=
 (letV (wis x) fun y =>
 (if ((!y) = true) then
 (((0 : Int), (0 : Int)), (4 : Int)) else
 (x, (0 : Int))))
noncomputable def wright_pre (_ : (Int × Int)) : Prop := True
theorem wright_vc (x : (Int × Int)) (Q : ((Int × Int) × Int) → Prop) : fnE ⟨tt, sp_wis, noX, [], [], []⟩ Try.f74 (argsE (.agg (Ty.prod (Ty.int IntKind.i64) (Ty.int IntKind.i64))) x) (heapE (.agg (Ty.prod (Ty.int IntKind.i64) (Ty.int IntKind.i64))) x) (retE (.pair (.agg (Ty.prod (Ty.int IntKind.i64) (Ty.int IntKind.i64))) (.one (Ty.int IntKind.i64))) Q) =
 ((wis_pre x) ∧ ∀ y : Bool, y = (wis x) →
 (cB (!y)
 (Q (((0 : Int), (0 : Int)), (4 : Int)))
 (Q (x, (0 : Int))))) := by kernel_rfl
theorem wright_fn (x : (Int × Int)) (Q : ((Int × Int) × Int) → Prop) (hp : wright_pre x) (hq : Q (wright x)) : Vc (fnE ⟨tt, sp_wis, noX, [], [], []⟩ Try.f74 (argsE (.agg (Ty.prod (Ty.int IntKind.i64) (Ty.int IntKind.i64))) x) (heapE (.agg (Ty.prod (Ty.int IntKind.i64) (Ty.int IntKind.i64))) x) (retE (.pair (.agg (Ty.prod (Ty.int IntKind.i64) (Ty.int IntKind.i64))) (.one (Ty.int IntKind.i64))) Q)) := .eq (wright_vc x Q) (have hp := Eq.mp (wright_pre.eq_1 x) hp; have hq := Eq.mp (congrArg Q (wright.eq_1 x)) hq;
 (And.intro trivial (let_0 (Q := Q) hq fun y hq => (cB_b (Q := Q) hq (fun c hq => hq) (fun c hq => hq)))))
noncomputable def wright_S : FnS := ⟨(.agg (Ty.prod (Ty.int IntKind.i64) (Ty.int IntKind.i64))), (.pair (.agg (Ty.prod (Ty.int IntKind.i64) (Ty.int IntKind.i64))) (.one (Ty.int IntKind.i64))), wright_pre, wright⟩
theorem wright_ok : SpecOk Try.prog 74 (fnSpec wright_S) := SpecOk.fnT' (fn := Try.f74) tt_ok sp_wis_ok mixed (by kernel_rfl) (by kernel_rfl) (.agg (Ty.prod (Ty.int IntKind.i64) (Ty.int IntKind.i64))) (.pair (.agg (Ty.prod (Ty.int IntKind.i64) (Ty.int IntKind.i64))) (.one (Ty.int IntKind.i64))) wright_pre wright (by kernel_rfl) fun x hp => ⟨_, _, (ItsOk.nil _ _), LpsOk.nil, wright_fn x (fun y => y = wright x) hp rfl⟩
def sp_wright : List (Nat × Ev.Spec) := (74, fnSpec wright_S) :: sp_wis
theorem sp_wright_ok : SpecsOk Try.prog sp_wright := SpecsOk.cons (Enters.of (fn := Try.f74) (by kernel_rfl) (by kernel_rfl) (by kernel_rfl)) wright_ok sp_wis_ok
noncomputable def wneg (x : (Int × Int)) : ((Int × Int) × Int) :=
 (letV (wis x) fun y =>
 (if ((!y) = true) then
 (((0 : Int), (0 : Int)), (1 : Int)) else
 (if ((x.2 == (0 : Int)) = true) then
 (((w64 ((0 : Int) - x.1)), (0 : Int)), (0 : Int)) else
 (letV (wright ((w64 ((w64 ((0 : Int) - x.1)) - (1 : Int))), (w64 ((1000000000000000000 : Int) - x.2)))) fun y_1 =>
 y_1))))
noncomputable def wneg_pre (_ : (Int × Int)) : Prop := True
theorem wneg_vc (x : (Int × Int)) (Q : ((Int × Int) × Int) → Prop) : fnE ⟨tt, sp_wright, noX, [], [], []⟩ Try.f64 (argsE (.agg (Ty.prod (Ty.int IntKind.i64) (Ty.int IntKind.i64))) x) (heapE (.agg (Ty.prod (Ty.int IntKind.i64) (Ty.int IntKind.i64))) x) (retE (.pair (.agg (Ty.prod (Ty.int IntKind.i64) (Ty.int IntKind.i64))) (.one (Ty.int IntKind.i64))) Q) =
 ((wis_pre x) ∧ ∀ y : Bool, y = (wis x) →
 (cB (!y)
 (Q (((0 : Int), (0 : Int)), (1 : Int)))
 (cB (x.2 == (0 : Int))
 (Q (((w64 ((0 : Int) - x.1)), (0 : Int)), (0 : Int)))
 ((wright_pre ((w64 ((w64 ((0 : Int) - x.1)) - (1 : Int))), (w64 ((1000000000000000000 : Int) - x.2)))) ∧ ∀ y_1 : ((Int × Int) × Int), y_1 = (wright ((w64 ((w64 ((0 : Int) - x.1)) - (1 : Int))), (w64 ((1000000000000000000 : Int) - x.2)))) →
 (Q y_1))))) := by kernel_rfl
theorem wneg_fn (x : (Int × Int)) (Q : ((Int × Int) × Int) → Prop) (hp : wneg_pre x) (hq : Q (wneg x)) : Vc (fnE ⟨tt, sp_wright, noX, [], [], []⟩ Try.f64 (argsE (.agg (Ty.prod (Ty.int IntKind.i64) (Ty.int IntKind.i64))) x) (heapE (.agg (Ty.prod (Ty.int IntKind.i64) (Ty.int IntKind.i64))) x) (retE (.pair (.agg (Ty.prod (Ty.int IntKind.i64) (Ty.int IntKind.i64))) (.one (Ty.int IntKind.i64))) Q)) := .eq (wneg_vc x Q) (have hp := Eq.mp (wneg_pre.eq_1 x) hp; have hq := Eq.mp (congrArg Q (wneg.eq_1 x)) hq;
 (And.intro trivial (let_0 (Q := Q) hq fun y hq => (cB_b (Q := Q) hq (fun c hq => hq) (fun c hq => (cB_b (Q := Q) hq (fun c hq => hq) (fun c hq => (And.intro trivial (let_0 (Q := Q) hq fun y_1 hq => hq)))))))))
noncomputable def wneg_S : FnS := ⟨(.agg (Ty.prod (Ty.int IntKind.i64) (Ty.int IntKind.i64))), (.pair (.agg (Ty.prod (Ty.int IntKind.i64) (Ty.int IntKind.i64))) (.one (Ty.int IntKind.i64))), wneg_pre, wneg⟩
theorem wneg_ok : SpecOk Try.prog 64 (fnSpec wneg_S) := SpecOk.fnT' (fn := Try.f64) tt_ok sp_wright_ok mixed (by kernel_rfl) (by kernel_rfl) (.agg (Ty.prod (Ty.int IntKind.i64) (Ty.int IntKind.i64))) (.pair (.agg (Ty.prod (Ty.int IntKind.i64) (Ty.int IntKind.i64))) (.one (Ty.int IntKind.i64))) wneg_pre wneg (by kernel_rfl) fun x hp => ⟨_, _, (ItsOk.nil _ _), LpsOk.nil, wneg_fn x (fun y => y = wneg x) hp rfl⟩
def sp_wneg : List (Nat × Ev.Spec) := (64, fnSpec wneg_S) :: sp_wright
theorem sp_wneg_ok : SpecsOk Try.prog sp_wneg := SpecsOk.cons (Enters.of (fn := Try.f64) (by kernel_rfl) (by kernel_rfl) (by kernel_rfl)) wneg_ok sp_wright_ok
noncomputable def cor_l0_tm (x : (List Int)) (s : Int) : AS := ⟨[D, D, D, vi (0 : Int), D, D, .v (.one (.full 0)), vi (((List.length x) : Nat) : Int), vi s, D, D, D, D, D, D, D, D, D], [.row (Ty.int IntKind.i64) x 0]⟩
noncomputable def cor_l0_out (x : (List Int)) (r : (Int ⊕ Unit)) (K : Exit → AS → Prop) : Prop := cS r (fun a0 => K .ret ⟨[D, D, vi a0, D, D, D, D, D, D, D, D, D, D, D, D, D, D, D], []⟩) (fun b0 => K .normal ⟨[D, D, D, vi (0 : Int), D, D, D, D, D, D, D, D, D, D, D, D, D, D], []⟩)
noncomputable def cor_l0_step (x : (List Int)) (s : Int) : Int ⊕ (Int ⊕ Unit) :=
 (if (s < (((List.length x) : Nat) : Int)) then
 (if (((List.getD x (Int.toNat s) (0 : Int)) != (0 : Int)) = true) then
 (Sum.inr (Sum.inl (List.getD x (Int.toNat s) (0 : Int)))) else
 (Sum.inl (w64 (s + (1 : Int))))) else
 (Sum.inr (Sum.inr (()))))
noncomputable def cor_l0_pre (x : (List Int)) (s : Int) : Prop :=
 ((s < (((List.length x) : Nat) : Int)) →
 ((((0 : Int) ≤ s) ∧ (s < (((List.length x) : Nat) : Int))) ∧
 (((Int.toNat s) < (List.length x)) ∧
 ((Int.toNat s) < (List.length x)))))
noncomputable def cor_l0_sp (x : (List Int)) : LSpec := loopSp (cor_l0_tm x) (cor_l0_step x) (cor_l0_pre x) (cor_l0_out x)
theorem cor_l0_vc (x : (List Int)) (s : Int) (K : Exit → AS → Prop) (KN : AS → Prop) : codeE ⟨tt, sp_wneg, noX, [], [], []⟩ (cI (blk 0 (bodyOf Try.f46))) (cor_l0_tm x s) (KB 0 K KN) =
 (cB (decide (s < (((List.length x) : Nat) : Int)))
 (ob ((decide ((0 : Int) ≤ s)) && (decide (s < (((List.length x) : Nat) : Int))))
 (ob (decide ((Int.toNat s) < (List.length x)))
 (ob (decide ((Int.toNat s) < (List.length x)))
 (cB ((List.getD x (Int.toNat s) (0 : Int)) != (0 : Int))
 (KB 0 K KN .ret ⟨[D, D, vi (List.getD x (Int.toNat s) (0 : Int)), vi (0 : Int), D, vi (List.getD x (Int.toNat s) (0 : Int)), .v (.one (.full 0)), vi (((List.length x) : Nat) : Int), vi s, vb (decide (s < (((List.length x) : Nat) : Int))), .v (.one (.eptr 0 (Int.toNat s) 0)), vi (List.getD x (Int.toNat s) (0 : Int)), vi (List.getD x (Int.toNat s) (0 : Int)), vi (0 : Int), vb ((List.getD x (Int.toNat s) (0 : Int)) != (0 : Int)), vi (List.getD x (Int.toNat s) (0 : Int)), D, D], [.row (Ty.int IntKind.i64) x 0]⟩)
 (KB 0 K KN .normal ⟨[D, D, D, vi (0 : Int), D, vi (List.getD x (Int.toNat s) (0 : Int)), .v (.one (.full 0)), vi (((List.length x) : Nat) : Int), vi (w64 (s + (1 : Int))), vb (decide (s < (((List.length x) : Nat) : Int))), .v (.one (.eptr 0 (Int.toNat s) 0)), vi (List.getD x (Int.toNat s) (0 : Int)), vi (List.getD x (Int.toNat s) (0 : Int)), vi (0 : Int), vb ((List.getD x (Int.toNat s) (0 : Int)) != (0 : Int)), D, vi (w64 (s + (1 : Int))), D], [.row (Ty.int IntKind.i64) x 0]⟩)))))
 (KB 0 K KN (.exit 0) ⟨[D, D, D, vi (0 : Int), D, D, .v (.one (.full 0)), vi (((List.length x) : Nat) : Int), vi s, vb (decide (s < (((List.length x) : Nat) : Int))), D, D, D, D, D, D, D, D], [.row (Ty.int IntKind.i64) x 0]⟩)) := by kernel_rfl
theorem cor_l0_ok (x : (List Int)) : ∀ st K, cor_l0_sp x st K → Vc (codeE ⟨tt, sp_wneg, noX, [], [], []⟩ (.loop (cI (blk 0 (bodyOf Try.f46)))) st (wrapB 0 (orWeak K))) := loopSp_okV fun s K KN hp hq => .eq (cor_l0_vc x s K KN) (have hp := Eq.mp (cor_l0_pre.eq_1 x s) hp; have hq := Eq.mp (congrArg (stepQ (cor_l0_tm x) (cor_l0_out x) K KN) (cor_l0_step.eq_1 x s)) hq;
 (cB_d (Q := (stepQ (cor_l0_tm x) (cor_l0_out x) K KN)) hq (fun c hq => have hp := (hp c); (ob_k (and_t (decide_eq_true hp.1.1) (decide_eq_true hp.1.2)) (have hp := hp.2; (ob_k (decide_eq_true hp.1) (have hp := hp.2; (ob_k (decide_eq_true hp) (cB_b (Q := (stepQ (cor_l0_tm x) (cor_l0_out x) K KN)) hq (fun c hq => (Exists.intro ⟨[D, D, vi (List.getD x (Int.toNat s) (0 : Int)), D, D, D, D, D, D, D, D, D, D, D, D, D, D, D], []⟩ (And.intro (ren_ok (π := []) (And.intro rfl trivial) trivial rfl) hq))) (fun c hq => (Exists.intro (cor_l0_tm x (w64 (s + (1 : Int)))) (And.intro (ren_ok (π := [.same 0]) (And.intro rfl (And.intro rfl (And.intro rfl (And.intro rfl trivial)))) (And.intro (ren_same rfl rfl) trivial) rfl) hq)))))))))) (fun c hq => (Exists.intro ⟨[D, D, D, vi (0 : Int), D, D, D, D, D, D, D, D, D, D, D, D, D, D], []⟩ (And.intro (ren_ok (π := []) (And.intro rfl trivial) trivial rfl) hq)))))
noncomputable def cor (x : (List Int)) : Int :=
 (letV (run (cor_l0_step x) (0 : Int)) fun r =>
 (Sum.elim (fun a =>
 a) (fun b =>
 (0 : Int)) r))
noncomputable def cor_pre (x : (List Int)) : Prop :=
 (Term (cor_l0_step x) (cor_l0_pre x) (0 : Int))
theorem cor_vc (x : (List Int)) (Q : Int → Prop) : fnE ⟨tt, sp_wneg, noX, [(0, cor_l0_sp x)], [], []⟩ Try.f46 (argsE (.one (Ty.sl (Ty.int IntKind.i64))) x) (heapE (.one (Ty.sl (Ty.int IntKind.i64))) x) (retE (.one (Ty.int IntKind.i64)) Q) =
 (Exists fun s0 : Int => Weak ⟨[.v (.one (.full 0)), und, vi (0 : Int), vi (0 : Int), und, und, .v (.one (.full 0)), vi (((List.length x) : Nat) : Int), vi (0 : Int), und, und, und, und, und, und, und, und, und], [.row (Ty.int IntKind.i64) x 0]⟩ (cor_l0_tm x s0) ∧ Term (cor_l0_step x) (cor_l0_pre x) s0 ∧ ∀ r : (Int ⊕ Unit), r = run (cor_l0_step x) s0 →
 (cS r (fun a =>
 (Q a)) (fun b =>
 (Q (0 : Int))))) := by kernel_rfl
theorem cor_fn (x : (List Int)) (Q : Int → Prop) (hp : cor_pre x) (hq : Q (cor x)) : Vc (fnE ⟨tt, sp_wneg, noX, [(0, cor_l0_sp x)], [], []⟩ Try.f46 (argsE (.one (Ty.sl (Ty.int IntKind.i64))) x) (heapE (.one (Ty.sl (Ty.int IntKind.i64))) x) (retE (.one (Ty.int IntKind.i64)) Q)) := .eq (cor_vc x Q) (have hp := Eq.mp (cor_pre.eq_1 x) hp; have hq := Eq.mp (congrArg Q (cor.eq_1 x)) hq;
 (Exists.intro (0 : Int) (And.intro (ren_ok (π := [.same 0]) (And.intro rfl (And.intro rfl (And.intro rfl (And.intro rfl trivial)))) (And.intro (ren_same rfl rfl) trivial) rfl) (And.intro hp (let_0 (Q := Q) hq fun r hq => (cS_k (Q := Q) (P := fun _ => True) (P' := fun _ => True) (by cases r <;> trivial) hq (fun a _ hq => hq) (fun b _ hq => hq)))))))
noncomputable def cor_S : FnS := ⟨(.one (Ty.sl (Ty.int IntKind.i64))), (.one (Ty.int IntKind.i64)), cor_pre, cor⟩
theorem cor_ok : SpecOk Try.prog 46 (fnSpec cor_S) := SpecOk.fnT' (fn := Try.f46) tt_ok sp_wneg_ok mixed (by kernel_rfl) (by kernel_rfl) (.one (Ty.sl (Ty.int IntKind.i64))) (.one (Ty.int IntKind.i64)) cor_pre cor (by kernel_rfl) fun x hp => ⟨_, _, (ItsOk.nil _ _), (LpsOk.consV tt_ok (SpecsOk.ctxI sp_wneg_ok (ItsOk.nil _ _)) mixed LpsOk.nil (by kernel_rfl) (by kernel_rfl) (cor_l0_ok x)), cor_fn x (fun y => y = cor x) hp rfl⟩
def sp_cor : List (Nat × Ev.Spec) := (46, fnSpec cor_S) :: sp_wneg
theorem sp_cor_ok : SpecsOk Try.prog sp_cor := SpecsOk.cons (Enters.of (fn := Try.f46) (by kernel_rfl) (by kernel_rfl) (by kernel_rfl)) cor_ok sp_wneg_ok
noncomputable def wmul (x : (Int × Int)) : ((Int × Int) × Int) :=
 (if ((maxI x.1 x.2) > (1000000000000000000 : Int)) then
 (((0 : Int), (0 : Int)), (2 : Int)) else
 (if ((minI x.1 x.2) < (-1000000000000000000 : Int)) then
 (((0 : Int), (0 : Int)), (2 : Int)) else
 (letV (halves (maxI x.1 (w64 ((0 : Int) - x.1)))) fun y =>
 (letV (halves (maxI x.2 (w64 ((0 : Int) - x.2)))) fun y_1 =>
 (if ((!((decide (x.1 < (0 : Int))) == (decide (x.2 < (0 : Int))))) = true) then
 (letV (wneg ((w64 ((w64 ((w64 (y.1 * y_1.1)) + (w64 (Int.tdiv (w64 ((w64 (y.1 * y_1.2)) + (w64 (y.2 * y_1.1)))) (1000000000 : Int))))) + (w64 (Int.tdiv (w64 ((w64 (y.2 * y_1.2)) + (w64 ((Int.tmod (w64 ((w64 (y.1 * y_1.2)) + (w64 (y.2 * y_1.1)))) (1000000000 : Int)) * (1000000000 : Int))))) (1000000000000000000 : Int))))), (Int.tmod (w64 ((w64 (y.2 * y_1.2)) + (w64 ((Int.tmod (w64 ((w64 (y.1 * y_1.2)) + (w64 (y.2 * y_1.1)))) (1000000000 : Int)) * (1000000000 : Int))))) (1000000000000000000 : Int)))) fun y_2 =>
 y_2) else
 (((w64 ((w64 ((w64 (y.1 * y_1.1)) + (w64 (Int.tdiv (w64 ((w64 (y.1 * y_1.2)) + (w64 (y.2 * y_1.1)))) (1000000000 : Int))))) + (w64 (Int.tdiv (w64 ((w64 (y.2 * y_1.2)) + (w64 ((Int.tmod (w64 ((w64 (y.1 * y_1.2)) + (w64 (y.2 * y_1.1)))) (1000000000 : Int)) * (1000000000 : Int))))) (1000000000000000000 : Int))))), (Int.tmod (w64 ((w64 (y.2 * y_1.2)) + (w64 ((Int.tmod (w64 ((w64 (y.1 * y_1.2)) + (w64 (y.2 * y_1.1)))) (1000000000 : Int)) * (1000000000 : Int))))) (1000000000000000000 : Int))), (0 : Int)))))))
noncomputable def wmul_pre (_ : (Int × Int)) : Prop := True
theorem wmul_vc (x : (Int × Int)) (Q : ((Int × Int) × Int) → Prop) : fnE ⟨tt, sp_cor, noX, [], [], []⟩ Try.f44 (argsE (.pair (.one (Ty.int IntKind.i64)) (.one (Ty.int IntKind.i64))) x) (heapE (.pair (.one (Ty.int IntKind.i64)) (.one (Ty.int IntKind.i64))) x) (retE (.pair (.agg (Ty.prod (Ty.int IntKind.i64) (Ty.int IntKind.i64))) (.one (Ty.int IntKind.i64))) Q) =
 (cB (decide ((maxI x.1 x.2) > (1000000000000000000 : Int)))
 (Q (((0 : Int), (0 : Int)), (2 : Int)))
 (cB (decide ((minI x.1 x.2) < (-1000000000000000000 : Int)))
 (Q (((0 : Int), (0 : Int)), (2 : Int)))
 ((halves_pre (maxI x.1 (w64 ((0 : Int) - x.1)))) ∧ ∀ y : (Int × Int), y = (halves (maxI x.1 (w64 ((0 : Int) - x.1)))) →
 ((halves_pre (maxI x.2 (w64 ((0 : Int) - x.2)))) ∧ ∀ y_1 : (Int × Int), y_1 = (halves (maxI x.2 (w64 ((0 : Int) - x.2)))) →
 (cB (!((decide (x.1 < (0 : Int))) == (decide (x.2 < (0 : Int)))))
 ((wneg_pre ((w64 ((w64 ((w64 (y.1 * y_1.1)) + (w64 (Int.tdiv (w64 ((w64 (y.1 * y_1.2)) + (w64 (y.2 * y_1.1)))) (1000000000 : Int))))) + (w64 (Int.tdiv (w64 ((w64 (y.2 * y_1.2)) + (w64 ((Int.tmod (w64 ((w64 (y.1 * y_1.2)) + (w64 (y.2 * y_1.1)))) (1000000000 : Int)) * (1000000000 : Int))))) (1000000000000000000 : Int))))), (Int.tmod (w64 ((w64 (y.2 * y_1.2)) + (w64 ((Int.tmod (w64 ((w64 (y.1 * y_1.2)) + (w64 (y.2 * y_1.1)))) (1000000000 : Int)) * (1000000000 : Int))))) (1000000000000000000 : Int)))) ∧ ∀ y_2 : ((Int × Int) × Int), y_2 = (wneg ((w64 ((w64 ((w64 (y.1 * y_1.1)) + (w64 (Int.tdiv (w64 ((w64 (y.1 * y_1.2)) + (w64 (y.2 * y_1.1)))) (1000000000 : Int))))) + (w64 (Int.tdiv (w64 ((w64 (y.2 * y_1.2)) + (w64 ((Int.tmod (w64 ((w64 (y.1 * y_1.2)) + (w64 (y.2 * y_1.1)))) (1000000000 : Int)) * (1000000000 : Int))))) (1000000000000000000 : Int))))), (Int.tmod (w64 ((w64 (y.2 * y_1.2)) + (w64 ((Int.tmod (w64 ((w64 (y.1 * y_1.2)) + (w64 (y.2 * y_1.1)))) (1000000000 : Int)) * (1000000000 : Int))))) (1000000000000000000 : Int)))) →
 (Q y_2))
 (Q (((w64 ((w64 ((w64 (y.1 * y_1.1)) + (w64 (Int.tdiv (w64 ((w64 (y.1 * y_1.2)) + (w64 (y.2 * y_1.1)))) (1000000000 : Int))))) + (w64 (Int.tdiv (w64 ((w64 (y.2 * y_1.2)) + (w64 ((Int.tmod (w64 ((w64 (y.1 * y_1.2)) + (w64 (y.2 * y_1.1)))) (1000000000 : Int)) * (1000000000 : Int))))) (1000000000000000000 : Int))))), (Int.tmod (w64 ((w64 (y.2 * y_1.2)) + (w64 ((Int.tmod (w64 ((w64 (y.1 * y_1.2)) + (w64 (y.2 * y_1.1)))) (1000000000 : Int)) * (1000000000 : Int))))) (1000000000000000000 : Int))), (0 : Int)))))))) := by kernel_rfl
theorem wmul_fn (x : (Int × Int)) (Q : ((Int × Int) × Int) → Prop) (hp : wmul_pre x) (hq : Q (wmul x)) : Vc (fnE ⟨tt, sp_cor, noX, [], [], []⟩ Try.f44 (argsE (.pair (.one (Ty.int IntKind.i64)) (.one (Ty.int IntKind.i64))) x) (heapE (.pair (.one (Ty.int IntKind.i64)) (.one (Ty.int IntKind.i64))) x) (retE (.pair (.agg (Ty.prod (Ty.int IntKind.i64) (Ty.int IntKind.i64))) (.one (Ty.int IntKind.i64))) Q)) := .eq (wmul_vc x Q) (have hp := Eq.mp (wmul_pre.eq_1 x) hp; have hq := Eq.mp (congrArg Q (wmul.eq_1 x)) hq;
 (cB_d (Q := Q) hq (fun c hq => hq) (fun c hq => (cB_d (Q := Q) hq (fun c hq => hq) (fun c hq => (And.intro trivial (let_0 (Q := Q) hq fun y hq => (And.intro trivial (let_0 (Q := Q) hq fun y_1 hq => (cB_b (Q := Q) hq (fun c hq => (And.intro trivial (let_0 (Q := Q) hq fun y_2 hq => hq))) (fun c hq => hq)))))))))))
noncomputable def wmul_S : FnS := ⟨(.pair (.one (Ty.int IntKind.i64)) (.one (Ty.int IntKind.i64))), (.pair (.agg (Ty.prod (Ty.int IntKind.i64) (Ty.int IntKind.i64))) (.one (Ty.int IntKind.i64))), wmul_pre, wmul⟩
theorem wmul_ok : SpecOk Try.prog 44 (fnSpec wmul_S) := SpecOk.fnT' (fn := Try.f44) tt_ok sp_cor_ok mixed (by kernel_rfl) (by kernel_rfl) (.pair (.one (Ty.int IntKind.i64)) (.one (Ty.int IntKind.i64))) (.pair (.agg (Ty.prod (Ty.int IntKind.i64) (Ty.int IntKind.i64))) (.one (Ty.int IntKind.i64))) wmul_pre wmul (by kernel_rfl) fun x hp => ⟨_, _, (ItsOk.nil _ _), LpsOk.nil, wmul_fn x (fun y => y = wmul x) hp rfl⟩
def sp_wmul : List (Nat × Ev.Spec) := (44, fnSpec wmul_S) :: sp_cor
theorem sp_wmul_ok : SpecsOk Try.prog sp_wmul := SpecsOk.cons (Enters.of (fn := Try.f44) (by kernel_rfl) (by kernel_rfl) (by kernel_rfl)) wmul_ok sp_cor_ok
noncomputable def wcmp (x : ((Int × Int) × (Int × Int))) : Int :=
 (if (((x.1.1 == x.2.1) && ((x.1.2 == x.2.2) && true)) = true) then
 (0 : Int) else
 (letV (compare (x.1.1, x.2.1)) fun y =>
 (letV (compare (x.1.2, x.2.2)) fun y_1 =>
 (letV (cor [y, y_1]) fun y_2 =>
 y_2))))
noncomputable def wcmp_pre (x : ((Int × Int) × (Int × Int))) : Prop :=
 (¬ (((x.1.1 == x.2.1) && ((x.1.2 == x.2.2) && true)) = true) →
 (letP (compare (x.1.1, x.2.1)) fun y =>
 (letP (compare (x.1.2, x.2.2)) fun y_1 =>
 (cor_pre [y, y_1]))))
theorem wcmp_vc (x : ((Int × Int) × (Int × Int))) (Q : Int → Prop) : fnE ⟨tt, sp_wmul, noX, [], [], []⟩ Try.f45 (argsE (.pair (.agg (Ty.prod (Ty.int IntKind.i64) (Ty.int IntKind.i64))) (.agg (Ty.prod (Ty.int IntKind.i64) (Ty.int IntKind.i64)))) x) (heapE (.pair (.agg (Ty.prod (Ty.int IntKind.i64) (Ty.int IntKind.i64))) (.agg (Ty.prod (Ty.int IntKind.i64) (Ty.int IntKind.i64)))) x) (retE (.one (Ty.int IntKind.i64)) Q) =
 (cB ((x.1.1 == x.2.1) && ((x.1.2 == x.2.2) && true))
 (Q (0 : Int))
 ((compare_pre (x.1.1, x.2.1)) ∧ ∀ y : Int, y = (compare (x.1.1, x.2.1)) →
 ((compare_pre (x.1.2, x.2.2)) ∧ ∀ y_1 : Int, y_1 = (compare (x.1.2, x.2.2)) →
 ((cor_pre [y, y_1]) ∧ ∀ y_2 : Int, y_2 = (cor [y, y_1]) →
 (Q y_2))))) := by kernel_rfl
theorem wcmp_fn (x : ((Int × Int) × (Int × Int))) (Q : Int → Prop) (hp : wcmp_pre x) (hq : Q (wcmp x)) : Vc (fnE ⟨tt, sp_wmul, noX, [], [], []⟩ Try.f45 (argsE (.pair (.agg (Ty.prod (Ty.int IntKind.i64) (Ty.int IntKind.i64))) (.agg (Ty.prod (Ty.int IntKind.i64) (Ty.int IntKind.i64)))) x) (heapE (.pair (.agg (Ty.prod (Ty.int IntKind.i64) (Ty.int IntKind.i64))) (.agg (Ty.prod (Ty.int IntKind.i64) (Ty.int IntKind.i64)))) x) (retE (.one (Ty.int IntKind.i64)) Q)) := .eq (wcmp_vc x Q) (have hp := Eq.mp (wcmp_pre.eq_1 x) hp; have hq := Eq.mp (congrArg Q (wcmp.eq_1 x)) hq;
 (cB_b (Q := Q) hq (fun c hq => hq) (fun c hq => have hp := (hp c); (And.intro trivial (let_k (Q := Q) hp hq fun y hp hq => (And.intro trivial (let_k (Q := Q) hp hq fun y_1 hp hq => (And.intro hp (let_0 (Q := Q) hq fun y_2 hq => hq)))))))))
noncomputable def wcmp_S : FnS := ⟨(.pair (.agg (Ty.prod (Ty.int IntKind.i64) (Ty.int IntKind.i64))) (.agg (Ty.prod (Ty.int IntKind.i64) (Ty.int IntKind.i64)))), (.one (Ty.int IntKind.i64)), wcmp_pre, wcmp⟩
theorem wcmp_ok : SpecOk Try.prog 45 (fnSpec wcmp_S) := SpecOk.fnT' (fn := Try.f45) tt_ok sp_wmul_ok mixed (by kernel_rfl) (by kernel_rfl) (.pair (.agg (Ty.prod (Ty.int IntKind.i64) (Ty.int IntKind.i64))) (.agg (Ty.prod (Ty.int IntKind.i64) (Ty.int IntKind.i64)))) (.one (Ty.int IntKind.i64)) wcmp_pre wcmp (by kernel_rfl) fun x hp => ⟨_, _, (ItsOk.nil _ _), LpsOk.nil, wcmp_fn x (fun y => y = wcmp x) hp rfl⟩
def sp_wcmp : List (Nat × Ev.Spec) := (45, fnSpec wcmp_S) :: sp_wmul
theorem sp_wcmp_ok : SpecsOk Try.prog sp_wcmp := SpecsOk.cons (Enters.of (fn := Try.f45) (by kernel_rfl) (by kernel_rfl) (by kernel_rfl)) wcmp_ok sp_wmul_ok
noncomputable def over (x : (Int × Int)) : Int :=
 (if ((x.2 == (0 : Int)) = true) then
 (3 : Int) else
 (if ((x.1 == (-9223372036854775808 : Int)) = true) then
 (if ((x.2 == (-1 : Int)) = true) then
 (4 : Int) else
 (0 : Int)) else
 (0 : Int)))
noncomputable def over_pre (_ : (Int × Int)) : Prop := True
theorem over_vc (x : (Int × Int)) (Q : Int → Prop) : fnE ⟨tt, sp_wcmp, noX, [], [], []⟩ Try.f71 (argsE (.pair (.one (Ty.int IntKind.i64)) (.one (Ty.int IntKind.i64))) x) (heapE (.pair (.one (Ty.int IntKind.i64)) (.one (Ty.int IntKind.i64))) x) (retE (.one (Ty.int IntKind.i64)) Q) =
 (cB (x.2 == (0 : Int))
 (Q (3 : Int))
 (cB (x.1 == (-9223372036854775808 : Int))
 (cB (x.2 == (-1 : Int))
 (Q (4 : Int))
 (Q (0 : Int)))
 (Q (0 : Int)))) := by kernel_rfl
theorem over_fn (x : (Int × Int)) (Q : Int → Prop) (hp : over_pre x) (hq : Q (over x)) : Vc (fnE ⟨tt, sp_wcmp, noX, [], [], []⟩ Try.f71 (argsE (.pair (.one (Ty.int IntKind.i64)) (.one (Ty.int IntKind.i64))) x) (heapE (.pair (.one (Ty.int IntKind.i64)) (.one (Ty.int IntKind.i64))) x) (retE (.one (Ty.int IntKind.i64)) Q)) := .eq (over_vc x Q) (have hp := Eq.mp (over_pre.eq_1 x) hp; have hq := Eq.mp (congrArg Q (over.eq_1 x)) hq;
 (cB_b (Q := Q) hq (fun c hq => hq) (fun c hq => (cB_b (Q := Q) hq (fun c hq => (cB_b (Q := Q) hq (fun c hq => hq) (fun c hq => hq))) (fun c hq => hq)))))
noncomputable def over_S : FnS := ⟨(.pair (.one (Ty.int IntKind.i64)) (.one (Ty.int IntKind.i64))), (.one (Ty.int IntKind.i64)), over_pre, over⟩
theorem over_ok : SpecOk Try.prog 71 (fnSpec over_S) := SpecOk.fnT' (fn := Try.f71) tt_ok sp_wcmp_ok mixed (by kernel_rfl) (by kernel_rfl) (.pair (.one (Ty.int IntKind.i64)) (.one (Ty.int IntKind.i64))) (.one (Ty.int IntKind.i64)) over_pre over (by kernel_rfl) fun x hp => ⟨_, _, (ItsOk.nil _ _), LpsOk.nil, over_fn x (fun y => y = over x) hp rfl⟩
def sp_over : List (Nat × Ev.Spec) := (71, fnSpec over_S) :: sp_wcmp
theorem sp_over_ok : SpecsOk Try.prog sp_over := SpecsOk.cons (Enters.of (fn := Try.f71) (by kernel_rfl) (by kernel_rfl) (by kernel_rfl)) over_ok sp_wcmp_ok
noncomputable def wfloor (x : (Int × Int)) : (Int × (Int × Int)) :=
 (letV (over x) fun y =>
 (if ((y != (0 : Int)) = true) then
 ((0 : Int), ((0 : Int), y)) else
 (if (((Int.tmod x.1 x.2) != (0 : Int)) = true) then
 (if ((w64 (((BitVec.toNat ((BitVec.ofInt 64 (Int.tmod x.1 x.2)) ^^^ (BitVec.ofInt 64 x.2))) : Nat) : Int)) < (0 : Int)) then
 ((w64 ((w64 (Int.tdiv x.1 x.2)) - (1 : Int))), ((w64 ((Int.tmod x.1 x.2) + x.2)), (0 : Int))) else
 ((w64 (Int.tdiv x.1 x.2)), ((Int.tmod x.1 x.2), (0 : Int)))) else
 ((w64 (Int.tdiv x.1 x.2)), ((Int.tmod x.1 x.2), (0 : Int))))))
noncomputable def wfloor_pre (x : (Int × Int)) : Prop :=
 (letP (over x) fun y =>
 (¬ ((y != (0 : Int)) = true) →
 ((x.2 ≠ (0 : Int)) ∧
 (x.2 ≠ (0 : Int)))))
theorem wfloor_vc (x : (Int × Int)) (Q : (Int × (Int × Int)) → Prop) : fnE ⟨tt, sp_over, noX, [], [], []⟩ Try.f60 (argsE (.pair (.one (Ty.int IntKind.i64)) (.one (Ty.int IntKind.i64))) x) (heapE (.pair (.one (Ty.int IntKind.i64)) (.one (Ty.int IntKind.i64))) x) (retE (.pair (.one (Ty.int IntKind.i64)) (.pair (.one (Ty.int IntKind.i64)) (.one (Ty.int IntKind.i64)))) Q) =
 ((over_pre x) ∧ ∀ y : Int, y = (over x) →
 (cB (y != (0 : Int))
 (Q ((0 : Int), ((0 : Int), y)))
 (ob (decide (x.2 ≠ (0 : Int)))
 (ob (decide (x.2 ≠ (0 : Int)))
 (cB ((Int.tmod x.1 x.2) != (0 : Int))
 (cB (decide ((w64 (((BitVec.toNat ((BitVec.ofInt 64 (Int.tmod x.1 x.2)) ^^^ (BitVec.ofInt 64 x.2))) : Nat) : Int)) < (0 : Int)))
 (Q ((w64 ((w64 (Int.tdiv x.1 x.2)) - (1 : Int))), ((w64 ((Int.tmod x.1 x.2) + x.2)), (0 : Int))))
 (Q ((w64 (Int.tdiv x.1 x.2)), ((Int.tmod x.1 x.2), (0 : Int)))))
 (Q ((w64 (Int.tdiv x.1 x.2)), ((Int.tmod x.1 x.2), (0 : Int))))))))) := by kernel_rfl
theorem wfloor_fn (x : (Int × Int)) (Q : (Int × (Int × Int)) → Prop) (hp : wfloor_pre x) (hq : Q (wfloor x)) : Vc (fnE ⟨tt, sp_over, noX, [], [], []⟩ Try.f60 (argsE (.pair (.one (Ty.int IntKind.i64)) (.one (Ty.int IntKind.i64))) x) (heapE (.pair (.one (Ty.int IntKind.i64)) (.one (Ty.int IntKind.i64))) x) (retE (.pair (.one (Ty.int IntKind.i64)) (.pair (.one (Ty.int IntKind.i64)) (.one (Ty.int IntKind.i64)))) Q)) := .eq (wfloor_vc x Q) (have hp := Eq.mp (wfloor_pre.eq_1 x) hp; have hq := Eq.mp (congrArg Q (wfloor.eq_1 x)) hq;
 (And.intro trivial (let_k (Q := Q) hp hq fun y hp hq => (cB_b (Q := Q) hq (fun c hq => hq) (fun c hq => have hp := (hp c); (ob_k (decide_eq_true hp.1) (have hp := hp.2; (ob_k (decide_eq_true hp) (cB_b (Q := Q) hq (fun c hq => (cB_d (Q := Q) hq (fun c hq => hq) (fun c hq => hq))) (fun c hq => hq))))))))))
noncomputable def wfloor_S : FnS := ⟨(.pair (.one (Ty.int IntKind.i64)) (.one (Ty.int IntKind.i64))), (.pair (.one (Ty.int IntKind.i64)) (.pair (.one (Ty.int IntKind.i64)) (.one (Ty.int IntKind.i64)))), wfloor_pre, wfloor⟩
theorem wfloor_ok : SpecOk Try.prog 60 (fnSpec wfloor_S) := SpecOk.fnT' (fn := Try.f60) tt_ok sp_over_ok mixed (by kernel_rfl) (by kernel_rfl) (.pair (.one (Ty.int IntKind.i64)) (.one (Ty.int IntKind.i64))) (.pair (.one (Ty.int IntKind.i64)) (.pair (.one (Ty.int IntKind.i64)) (.one (Ty.int IntKind.i64)))) wfloor_pre wfloor (by kernel_rfl) fun x hp => ⟨_, _, (ItsOk.nil _ _), LpsOk.nil, wfloor_fn x (fun y => y = wfloor x) hp rfl⟩
def sp_wfloor : List (Nat × Ev.Spec) := (60, fnSpec wfloor_S) :: sp_over
theorem sp_wfloor_ok : SpecsOk Try.prog sp_wfloor := SpecsOk.cons (Enters.of (fn := Try.f60) (by kernel_rfl) (by kernel_rfl) (by kernel_rfl)) wfloor_ok sp_over_ok
noncomputable def floor (x : (Int × Int)) : Int :=
 (letV (wfloor x) fun y =>
 y.1)
noncomputable def floor_pre (x : (Int × Int)) : Prop :=
 (wfloor_pre x)
theorem floor_vc (x : (Int × Int)) (Q : Int → Prop) : fnE ⟨tt, sp_wfloor, noX, [], [], []⟩ Try.f37 (argsE (.pair (.one (Ty.int IntKind.i64)) (.one (Ty.int IntKind.i64))) x) (heapE (.pair (.one (Ty.int IntKind.i64)) (.one (Ty.int IntKind.i64))) x) (retE (.one (Ty.int IntKind.i64)) Q) =
 ((wfloor_pre x) ∧ ∀ y : (Int × (Int × Int)), y = (wfloor x) →
 (Q y.1)) := by kernel_rfl
theorem floor_fn (x : (Int × Int)) (Q : Int → Prop) (hp : floor_pre x) (hq : Q (floor x)) : Vc (fnE ⟨tt, sp_wfloor, noX, [], [], []⟩ Try.f37 (argsE (.pair (.one (Ty.int IntKind.i64)) (.one (Ty.int IntKind.i64))) x) (heapE (.pair (.one (Ty.int IntKind.i64)) (.one (Ty.int IntKind.i64))) x) (retE (.one (Ty.int IntKind.i64)) Q)) := .eq (floor_vc x Q) (have hp := Eq.mp (floor_pre.eq_1 x) hp; have hq := Eq.mp (congrArg Q (floor.eq_1 x)) hq;
 (And.intro hp (let_0 (Q := Q) hq fun y hq => hq)))
noncomputable def floor_S : FnS := ⟨(.pair (.one (Ty.int IntKind.i64)) (.one (Ty.int IntKind.i64))), (.one (Ty.int IntKind.i64)), floor_pre, floor⟩
theorem floor_ok : SpecOk Try.prog 37 (fnSpec floor_S) := SpecOk.fnT' (fn := Try.f37) tt_ok sp_wfloor_ok mixed (by kernel_rfl) (by kernel_rfl) (.pair (.one (Ty.int IntKind.i64)) (.one (Ty.int IntKind.i64))) (.one (Ty.int IntKind.i64)) floor_pre floor (by kernel_rfl) fun x hp => ⟨_, _, (ItsOk.nil _ _), LpsOk.nil, floor_fn x (fun y => y = floor x) hp rfl⟩
def sp_floor : List (Nat × Ev.Spec) := (37, fnSpec floor_S) :: sp_wfloor
theorem sp_floor_ok : SpecsOk Try.prog sp_floor := SpecsOk.cons (Enters.of (fn := Try.f37) (by kernel_rfl) (by kernel_rfl) (by kernel_rfl)) floor_ok sp_wfloor_ok
noncomputable def parea (x : ((Int × Int) × ((Int × Int) × (Int × Int)))) : (Int × Int) :=
 (letV (small2 [x.1, x.2.1, x.2.2]) fun y =>
 (if ((!y) = true) then
 ((0 : Int), (5 : Int)) else
 (letV (sub2 (x.2.1, x.1)) fun y_1 =>
 (letV (sub2 (x.2.2, x.1)) fun y_2 =>
 (letV (cross2 (y_1, y_2)) fun y_3 =>
 y_3)))))
noncomputable def parea_pre (x : ((Int × Int) × ((Int × Int) × (Int × Int)))) : Prop :=
 ((small2_pre [x.1, x.2.1, x.2.2]) ∧
 letP (small2 [x.1, x.2.1, x.2.2]) fun y =>
 (¬ ((!y) = true) →
 ((sub2_pre (x.2.1, x.1)) ∧
 letP (sub2 (x.2.1, x.1)) fun y_1 =>
 ((sub2_pre (x.2.2, x.1)) ∧
 letP (sub2 (x.2.2, x.1)) fun y_2 =>
 (cross2_pre (y_1, y_2))))))
theorem parea_vc (x : ((Int × Int) × ((Int × Int) × (Int × Int)))) (Q : (Int × Int) → Prop) : fnE ⟨tt, sp_floor, noX, [], [], []⟩ Try.f42 (argsE (.agg (Ty.prod (Ty.prod (Ty.int IntKind.i64) (Ty.int IntKind.i64)) (Ty.prod (Ty.prod (Ty.int IntKind.i64) (Ty.int IntKind.i64)) (Ty.prod (Ty.int IntKind.i64) (Ty.int IntKind.i64))))) x) (heapE (.agg (Ty.prod (Ty.prod (Ty.int IntKind.i64) (Ty.int IntKind.i64)) (Ty.prod (Ty.prod (Ty.int IntKind.i64) (Ty.int IntKind.i64)) (Ty.prod (Ty.int IntKind.i64) (Ty.int IntKind.i64))))) x) (retE (.pair (.one (Ty.int IntKind.i64)) (.one (Ty.int IntKind.i64))) Q) =
 ((small2_pre [x.1, x.2.1, x.2.2]) ∧ ∀ y : Bool, y = (small2 [x.1, x.2.1, x.2.2]) →
 (cB (!y)
 (Q ((0 : Int), (5 : Int)))
 ((sub2_pre (x.2.1, x.1)) ∧ ∀ y_1 : (Int × Int), y_1 = (sub2 (x.2.1, x.1)) →
 ((sub2_pre (x.2.2, x.1)) ∧ ∀ y_2 : (Int × Int), y_2 = (sub2 (x.2.2, x.1)) →
 ((cross2_pre (y_1, y_2)) ∧ ∀ y_3 : (Int × Int), y_3 = (cross2 (y_1, y_2)) →
 (Q y_3)))))) := by kernel_rfl
theorem parea_fn (x : ((Int × Int) × ((Int × Int) × (Int × Int)))) (Q : (Int × Int) → Prop) (hp : parea_pre x) (hq : Q (parea x)) : Vc (fnE ⟨tt, sp_floor, noX, [], [], []⟩ Try.f42 (argsE (.agg (Ty.prod (Ty.prod (Ty.int IntKind.i64) (Ty.int IntKind.i64)) (Ty.prod (Ty.prod (Ty.int IntKind.i64) (Ty.int IntKind.i64)) (Ty.prod (Ty.int IntKind.i64) (Ty.int IntKind.i64))))) x) (heapE (.agg (Ty.prod (Ty.prod (Ty.int IntKind.i64) (Ty.int IntKind.i64)) (Ty.prod (Ty.prod (Ty.int IntKind.i64) (Ty.int IntKind.i64)) (Ty.prod (Ty.int IntKind.i64) (Ty.int IntKind.i64))))) x) (retE (.pair (.one (Ty.int IntKind.i64)) (.one (Ty.int IntKind.i64))) Q)) := .eq (parea_vc x Q) (have hp := Eq.mp (parea_pre.eq_1 x) hp; have hq := Eq.mp (congrArg Q (parea.eq_1 x)) hq;
 (And.intro hp.1 (let_k (Q := Q) hp.2 hq fun y hp hq => (cB_b (Q := Q) hq (fun c hq => hq) (fun c hq => have hp := (hp c); (And.intro hp.1 (let_k (Q := Q) hp.2 hq fun y_1 hp hq => (And.intro hp.1 (let_k (Q := Q) hp.2 hq fun y_2 hp hq => (And.intro hp (let_0 (Q := Q) hq fun y_3 hq => hq)))))))))))
noncomputable def parea_S : FnS := ⟨(.agg (Ty.prod (Ty.prod (Ty.int IntKind.i64) (Ty.int IntKind.i64)) (Ty.prod (Ty.prod (Ty.int IntKind.i64) (Ty.int IntKind.i64)) (Ty.prod (Ty.int IntKind.i64) (Ty.int IntKind.i64))))), (.pair (.one (Ty.int IntKind.i64)) (.one (Ty.int IntKind.i64))), parea_pre, parea⟩
theorem parea_ok : SpecOk Try.prog 42 (fnSpec parea_S) := SpecOk.fnT' (fn := Try.f42) tt_ok sp_floor_ok mixed (by kernel_rfl) (by kernel_rfl) (.agg (Ty.prod (Ty.prod (Ty.int IntKind.i64) (Ty.int IntKind.i64)) (Ty.prod (Ty.prod (Ty.int IntKind.i64) (Ty.int IntKind.i64)) (Ty.prod (Ty.int IntKind.i64) (Ty.int IntKind.i64))))) (.pair (.one (Ty.int IntKind.i64)) (.one (Ty.int IntKind.i64))) parea_pre parea (by kernel_rfl) fun x hp => ⟨_, _, (ItsOk.nil _ _), LpsOk.nil, parea_fn x (fun y => y = parea x) hp rfl⟩
def sp_parea : List (Nat × Ev.Spec) := (42, fnSpec parea_S) :: sp_floor
theorem sp_parea_ok : SpecsOk Try.prog sp_parea := SpecsOk.cons (Enters.of (fn := Try.f42) (by kernel_rfl) (by kernel_rfl) (by kernel_rfl)) parea_ok sp_floor_ok
noncomputable def sarea (x : ((Int × Int) × ((Int × Int) × (Int × Int)))) : (Int × Int) :=
 (letV (parea x) fun y =>
 y)
noncomputable def sarea_pre (x : ((Int × Int) × ((Int × Int) × (Int × Int)))) : Prop :=
 (parea_pre x)
theorem sarea_vc (x : ((Int × Int) × ((Int × Int) × (Int × Int)))) (Q : (Int × Int) → Prop) : fnE ⟨tt, sp_parea, noX, [], [], []⟩ Try.f25 (argsE (.pair (.agg (Ty.prod (Ty.int IntKind.i64) (Ty.int IntKind.i64))) (.pair (.agg (Ty.prod (Ty.int IntKind.i64) (Ty.int IntKind.i64))) (.agg (Ty.prod (Ty.int IntKind.i64) (Ty.int IntKind.i64))))) x) (heapE (.pair (.agg (Ty.prod (Ty.int IntKind.i64) (Ty.int IntKind.i64))) (.pair (.agg (Ty.prod (Ty.int IntKind.i64) (Ty.int IntKind.i64))) (.agg (Ty.prod (Ty.int IntKind.i64) (Ty.int IntKind.i64))))) x) (retE (.pair (.one (Ty.int IntKind.i64)) (.one (Ty.int IntKind.i64))) Q) =
 ((parea_pre x) ∧ ∀ y : (Int × Int), y = (parea x) →
 (Q y)) := by kernel_rfl
theorem sarea_fn (x : ((Int × Int) × ((Int × Int) × (Int × Int)))) (Q : (Int × Int) → Prop) (hp : sarea_pre x) (hq : Q (sarea x)) : Vc (fnE ⟨tt, sp_parea, noX, [], [], []⟩ Try.f25 (argsE (.pair (.agg (Ty.prod (Ty.int IntKind.i64) (Ty.int IntKind.i64))) (.pair (.agg (Ty.prod (Ty.int IntKind.i64) (Ty.int IntKind.i64))) (.agg (Ty.prod (Ty.int IntKind.i64) (Ty.int IntKind.i64))))) x) (heapE (.pair (.agg (Ty.prod (Ty.int IntKind.i64) (Ty.int IntKind.i64))) (.pair (.agg (Ty.prod (Ty.int IntKind.i64) (Ty.int IntKind.i64))) (.agg (Ty.prod (Ty.int IntKind.i64) (Ty.int IntKind.i64))))) x) (retE (.pair (.one (Ty.int IntKind.i64)) (.one (Ty.int IntKind.i64))) Q)) := .eq (sarea_vc x Q) (have hp := Eq.mp (sarea_pre.eq_1 x) hp; have hq := Eq.mp (congrArg Q (sarea.eq_1 x)) hq;
 (And.intro hp (let_0 (Q := Q) hq fun y hq => hq)))
noncomputable def sarea_S : FnS := ⟨(.pair (.agg (Ty.prod (Ty.int IntKind.i64) (Ty.int IntKind.i64))) (.pair (.agg (Ty.prod (Ty.int IntKind.i64) (Ty.int IntKind.i64))) (.agg (Ty.prod (Ty.int IntKind.i64) (Ty.int IntKind.i64))))), (.pair (.one (Ty.int IntKind.i64)) (.one (Ty.int IntKind.i64))), sarea_pre, sarea⟩
theorem sarea_ok : SpecOk Try.prog 25 (fnSpec sarea_S) := SpecOk.fnT' (fn := Try.f25) tt_ok sp_parea_ok mixed (by kernel_rfl) (by kernel_rfl) (.pair (.agg (Ty.prod (Ty.int IntKind.i64) (Ty.int IntKind.i64))) (.pair (.agg (Ty.prod (Ty.int IntKind.i64) (Ty.int IntKind.i64))) (.agg (Ty.prod (Ty.int IntKind.i64) (Ty.int IntKind.i64))))) (.pair (.one (Ty.int IntKind.i64)) (.one (Ty.int IntKind.i64))) sarea_pre sarea (by kernel_rfl) fun x hp => ⟨_, _, (ItsOk.nil _ _), LpsOk.nil, sarea_fn x (fun y => y = sarea x) hp rfl⟩
def sp_sarea : List (Nat × Ev.Spec) := (25, fnSpec sarea_S) :: sp_parea
theorem sp_sarea_ok : SpecsOk Try.prog sp_sarea := SpecsOk.cons (Enters.of (fn := Try.f25) (by kernel_rfl) (by kernel_rfl) (by kernel_rfl)) sarea_ok sp_parea_ok
noncomputable def sside (x : ((Int × Int) × ((Int × Int) × (Int × Int)))) : (Int × Int) :=
 (letV (sarea x) fun y =>
 (letV (compare (y.1, (0 : Int))) fun y_1 =>
 (y_1, y.2)))
noncomputable def sside_pre (x : ((Int × Int) × ((Int × Int) × (Int × Int)))) : Prop :=
 (sarea_pre x)
theorem sside_vc (x : ((Int × Int) × ((Int × Int) × (Int × Int)))) (Q : (Int × Int) → Prop) : fnE ⟨tt, sp_sarea, noX, [], [], []⟩ Try.f29 (argsE (.pair (.agg (Ty.prod (Ty.int IntKind.i64) (Ty.int IntKind.i64))) (.pair (.agg (Ty.prod (Ty.int IntKind.i64) (Ty.int IntKind.i64))) (.agg (Ty.prod (Ty.int IntKind.i64) (Ty.int IntKind.i64))))) x) (heapE (.pair (.agg (Ty.prod (Ty.int IntKind.i64) (Ty.int IntKind.i64))) (.pair (.agg (Ty.prod (Ty.int IntKind.i64) (Ty.int IntKind.i64))) (.agg (Ty.prod (Ty.int IntKind.i64) (Ty.int IntKind.i64))))) x) (retE (.pair (.one (Ty.int IntKind.i64)) (.one (Ty.int IntKind.i64))) Q) =
 ((sarea_pre x) ∧ ∀ y : (Int × Int), y = (sarea x) →
 ((compare_pre (y.1, (0 : Int))) ∧ ∀ y_1 : Int, y_1 = (compare (y.1, (0 : Int))) →
 (Q (y_1, y.2)))) := by kernel_rfl
theorem sside_fn (x : ((Int × Int) × ((Int × Int) × (Int × Int)))) (Q : (Int × Int) → Prop) (hp : sside_pre x) (hq : Q (sside x)) : Vc (fnE ⟨tt, sp_sarea, noX, [], [], []⟩ Try.f29 (argsE (.pair (.agg (Ty.prod (Ty.int IntKind.i64) (Ty.int IntKind.i64))) (.pair (.agg (Ty.prod (Ty.int IntKind.i64) (Ty.int IntKind.i64))) (.agg (Ty.prod (Ty.int IntKind.i64) (Ty.int IntKind.i64))))) x) (heapE (.pair (.agg (Ty.prod (Ty.int IntKind.i64) (Ty.int IntKind.i64))) (.pair (.agg (Ty.prod (Ty.int IntKind.i64) (Ty.int IntKind.i64))) (.agg (Ty.prod (Ty.int IntKind.i64) (Ty.int IntKind.i64))))) x) (retE (.pair (.one (Ty.int IntKind.i64)) (.one (Ty.int IntKind.i64))) Q)) := .eq (sside_vc x Q) (have hp := Eq.mp (sside_pre.eq_1 x) hp; have hq := Eq.mp (congrArg Q (sside.eq_1 x)) hq;
 (And.intro hp (let_0 (Q := Q) hq fun y hq => (And.intro trivial (let_0 (Q := Q) hq fun y_1 hq => hq)))))
noncomputable def sside_S : FnS := ⟨(.pair (.agg (Ty.prod (Ty.int IntKind.i64) (Ty.int IntKind.i64))) (.pair (.agg (Ty.prod (Ty.int IntKind.i64) (Ty.int IntKind.i64))) (.agg (Ty.prod (Ty.int IntKind.i64) (Ty.int IntKind.i64))))), (.pair (.one (Ty.int IntKind.i64)) (.one (Ty.int IntKind.i64))), sside_pre, sside⟩
theorem sside_ok : SpecOk Try.prog 29 (fnSpec sside_S) := SpecOk.fnT' (fn := Try.f29) tt_ok sp_sarea_ok mixed (by kernel_rfl) (by kernel_rfl) (.pair (.agg (Ty.prod (Ty.int IntKind.i64) (Ty.int IntKind.i64))) (.pair (.agg (Ty.prod (Ty.int IntKind.i64) (Ty.int IntKind.i64))) (.agg (Ty.prod (Ty.int IntKind.i64) (Ty.int IntKind.i64))))) (.pair (.one (Ty.int IntKind.i64)) (.one (Ty.int IntKind.i64))) sside_pre sside (by kernel_rfl) fun x hp => ⟨_, _, (ItsOk.nil _ _), LpsOk.nil, sside_fn x (fun y => y = sside x) hp rfl⟩
def sp_sside : List (Nat × Ev.Spec) := (29, fnSpec sside_S) :: sp_sarea
theorem sp_sside_ok : SpecsOk Try.prog sp_sside := SpecsOk.cons (Enters.of (fn := Try.f29) (by kernel_rfl) (by kernel_rfl) (by kernel_rfl)) sside_ok sp_sarea_ok
noncomputable def mright (x : ((Int × Int) × ((Int × Int) × (Int × Int)))) : Bool :=
 (letV (sarea x) fun y =>
 (if ((y.2 == (0 : Int)) = true) then
 (y.1 != (0 : Int)) else
 false))
noncomputable def mright_pre (x : ((Int × Int) × ((Int × Int) × (Int × Int)))) : Prop :=
 (sarea_pre x)
theorem mright_vc (x : ((Int × Int) × ((Int × Int) × (Int × Int)))) (Q : Bool → Prop) : fnE ⟨tt, sp_sside, noX, [], [], []⟩ Try.f11 (argsE (.agg (Ty.prod (Ty.prod (Ty.int IntKind.i64) (Ty.int IntKind.i64)) (Ty.prod (Ty.prod (Ty.int IntKind.i64) (Ty.int IntKind.i64)) (Ty.prod (Ty.int IntKind.i64) (Ty.int IntKind.i64))))) x) (heapE (.agg (Ty.prod (Ty.prod (Ty.int IntKind.i64) (Ty.int IntKind.i64)) (Ty.prod (Ty.prod (Ty.int IntKind.i64) (Ty.int IntKind.i64)) (Ty.prod (Ty.int IntKind.i64) (Ty.int IntKind.i64))))) x) (retE (.one Ty.bool) Q) =
 ((sarea_pre x) ∧ ∀ y : (Int × Int), y = (sarea x) →
 (cB (y.2 == (0 : Int))
 (Q (y.1 != (0 : Int)))
 (Q false))) := by kernel_rfl
theorem mright_fn (x : ((Int × Int) × ((Int × Int) × (Int × Int)))) (Q : Bool → Prop) (hp : mright_pre x) (hq : Q (mright x)) : Vc (fnE ⟨tt, sp_sside, noX, [], [], []⟩ Try.f11 (argsE (.agg (Ty.prod (Ty.prod (Ty.int IntKind.i64) (Ty.int IntKind.i64)) (Ty.prod (Ty.prod (Ty.int IntKind.i64) (Ty.int IntKind.i64)) (Ty.prod (Ty.int IntKind.i64) (Ty.int IntKind.i64))))) x) (heapE (.agg (Ty.prod (Ty.prod (Ty.int IntKind.i64) (Ty.int IntKind.i64)) (Ty.prod (Ty.prod (Ty.int IntKind.i64) (Ty.int IntKind.i64)) (Ty.prod (Ty.int IntKind.i64) (Ty.int IntKind.i64))))) x) (retE (.one Ty.bool) Q)) := .eq (mright_vc x Q) (have hp := Eq.mp (mright_pre.eq_1 x) hp; have hq := Eq.mp (congrArg Q (mright.eq_1 x)) hq;
 (And.intro hp (let_0 (Q := Q) hq fun y hq => (cB_b (Q := Q) hq (fun c hq => hq) (fun c hq => hq)))))
noncomputable def mright_S : FnS := ⟨(.agg (Ty.prod (Ty.prod (Ty.int IntKind.i64) (Ty.int IntKind.i64)) (Ty.prod (Ty.prod (Ty.int IntKind.i64) (Ty.int IntKind.i64)) (Ty.prod (Ty.int IntKind.i64) (Ty.int IntKind.i64))))), (.one Ty.bool), mright_pre, mright⟩
theorem mright_ok : SpecOk Try.prog 11 (fnSpec mright_S) := SpecOk.fnT' (fn := Try.f11) tt_ok sp_sside_ok mixed (by kernel_rfl) (by kernel_rfl) (.agg (Ty.prod (Ty.prod (Ty.int IntKind.i64) (Ty.int IntKind.i64)) (Ty.prod (Ty.prod (Ty.int IntKind.i64) (Ty.int IntKind.i64)) (Ty.prod (Ty.int IntKind.i64) (Ty.int IntKind.i64))))) (.one Ty.bool) mright_pre mright (by kernel_rfl) fun x hp => ⟨_, _, (ItsOk.nil _ _), LpsOk.nil, mright_fn x (fun y => y = mright x) hp rfl⟩
def sp_mright : List (Nat × Ev.Spec) := (11, fnSpec mright_S) :: sp_sside
theorem sp_mright_ok : SpecsOk Try.prog sp_mright := SpecsOk.cons (Enters.of (fn := Try.f11) (by kernel_rfl) (by kernel_rfl) (by kernel_rfl)) mright_ok sp_sside_ok
end Go.Proofs.Ytpdhabfebpjihaa
