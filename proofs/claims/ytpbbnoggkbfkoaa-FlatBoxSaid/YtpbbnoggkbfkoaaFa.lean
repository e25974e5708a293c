/- Models of functions of layers 4, 8, 9, 10. -/
import Derived.Test.YtpbbnoggkbfkoaaEvP
import Derived.Test.YtpbbnoggkbfkoaaTt
namespace Go.Proofs.Ytpbbnoggkbfkoaa
open Go Go.Ev Go.Proofs
set_option linter.unusedVariables false
noncomputable def isnan (x : Int) : Bool :=
 (x != x)
noncomputable def isnan_pre (_ : Int) : Prop := True
theorem isnan_vc (x : Int) (Q : Bool → Prop) : fnE ⟨tt, [], noX, [], [], []⟩ Try.f81 (argsE (.one yi) x) (heapE (.one yi) x) (retE (.one Ty.bool) Q) =
 (Q (x != x)) := by kernel_rfl
theorem isnan_fn (x : Int) (Q : Bool → Prop) (hp : isnan_pre x) (hq : Q (isnan x)) : Vc (fnE ⟨tt, [], noX, [], [], []⟩ Try.f81 (argsE (.one yi) x) (heapE (.one yi) x) (retE (.one Ty.bool) Q)) := .eq (isnan_vc x Q) (have hp := Eq.mp (isnan_pre.eq_1 x) hp; have hq := Eq.mp (congrArg Q (isnan.eq_1 x)) hq;
 hq)
noncomputable def isnan_S : FnS := ⟨(.one yi), (.one Ty.bool), isnan_pre, isnan⟩
theorem isnan_ok : SpecOk Try.prog 81 (fnSpec isnan_S) := SpecOk.fnT' (fn := Try.f81) tt_ok (SpecsOk.nil _) mixed (by kernel_rfl) (by kernel_rfl) (.one yi) (.one Ty.bool) isnan_pre isnan (by kernel_rfl) fun x hp => ⟨_, _, (ItsOk.nil _ _), LpsOk.nil, isnan_fn x (fun y => y = isnan x) hp rfl⟩
def sp_isnan : List (Nat × Ev.Spec) := (81, fnSpec isnan_S) :: []
theorem sp_isnan_ok : SpecsOk Try.prog sp_isnan := SpecsOk.cons (Enters.of (fn := Try.f81) (by kernel_rfl) (by kernel_rfl) (by kernel_rfl)) isnan_ok (SpecsOk.nil _)
noncomputable def compare (x : (Int × Int)) : Int :=
 (letV (isnan x.1) fun y =>
 (letV (isnan x.2) fun y_1 =>
 (if (y = true) then
 (if (y_1 = true) then
 (0 : Int) else
 (-1 : Int)) else
 (if (y_1 = true) then
 (1 : Int) else
 (if (x.1 < x.2) then
 (-1 : Int) else
 (if (x.1 > x.2) then
 (1 : Int) else
 (0 : Int)))))))
noncomputable def compare_pre (_ : (Int × Int)) : Prop := True
theorem compare_vc (x : (Int × Int)) (Q : Int → Prop) : fnE ⟨tt, sp_isnan, noX, [], [], []⟩ Try.f67 (argsE (.pair (.one yi) (.one yi)) x) (heapE (.pair (.one yi) (.one yi)) x) (retE (.one yi) Q) =
 ((isnan_pre x.1) ∧ ∀ y : Bool, y = (isnan x.1) →
 ((isnan_pre x.2) ∧ ∀ y_1 : Bool, y_1 = (isnan x.2) →
 (cB y
 (cB y_1
 (Q (0 : Int))
 (Q (-1 : Int)))
 (cB y_1
 (Q (1 : Int))
 (cB (decide (x.1 < x.2))
 (Q (-1 : Int))
 (cB (decide (x.1 > x.2))
 (Q (1 : Int))
 (Q (0 : Int)))))))) := by kernel_rfl
theorem compare_fn (x : (Int × Int)) (Q : Int → Prop) (hp : compare_pre x) (hq : Q (compare x)) : Vc (fnE ⟨tt, sp_isnan, noX, [], [], []⟩ Try.f67 (argsE (.pair (.one yi) (.one yi)) x) (heapE (.pair (.one yi) (.one yi)) x) (retE (.one yi) Q)) := .eq (compare_vc x Q) (have hp := Eq.mp (compare_pre.eq_1 x) hp; have hq := Eq.mp (congrArg Q (compare.eq_1 x)) hq;
 (And.intro trivial (let_0 (Q := Q) hq fun y hq => (And.intro trivial (let_0 (Q := Q) hq fun y_1 hq => (cB_b (Q := Q) hq (fun c hq => (cB_b (Q := Q) hq (fun c hq => hq) (fun c hq => hq))) (fun c hq => (cB_b (Q := Q) hq (fun c hq => hq) (fun c hq => (cB_d (Q := Q) hq (fun c hq => hq) (fun c hq => (cB_d (Q := Q) hq (fun c hq => hq) (fun c hq => hq)))))))))))))
noncomputable def compare_S : FnS := ⟨(.pair (.one yi) (.one yi)), (.one yi), compare_pre, compare⟩
theorem compare_ok : SpecOk Try.prog 67 (fnSpec compare_S) := SpecOk.fnT' (fn := Try.f67) tt_ok sp_isnan_ok mixed (by kernel_rfl) (by kernel_rfl) (.pair (.one yi) (.one yi)) (.one yi) compare_pre compare (by kernel_rfl) fun x hp => ⟨_, _, (ItsOk.nil _ _), LpsOk.nil, compare_fn x (fun y => y = compare x) hp rfl⟩
def sp_compare : List (Nat × Ev.Spec) := (67, fnSpec compare_S) :: sp_isnan
theorem sp_compare_ok : SpecsOk Try.prog sp_compare := SpecsOk.cons (Enters.of (fn := Try.f67) (by kernel_rfl) (by kernel_rfl) (by kernel_rfl)) compare_ok sp_isnan_ok
noncomputable def near_l0_tm (x : (List Int)) (s : Int) : AS := ⟨[D, D, D, D, D, .v (.one (.full 0)), vi (((List.length x) : Nat) : Int), vi s, D, D, D, D, D, D, D, D, D, D], [.row yi x 0]⟩
noncomputable def near_l0_out (x : (List Int)) (r : (Unit ⊕ Unit)) (K : Exit → AS → Prop) : Prop := cS r (fun a0 => K .ret ⟨[D, D, vb false, D, D, D, D, D, D, D, D, D, D, D, D, D, D, D], []⟩) (fun b0 => K .normal ⟨[D, D, D, D, D, D, D, D, D, D, D, D, D, D, D, D, D, D], []⟩)
noncomputable def near_l0_step (x : (List Int)) (s : Int) : Int ⊕ (Unit ⊕ Unit) :=
 (if (s < (((List.length x) : Nat) : Int)) then
 (if ((List.getD x (Int.toNat s) (0 : Int)) < (-1048576 : Int)) then
 (Sum.inr (Sum.inl ())) else
 (if ((List.getD x (Int.toNat s) (0 : Int)) > (1048576 : Int)) then
 (Sum.inr (Sum.inl ())) else
 (Sum.inl (w64 (s + (1 : Int)))))) else
 (Sum.inr (Sum.inr (()))))
noncomputable def near_l0_pre (x : (List Int)) (s : Int) : Prop :=
 ((s < (((List.length x) : Nat) : Int)) →
 ((((0 : Int) ≤ s) ∧ (s < (((List.length x) : Nat) : Int))) ∧
 (((Int.toNat s) < (List.length x)) ∧
 ((Int.toNat s) < (List.length x)))))
noncomputable def near_l0_sp (x : (List Int)) : LSpec := loopSp (near_l0_tm x) (near_l0_step x) (near_l0_pre x) (near_l0_out x)
theorem near_l0_vc (x : (List Int)) (s : Int) (K : Exit → AS → Prop) (KN : AS → Prop) : codeE ⟨tt, sp_compare, noX, [], [], []⟩ (cI (blk 0 (bodyOf Try.f75))) (near_l0_tm x s) (KB 0 K KN) =
 (cB (decide (s < (((List.length x) : Nat) : Int)))
 (ob ((decide ((0 : Int) ≤ s)) && (decide (s < (((List.length x) : Nat) : Int))))
 (ob (decide ((Int.toNat s) < (List.length x)))
 (ob (decide ((Int.toNat s) < (List.length x)))
 (cB (decide ((List.getD x (Int.toNat s) (0 : Int)) < (-1048576 : Int)))
 (KB 0 K KN .ret ⟨[D, D, vb false, D, vi (List.getD x (Int.toNat s) (0 : Int)), .v (.one (.full 0)), vi (((List.length x) : Nat) : Int), vi s, vb (decide (s < (((List.length x) : Nat) : Int))), .v (.one (.eptr 0 (Int.toNat s) 0)), vi (List.getD x (Int.toNat s) (0 : Int)), vi (List.getD x (Int.toNat s) (0 : Int)), vb (decide ((List.getD x (Int.toNat s) (0 : Int)) < (-1048576 : Int))), vb true, und, und, vb true, D], [.row yi x 0]⟩)
 (cB (decide ((List.getD x (Int.toNat s) (0 : Int)) > (1048576 : Int)))
 (KB 0 K KN .ret ⟨[D, D, vb false, D, vi (List.getD x (Int.toNat s) (0 : Int)), .v (.one (.full 0)), vi (((List.length x) : Nat) : Int), vi s, vb (decide (s < (((List.length x) : Nat) : Int))), .v (.one (.eptr 0 (Int.toNat s) 0)), vi (List.getD x (Int.toNat s) (0 : Int)), vi (List.getD x (Int.toNat s) (0 : Int)), vb (decide ((List.getD x (Int.toNat s) (0 : Int)) < (-1048576 : Int))), vb false, vi (List.getD x (Int.toNat s) (0 : Int)), vb (decide ((List.getD x (Int.toNat s) (0 : Int)) > (1048576 : Int))), vb (decide ((List.getD x (Int.toNat s) (0 : Int)) > (1048576 : Int))), D], [.row yi x 0]⟩)
 (KB 0 K KN .normal ⟨[D, D, D, D, vi (List.getD x (Int.toNat s) (0 : Int)), .v (.one (.full 0)), vi (((List.length x) : Nat) : Int), vi (w64 (s + (1 : Int))), vb (decide (s < (((List.length x) : Nat) : Int))), .v (.one (.eptr 0 (Int.toNat s) 0)), vi (List.getD x (Int.toNat s) (0 : Int)), vi (List.getD x (Int.toNat s) (0 : Int)), vb (decide ((List.getD x (Int.toNat s) (0 : Int)) < (-1048576 : Int))), vb false, vi (List.getD x (Int.toNat s) (0 : Int)), vb (decide ((List.getD x (Int.toNat s) (0 : Int)) > (1048576 : Int))), vb (decide ((List.getD x (Int.toNat s) (0 : Int)) > (1048576 : Int))), vi (w64 (s + (1 : Int)))], [.row yi x 0]⟩))))))
 (KB 0 K KN (.exit 0) ⟨[D, D, D, D, D, .v (.one (.full 0)), vi (((List.length x) : Nat) : Int), vi s, vb (decide (s < (((List.length x) : Nat) : Int))), D, D, D, D, D, D, D, D, D], [.row yi x 0]⟩)) := by kernel_rfl
theorem near_l0_ok (x : (List Int)) : ∀ st K, near_l0_sp x st K → Vc (codeE ⟨tt, sp_compare, noX, [], [], []⟩ (.loop (cI (blk 0 (bodyOf Try.f75)))) st (wrapB 0 (orWeak K))) := loopSp_okV fun s K KN hp hq => .eq (near_l0_vc x s K KN) (have hp := Eq.mp (near_l0_pre.eq_1 x s) hp; have hq := Eq.mp (congrArg (stepQ (near_l0_tm x) (near_l0_out x) K KN) (near_l0_step.eq_1 x s)) hq;
 (cB_d (Q := (stepQ (near_l0_tm x) (near_l0_out x) K KN)) hq (fun c hq => have hp := (hp c); (ob_k (and_t (decide_eq_true hp.1.1) (decide_eq_true hp.1.2)) (have hp := hp.2; (ob_k (decide_eq_true hp.1) (have hp := hp.2; (ob_k (decide_eq_true hp) (cB_d (Q := (stepQ (near_l0_tm x) (near_l0_out x) K KN)) hq (fun c hq => (Exists.intro ⟨[D, D, vb false, D, D, D, D, D, D, D, D, D, D, D, D, D, D, D], []⟩ (And.intro (ren_ok (π := []) (And.intro rfl trivial) trivial rfl) hq))) (fun c hq => (cB_d (Q := (stepQ (near_l0_tm x) (near_l0_out x) K KN)) hq (fun c hq => (Exists.intro ⟨[D, D, vb false, D, D, D, D, D, D, D, D, D, D, D, D, D, D, D], []⟩ (And.intro (ren_ok (π := []) (And.intro rfl trivial) trivial rfl) hq))) (fun c hq => (Exists.intro (near_l0_tm x (w64 (s + (1 : Int)))) (And.intro (ren_ok (π := [.same 0]) (And.intro rfl (And.intro rfl (And.intro rfl trivial))) (And.intro (ren_same rfl rfl) trivial) rfl) hq)))))))))))) (fun c hq => (Exists.intro ⟨[D, D, D, D, D, D, D, D, D, D, D, D, D, D, D, D, D, D], []⟩ (And.intro (ren_ok (π := []) trivial trivial rfl) hq)))))
noncomputable def near (x : (List Int)) : Bool :=
 (letV (run (near_l0_step x) (0 : Int)) fun r =>
 (Sum.elim (fun a =>
 false) (fun b =>
 true) r))
noncomputable def near_pre (x : (List Int)) : Prop :=
 (Term (near_l0_step x) (near_l0_pre x) (0 : Int))
theorem near_vc (x : (List Int)) (Q : Bool → Prop) : fnE ⟨tt, sp_compare, noX, [(0, near_l0_sp x)], [], []⟩ Try.f75 (argsE (.one (Ty.sl yi)) x) (heapE (.one (Ty.sl yi)) x) (retE (.one Ty.bool) Q) =
 (Exists fun s0 : Int => Weak ⟨[.v (.one (.full 0)), und, vb false, und, und, .v (.one (.full 0)), vi (((List.length x) : Nat) : Int), vi (0 : Int), und, und, und, und, und, und, und, und, und, und], [.row yi x 0]⟩ (near_l0_tm x s0) ∧ Term (near_l0_step x) (near_l0_pre x) s0 ∧ ∀ r : (Unit ⊕ Unit), r = run (near_l0_step x) s0 →
 (cS r (fun a =>
 (Q false)) (fun b =>
 (Q true)))) := by kernel_rfl
theorem near_fn (x : (List Int)) (Q : Bool → Prop) (hp : near_pre x) (hq : Q (near x)) : Vc (fnE ⟨tt, sp_compare, noX, [(0, near_l0_sp x)], [], []⟩ Try.f75 (argsE (.one (Ty.sl yi)) x) (heapE (.one (Ty.sl yi)) x) (retE (.one Ty.bool) Q)) := .eq (near_vc x Q) (have hp := Eq.mp (near_pre.eq_1 x) hp; have hq := Eq.mp (congrArg Q (near.eq_1 x)) hq;
 (Exists.intro (0 : Int) (And.intro (ren_ok (π := [.same 0]) (And.intro rfl (And.intro rfl (And.intro rfl trivial))) (And.intro (ren_same rfl rfl) trivial) rfl) (And.intro hp (let_0 (Q := Q) hq fun r hq => (cS_k (Q := Q) (P := fun _ => True) (P' := fun _ => True) (by cases r <;> trivial) hq (fun a _ hq => hq) (fun b _ hq => hq)))))))
noncomputable def near_S : FnS := ⟨(.one (Ty.sl yi)), (.one Ty.bool), near_pre, near⟩
theorem near_ok : SpecOk Try.prog 75 (fnSpec near_S) := SpecOk.fnT' (fn := Try.f75) tt_ok sp_compare_ok mixed (by kernel_rfl) (by kernel_rfl) (.one (Ty.sl yi)) (.one Ty.bool) near_pre near (by kernel_rfl) fun x hp => ⟨_, _, (ItsOk.nil _ _), (LpsOk.consV tt_ok (SpecsOk.ctxI sp_compare_ok (ItsOk.nil _ _)) mixed LpsOk.nil (by kernel_rfl) (by kernel_rfl) (near_l0_ok x)), near_fn x (fun y => y = near x) hp rfl⟩
def sp_near : List (Nat × Ev.Spec) := (75, fnSpec near_S) :: sp_compare
theorem sp_near_ok : SpecsOk Try.prog sp_near := SpecsOk.cons (Enters.of (fn := Try.f75) (by kernel_rfl) (by kernel_rfl) (by kernel_rfl)) near_ok sp_compare_ok
noncomputable def within_l0_tm (x : (Int × (List Int))) (s : Int) : AS := ⟨[vi x.1, D, D, D, D, D, D, .v (.one (.full 0)), vi (((List.length x.2) : Nat) : Int), vi s, D, D, D, D, D, D, D, D, D, D, D, D, D], [.row yi x.2 0]⟩
noncomputable def within_l0_out (x : (Int × (List Int))) (r : (Unit ⊕ Unit)) (K : Exit → AS → Prop) : Prop := cS r (fun a0 => K .ret ⟨[D, D, D, D, vb false, D, D, D, D, D, D, D, D, D, D, D, D, D, D, D, D, D, D], []⟩) (fun b0 => K .normal ⟨[D, D, D, D, D, D, D, D, D, D, D, D, D, D, D, D, D, D, D, D, D, D, D], []⟩)
noncomputable def within_l0_step (x : (Int × (List Int))) (s : Int) : Int ⊕ (Unit ⊕ Unit) :=
 (if (s < (((List.length x.2) : Nat) : Int)) then
 (if ((List.getD x.2 (Int.toNat s) (0 : Int)) < (w64 ((0 : Int) - x.1))) then
 (Sum.inr (Sum.inl ())) else
 (if ((List.getD x.2 (Int.toNat s) (0 : Int)) > x.1) then
 (Sum.inr (Sum.inl ())) else
 (Sum.inl (w64 (s + (1 : Int)))))) else
 (Sum.inr (Sum.inr (()))))
noncomputable def within_l0_pre (x : (Int × (List Int))) (s : Int) : Prop :=
 ((s < (((List.length x.2) : Nat) : Int)) →
 ((((0 : Int) ≤ s) ∧ (s < (((List.length x.2) : Nat) : Int))) ∧
 (((Int.toNat s) < (List.length x.2)) ∧
 ((Int.toNat s) < (List.length x.2)))))
noncomputable def within_l0_sp (x : (Int × (List Int))) : LSpec := loopSp (within_l0_tm x) (within_l0_step x) (within_l0_pre x) (within_l0_out x)
theorem within_l0_vc (x : (Int × (List Int))) (s : Int) (K : Exit → AS → Prop) (KN : AS → Prop) : codeE ⟨tt, sp_near, noX, [], [], []⟩ (cI (blk 0 (bodyOf Try.f51))) (within_l0_tm x s) (KB 0 K KN) =
 (cB (decide (s < (((List.length x.2) : Nat) : Int)))
 (ob ((decide ((0 : Int) ≤ s)) && (decide (s < (((List.length x.2) : Nat) : Int))))
 (ob (decide ((Int.toNat s) < (List.length x.2)))
 (ob (decide ((Int.toNat s) < (List.length x.2)))
 (cB (decide ((List.getD x.2 (Int.toNat s) (0 : Int)) < (w64 ((0 : Int) - x.1))))
 (KB 0 K KN .ret ⟨[vi x.1, D, D, D, vb false, D, vi (List.getD x.2 (Int.toNat s) (0 : Int)), .v (.one (.full 0)), vi (((List.length x.2) : Nat) : Int), vi s, vb (decide (s < (((List.length x.2) : Nat) : Int))), .v (.one (.eptr 0 (Int.toNat s) 0)), vi (List.getD x.2 (Int.toNat s) (0 : Int)), vi (List.getD x.2 (Int.toNat s) (0 : Int)), vi x.1, vi (w64 ((0 : Int) - x.1)), vb (decide ((List.getD x.2 (Int.toNat s) (0 : Int)) < (w64 ((0 : Int) - x.1)))), vb true, und, und, und, vb true, D], [.row yi x.2 0]⟩)
 (cB (decide ((List.getD x.2 (Int.toNat s) (0 : Int)) > x.1))
 (KB 0 K KN .ret ⟨[vi x.1, D, D, D, vb false, D, vi (List.getD x.2 (Int.toNat s) (0 : Int)), .v (.one (.full 0)), vi (((List.length x.2) : Nat) : Int), vi s, vb (decide (s < (((List.length x.2) : Nat) : Int))), .v (.one (.eptr 0 (Int.toNat s) 0)), vi (List.getD x.2 (Int.toNat s) (0 : Int)), vi (List.getD x.2 (Int.toNat s) (0 : Int)), vi x.1, vi (w64 ((0 : Int) - x.1)), vb (decide ((List.getD x.2 (Int.toNat s) (0 : Int)) < (w64 ((0 : Int) - x.1)))), vb false, vi (List.getD x.2 (Int.toNat s) (0 : Int)), vi x.1, vb (decide ((List.getD x.2 (Int.toNat s) (0 : Int)) > x.1)), vb (decide ((List.getD x.2 (Int.toNat s) (0 : Int)) > x.1)), D], [.row yi x.2 0]⟩)
 (KB 0 K KN .normal ⟨[vi x.1, D, D, D, D, D, vi (List.getD x.2 (Int.toNat s) (0 : Int)), .v (.one (.full 0)), vi (((List.length x.2) : Nat) : Int), vi (w64 (s + (1 : Int))), vb (decide (s < (((List.length x.2) : Nat) : Int))), .v (.one (.eptr 0 (Int.toNat s) 0)), vi (List.getD x.2 (Int.toNat s) (0 : Int)), vi (List.getD x.2 (Int.toNat s) (0 : Int)), vi x.1, vi (w64 ((0 : Int) - x.1)), vb (decide ((List.getD x.2 (Int.toNat s) (0 : Int)) < (w64 ((0 : Int) - x.1)))), vb false, vi (List.getD x.2 (Int.toNat s) (0 : Int)), vi x.1, vb (decide ((List.getD x.2 (Int.toNat s) (0 : Int)) > x.1)), vb (decide ((List.getD x.2 (Int.toNat s) (0 : Int)) > x.1)), vi (w64 (s + (1 : Int)))], [.row yi x.2 0]⟩))))))
 (KB 0 K KN (.exit 0) ⟨[vi x.1, D, D, D, D, D, D, .v (.one (.full 0)), vi (((List.length x.2) : Nat) : Int), vi s, vb (decide (s < (((List.length x.2) : Nat) : Int))), D, D, D, D, D, D, D, D, D, D, D, D], [.row yi x.2 0]⟩)) := by kernel_rfl
theorem within_l0_ok (x : (Int × (List Int))) : ∀ st K, within_l0_sp x st K → Vc (codeE ⟨tt, sp_near, noX, [], [], []⟩ (.loop (cI (blk 0 (bodyOf Try.f51)))) st (wrapB 0 (orWeak K))) := loopSp_okV fun s K KN hp hq => .eq (within_l0_vc x s K KN) (have hp := Eq.mp (within_l0_pre.eq_1 x s) hp; have hq := Eq.mp (congrArg (stepQ (within_l0_tm x) (within_l0_out x) K KN) (within_l0_step.eq_1 x s)) hq;
 (cB_d (Q := (stepQ (within_l0_tm x) (within_l0_out x) K KN)) hq (fun c hq => have hp := (hp c); (ob_k (and_t (decide_eq_true hp.1.1) (decide_eq_true hp.1.2)) (have hp := hp.2; (ob_k (decide_eq_true hp.1) (have hp := hp.2; (ob_k (decide_eq_true hp) (cB_d (Q := (stepQ (within_l0_tm x) (within_l0_out x) K KN)) hq (fun c hq => (Exists.intro ⟨[D, D, D, D, vb false, D, D, D, D, D, D, D, D, D, D, D, D, D, D, D, D, D, D], []⟩ (And.intro (ren_ok (π := []) (And.intro rfl trivial) trivial rfl) hq))) (fun c hq => (cB_d (Q := (stepQ (within_l0_tm x) (within_l0_out x) K KN)) hq (fun c hq => (Exists.intro ⟨[D, D, D, D, vb false, D, D, D, D, D, D, D, D, D, D, D, D, D, D, D, D, D, D], []⟩ (And.intro (ren_ok (π := []) (And.intro rfl trivial) trivial rfl) hq))) (fun c hq => (Exists.intro (within_l0_tm x (w64 (s + (1 : Int)))) (And.intro (ren_ok (π := [.same 0]) (And.intro rfl (And.intro rfl (And.intro rfl (And.intro rfl trivial)))) (And.intro (ren_same rfl rfl) trivial) rfl) hq)))))))))))) (fun c hq => (Exists.intro ⟨[D, D, D, D, D, D, D, D, D, D, D, D, D, D, D, D, D, D, D, D, D, D, D], []⟩ (And.intro (ren_ok (π := []) trivial trivial rfl) hq)))))
noncomputable def within (x : (Int × (List Int))) : Bool :=
 (letV (run (within_l0_step x) (0 : Int)) fun r =>
 (Sum.elim (fun a =>
 false) (fun b =>
 true) r))
noncomputable def within_pre (x : (Int × (List Int))) : Prop :=
 (Term (within_l0_step x) (within_l0_pre x) (0 : Int))
theorem within_vc (x : (Int × (List Int))) (Q : Bool → Prop) : fnE ⟨tt, sp_near, noX, [(0, within_l0_sp x)], [], []⟩ Try.f51 (argsE (.pair (.one yi) (.one (Ty.sl yi))) x) (heapE (.pair (.one yi) (.one (Ty.sl yi))) x) (retE (.one Ty.bool) Q) =
 (Exists fun s0 : Int => Weak ⟨[vi x.1, .v (.one (.full 0)), und, und, vb false, und, und, .v (.one (.full 0)), vi (((List.length x.2) : Nat) : Int), vi (0 : Int), und, und, und, und, und, und, und, und, und, und, und, und, und], [.row yi x.2 0]⟩ (within_l0_tm x s0) ∧ Term (within_l0_step x) (within_l0_pre x) s0 ∧ ∀ r : (Unit ⊕ Unit), r = run (within_l0_step x) s0 →
 (cS r (fun a =>
 (Q false)) (fun b =>
 (Q true)))) := by kernel_rfl
theorem within_fn (x : (Int × (List Int))) (Q : Bool → Prop) (hp : within_pre x) (hq : Q (within x)) : Vc (fnE ⟨tt, sp_near, noX, [(0, within_l0_sp x)], [], []⟩ Try.f51 (argsE (.pair (.one yi) (.one (Ty.sl yi))) x) (heapE (.pair (.one yi) (.one (Ty.sl yi))) x) (retE (.one Ty.bool) Q)) := .eq (within_vc x Q) (have hp := Eq.mp (within_pre.eq_1 x) hp; have hq := Eq.mp (congrArg Q (within.eq_1 x)) hq;
 (Exists.intro (0 : Int) (And.intro (ren_ok (π := [.same 0]) (And.intro rfl (And.intro rfl (And.intro rfl (And.intro rfl trivial)))) (And.intro (ren_same rfl rfl) trivial) rfl) (And.intro hp (let_0 (Q := Q) hq fun r hq => (cS_k (Q := Q) (P := fun _ => True) (P' := fun _ => True) (by cases r <;> trivial) hq (fun a _ hq => hq) (fun b _ hq => hq)))))))
noncomputable def within_S : FnS := ⟨(.pair (.one yi) (.one (Ty.sl yi))), (.one Ty.bool), within_pre, within⟩
theorem within_ok : SpecOk Try.prog 51 (fnSpec within_S) := SpecOk.fnT' (fn := Try.f51) tt_ok sp_near_ok mixed (by kernel_rfl) (by kernel_rfl) (.pair (.one yi) (.one (Ty.sl yi))) (.one Ty.bool) within_pre within (by kernel_rfl) fun x hp => ⟨_, _, (ItsOk.nil _ _), (LpsOk.consV tt_ok (SpecsOk.ctxI sp_near_ok (ItsOk.nil _ _)) mixed LpsOk.nil (by kernel_rfl) (by kernel_rfl) (within_l0_ok x)), within_fn x (fun y => y = within x) hp rfl⟩
def sp_within : List (Nat × Ev.Spec) := (51, fnSpec within_S) :: sp_near
theorem sp_within_ok : SpecsOk Try.prog sp_within := SpecsOk.cons (Enters.of (fn := Try.f51) (by kernel_rfl) (by kernel_rfl) (by kernel_rfl)) within_ok sp_near_ok
noncomputable def is2_l0_tm (x : (List (Int × Int))) (s : Int) : AS := ⟨[D, D, D, D, D, .v (.one (.full 0)), vi (((List.length x) : Nat) : Int), vi s, D, D, D, D, D, D, D, D, D, D, D], [.row yy2 x 0]⟩
noncomputable def is2_l0_out (x : (List (Int × Int))) (r : (Unit ⊕ Unit)) (K : Exit → AS → Prop) : Prop := cS r (fun a0 => K .ret ⟨[D, D, vb false, D, D, D, D, D, D, D, D, D, D, D, D, D, D, D, D], []⟩) (fun b0 => K .normal ⟨[D, D, D, D, D, D, D, D, D, D, D, D, D, D, D, D, D, D, D], []⟩)
noncomputable def is2_l0_step (x : (List (Int × Int))) (s : Int) : Int ⊕ (Unit ⊕ Unit) :=
 (if (s < (((List.length x) : Nat) : Int)) then
 (letV (near [(List.getD x (Int.toNat s) ((0 : Int), (0 : Int))).1, (List.getD x (Int.toNat s) ((0 : Int), (0 : Int))).2]) fun y =>
 (if ((!y) = true) then
 (Sum.inr (Sum.inl ())) else
 (Sum.inl (w64 (s + (1 : Int)))))) else
 (Sum.inr (Sum.inr (()))))
noncomputable def is2_l0_pre (x : (List (Int × Int))) (s : Int) : Prop :=
 ((s < (((List.length x) : Nat) : Int)) →
 ((((0 : Int) ≤ s) ∧ (s < (((List.length x) : Nat) : Int))) ∧
 (((Int.toNat s) < (List.length x)) ∧
 (((Int.toNat s) < (List.length x)) ∧
 (near_pre [(List.getD x (Int.toNat s) ((0 : Int), (0 : Int))).1, (List.getD x (Int.toNat s) ((0 : Int), (0 : Int))).2])))))
noncomputable def is2_l0_sp (x : (List (Int × Int))) : LSpec := loopSp (is2_l0_tm x) (is2_l0_step x) (is2_l0_pre x) (is2_l0_out x)
theorem is2_l0_vc (x : (List (Int × Int))) (s : Int) (K : Exit → AS → Prop) (KN : AS → Prop) : codeE ⟨tt, sp_within, noX, [], [], []⟩ (cI (blk 0 (bodyOf Try.f63))) (is2_l0_tm x s) (KB 0 K KN) =
 (cB (decide (s < (((List.length x) : Nat) : Int)))
 (ob ((decide ((0 : Int) ≤ s)) && (decide (s < (((List.length x) : Nat) : Int))))
 (ob (decide ((Int.toNat s) < (List.length x)))
 (ob (decide ((Int.toNat s) < (List.length x)))
 ((near_pre [(List.getD x (Int.toNat s) zz2).1, (List.getD x (Int.toNat s) zz2).2]) ∧ ∀ y : Bool, y = (near [(List.getD x (Int.toNat s) zz2).1, (List.getD x (Int.toNat s) zz2).2]) →
 (cB (!y)
 (KB 0 K KN .ret ⟨[D, D, vb false, D, .v (.one (.ptr 1 0)), .v (.one (.full 0)), vi (((List.length x) : Nat) : Int), vi s, vb (decide (s < (((List.length x) : Nat) : Int))), .v (.one (.eptr 0 (Int.toNat s) 0)), .v (.agg [ci (List.getD x (Int.toNat s) zz2).1, ci (List.getD x (Int.toNat s) zz2).2]), .v (.one (.ptr 1 0)), vi (List.getD x (Int.toNat s) zz2).1, .v (.one (.ptr 1 1)), vi (List.getD x (Int.toNat s) zz2).2, .v (.one (.sl 2 0 2 2)), vb y, vb (!y), D], [.row yy2 x 0, .cells [ci (List.getD x (Int.toNat s) zz2).1, ci (List.getD x (Int.toNat s) zz2).2] 42, .cells [ci (List.getD x (Int.toNat s) zz2).1, ci (List.getD x (Int.toNat s) zz2).2] 3]⟩)
 (KB 0 K KN .normal ⟨[D, D, D, D, .v (.one (.ptr 1 0)), .v (.one (.full 0)), vi (((List.length x) : Nat) : Int), vi (w64 (s + (1 : Int))), vb (decide (s < (((List.length x) : Nat) : Int))), .v (.one (.eptr 0 (Int.toNat s) 0)), .v (.agg [ci (List.getD x (Int.toNat s) zz2).1, ci (List.getD x (Int.toNat s) zz2).2]), .v (.one (.ptr 1 0)), vi (List.getD x (Int.toNat s) zz2).1, .v (.one (.ptr 1 1)), vi (List.getD x (Int.toNat s) zz2).2, .v (.one (.sl 2 0 2 2)), vb y, vb (!y), vi (w64 (s + (1 : Int)))], [.row yy2 x 0, .cells [ci (List.getD x (Int.toNat s) zz2).1, ci (List.getD x (Int.toNat s) zz2).2] 42, .cells [ci (List.getD x (Int.toNat s) zz2).1, ci (List.getD x (Int.toNat s) zz2).2] 3]⟩))))))
 (KB 0 K KN (.exit 0) ⟨[D, D, D, D, D, .v (.one (.full 0)), vi (((List.length x) : Nat) : Int), vi s, vb (decide (s < (((List.length x) : Nat) : Int))), D, D, D, D, D, D, D, D, D, D], [.row yy2 x 0]⟩)) := by kernel_rfl
theorem is2_l0_ok (x : (List (Int × Int))) : ∀ st K, is2_l0_sp x st K → Vc (codeE ⟨tt, sp_within, noX, [], [], []⟩ (.loop (cI (blk 0 (bodyOf Try.f63)))) st (wrapB 0 (orWeak K))) := loopSp_okV fun s K KN hp hq => .eq (is2_l0_vc x s K KN) (have hp := Eq.mp (is2_l0_pre.eq_1 x s) hp; have hq := Eq.mp (congrArg (stepQ (is2_l0_tm x) (is2_l0_out x) K KN) (is2_l0_step.eq_1 x s)) hq;
 (cB_d (Q := (stepQ (is2_l0_tm x) (is2_l0_out x) K KN)) hq (fun c hq => have hp := (hp c); (ob_k (and_t (decide_eq_true hp.1.1) (decide_eq_true hp.1.2)) (have hp := hp.2; (ob_k (decide_eq_true hp.1) (have hp := hp.2; (ob_k (decide_eq_true hp.1) (have hp := hp.2; (And.intro hp (let_0 (Q := (stepQ (is2_l0_tm x) (is2_l0_out x) K KN)) hq fun y hq => (cB_b (Q := (stepQ (is2_l0_tm x) (is2_l0_out x) K KN)) hq (fun c hq => (Exists.intro ⟨[D, D, vb false, D, D, D, D, D, D, D, D, D, D, D, D, D, D, D, D], []⟩ (And.intro (ren_ok (π := []) (And.intro rfl trivial) trivial rfl) hq))) (fun c hq => (Exists.intro (is2_l0_tm x (w64 (s + (1 : Int)))) (And.intro (ren_ok (π := [.same 0]) (And.intro rfl (And.intro rfl (And.intro rfl trivial))) (And.intro (ren_same rfl rfl) trivial) rfl) hq))))))))))))) (fun c hq => (Exists.intro ⟨[D, D, D, D, D, D, D, D, D, D, D, D, D, D, D, D, D, D, D], []⟩ (And.intro (ren_ok (π := []) trivial trivial rfl) hq)))))
noncomputable def is2 (x : (List (Int × Int))) : Bool :=
 (letV (run (is2_l0_step x) (0 : Int)) fun r =>
 (Sum.elim (fun a =>
 false) (fun b =>
 true) r))
noncomputable def is2_pre (x : (List (Int × Int))) : Prop :=
 (Term (is2_l0_step x) (is2_l0_pre x) (0 : Int))
theorem is2_vc (x : (List (Int × Int))) (Q : Bool → Prop) : fnE ⟨tt, sp_within, noX, [(0, is2_l0_sp x)], [], []⟩ Try.f63 (argsE (.one (Ty.sl yy2)) x) (heapE (.one (Ty.sl yy2)) x) (retE (.one Ty.bool) Q) =
 (Exists fun s0 : Int => Weak ⟨[.v (.one (.full 0)), und, vb false, und, und, .v (.one (.full 0)), vi (((List.length x) : Nat) : Int), vi (0 : Int), und, und, und, und, und, und, und, und, und, und, und], [.row yy2 x 0]⟩ (is2_l0_tm x s0) ∧ Term (is2_l0_step x) (is2_l0_pre x) s0 ∧ ∀ r : (Unit ⊕ Unit), r = run (is2_l0_step x) s0 →
 (cS r (fun a =>
 (Q false)) (fun b =>
 (Q true)))) := by kernel_rfl
theorem is2_fn (x : (List (Int × Int))) (Q : Bool → Prop) (hp : is2_pre x) (hq : Q (is2 x)) : Vc (fnE ⟨tt, sp_within, noX, [(0, is2_l0_sp x)], [], []⟩ Try.f63 (argsE (.one (Ty.sl yy2)) x) (heapE (.one (Ty.sl yy2)) x) (retE (.one Ty.bool) Q)) := .eq (is2_vc x Q) (have hp := Eq.mp (is2_pre.eq_1 x) hp; have hq := Eq.mp (congrArg Q (is2.eq_1 x)) hq;
 (Exists.intro (0 : Int) (And.intro (ren_ok (π := [.same 0]) (And.intro rfl (And.intro rfl (And.intro rfl trivial))) (And.intro (ren_same rfl rfl) trivial) rfl) (And.intro hp (let_0 (Q := Q) hq fun r hq => (cS_k (Q := Q) (P := fun _ => True) (P' := fun _ => True) (by cases r <;> trivial) hq (fun a _ hq => hq) (fun b _ hq => hq)))))))
noncomputable def is2_S : FnS := ⟨(.one (Ty.sl yy2)), (.one Ty.bool), is2_pre, is2⟩
theorem is2_ok : SpecOk Try.prog 63 (fnSpec is2_S) := SpecOk.fnT' (fn := Try.f63) tt_ok sp_within_ok mixed (by kernel_rfl) (by kernel_rfl) (.one (Ty.sl yy2)) (.one Ty.bool) is2_pre is2 (by kernel_rfl) fun x hp => ⟨_, _, (ItsOk.nil _ _), (LpsOk.consV tt_ok (SpecsOk.ctxI sp_within_ok (ItsOk.nil _ _)) mixed LpsOk.nil (by kernel_rfl) (by kernel_rfl) (is2_l0_ok x)), is2_fn x (fun y => y = is2 x) hp rfl⟩
def sp_is2 : List (Nat × Ev.Spec) := (63, fnSpec is2_S) :: sp_within
theorem sp_is2_ok : SpecsOk Try.prog sp_is2 := SpecsOk.cons (Enters.of (fn := Try.f63) (by kernel_rfl) (by kernel_rfl) (by kernel_rfl)) is2_ok sp_within_ok
noncomputable def is3_l0_tm (x : (List (Int × (Int × Int)))) (s : Int) : AS := ⟨[D, D, D, D, D, .v (.one (.full 0)), vi (((List.length x) : Nat) : Int), vi s, D, D, D, D, D, D, D, D, D, D, D, D, D], [.row yy3 x 0]⟩
noncomputable def is3_l0_out (x : (List (Int × (Int × Int)))) (r : (Unit ⊕ Unit)) (K : Exit → AS → Prop) : Prop := cS r (fun a0 => K .ret ⟨[D, D, vb false, D, D, D, D, D, D, D, D, D, D, D, D, D, D, D, D, D, D], []⟩) (fun b0 => K .normal ⟨[D, D, D, D, D, D, D, D, D, D, D, D, D, D, D, D, D, D, D, D, D], []⟩)
noncomputable def is3_l0_step (x : (List (Int × (Int × Int)))) (s : Int) : Int ⊕ (Unit ⊕ Unit) :=
 (if (s < (((List.length x) : Nat) : Int)) then
 (letV (near [(List.getD x (Int.toNat s) ((0 : Int), ((0 : Int), (0 : Int)))).1, (List.getD x (Int.toNat s) ((0 : Int), ((0 : Int), (0 : Int)))).2.1, (List.getD x (Int.toNat s) ((0 : Int), ((0 : Int), (0 : Int)))).2.2]) fun y =>
 (if ((!y) = true) then
 (Sum.inr (Sum.inl ())) else
 (Sum.inl (w64 (s + (1 : Int)))))) else
 (Sum.inr (Sum.inr (()))))
noncomputable def is3_l0_pre (x : (List (Int × (Int × Int)))) (s : Int) : Prop :=
 ((s < (((List.length x) : Nat) : Int)) →
 ((((0 : Int) ≤ s) ∧ (s < (((List.length x) : Nat) : Int))) ∧
 (((Int.toNat s) < (List.length x)) ∧
 (((Int.toNat s) < (List.length x)) ∧
 (near_pre [(List.getD x (Int.toNat s) ((0 : Int), ((0 : Int), (0 : Int)))).1, (List.getD x (Int.toNat s) ((0 : Int), ((0 : Int), (0 : Int)))).2.1, (List.getD x (Int.toNat s) ((0 : Int), ((0 : Int), (0 : Int)))).2.2])))))
noncomputable def is3_l0_sp (x : (List (Int × (Int × Int)))) : LSpec := loopSp (is3_l0_tm x) (is3_l0_step x) (is3_l0_pre x) (is3_l0_out x)
theorem is3_l0_vc (x : (List (Int × (Int × Int)))) (s : Int) (K : Exit → AS → Prop) (KN : AS → Prop) : codeE ⟨tt, sp_is2, noX, [], [], []⟩ (cI (blk 0 (bodyOf Try.f72))) (is3_l0_tm x s) (KB 0 K KN) =
 (cB (decide (s < (((List.length x) : Nat) : Int)))
 (ob ((decide ((0 : Int) ≤ s)) && (decide (s < (((List.length x) : Nat) : Int))))
 (ob (decide ((Int.toNat s) < (List.length x)))
 (ob (decide ((Int.toNat s) < (List.length x)))
 ((near_pre [(List.getD x (Int.toNat s) zz3).1, (List.getD x (Int.toNat s) zz3).2.1, (List.getD x (Int.toNat s) zz3).2.2]) ∧ ∀ y : Bool, y = (near [(List.getD x (Int.toNat s) zz3).1, (List.getD x (Int.toNat s) zz3).2.1, (List.getD x (Int.toNat s) zz3).2.2]) →
 (cB (!y)
 (KB 0 K KN .ret ⟨[D, D, vb false, D, .v (.one (.ptr 1 0)), .v (.one (.full 0)), vi (((List.length x) : Nat) : Int), vi s, vb (decide (s < (((List.length x) : Nat) : Int))), .v (.one (.eptr 0 (Int.toNat s) 0)), .v (.agg [ci (List.getD x (Int.toNat s) zz3).1, ci (List.getD x (Int.toNat s) zz3).2.1, ci (List.getD x (Int.toNat s) zz3).2.2]), .v (.one (.ptr 1 0)), vi (List.getD x (Int.toNat s) zz3).1, .v (.one (.ptr 1 1)), vi (List.getD x (Int.toNat s) zz3).2.1, .v (.one (.ptr 1 2)), vi (List.getD x (Int.toNat s) zz3).2.2, .v (.one (.sl 2 0 3 3)), vb y, vb (!y), D], [.row yy3 x 0, .cells [ci (List.getD x (Int.toNat s) zz3).1, ci (List.getD x (Int.toNat s) zz3).2.1, ci (List.getD x (Int.toNat s) zz3).2.2] 69, .cells [ci (List.getD x (Int.toNat s) zz3).1, ci (List.getD x (Int.toNat s) zz3).2.1, ci (List.getD x (Int.toNat s) zz3).2.2] 3]⟩)
 (KB 0 K KN .normal ⟨[D, D, D, D, .v (.one (.ptr 1 0)), .v (.one (.full 0)), vi (((List.length x) : Nat) : Int), vi (w64 (s + (1 : Int))), vb (decide (s < (((List.length x) : Nat) : Int))), .v (.one (.eptr 0 (Int.toNat s) 0)), .v (.agg [ci (List.getD x (Int.toNat s) zz3).1, ci (List.getD x (Int.toNat s) zz3).2.1, ci (List.getD x (Int.toNat s) zz3).2.2]), .v (.one (.ptr 1 0)), vi (List.getD x (Int.toNat s) zz3).1, .v (.one (.ptr 1 1)), vi (List.getD x (Int.toNat s) zz3).2.1, .v (.one (.ptr 1 2)), vi (List.getD x (Int.toNat s) zz3).2.2, .v (.one (.sl 2 0 3 3)), vb y, vb (!y), vi (w64 (s + (1 : Int)))], [.row yy3 x 0, .cells [ci (List.getD x (Int.toNat s) zz3).1, ci (List.getD x (Int.toNat s) zz3).2.1, ci (List.getD x (Int.toNat s) zz3).2.2] 69, .cells [ci (List.getD x (Int.toNat s) zz3).1, ci (List.getD x (Int.toNat s) zz3).2.1, ci (List.getD x (Int.toNat s) zz3).2.2] 3]⟩))))))
 (KB 0 K KN (.exit 0) ⟨[D, D, D, D, D, .v (.one (.full 0)), vi (((List.length x) : Nat) : Int), vi s, vb (decide (s < (((List.length x) : Nat) : Int))), D, D, D, D, D, D, D, D, D, D, D, D], [.row yy3 x 0]⟩)) := by kernel_rfl
theorem is3_l0_ok (x : (List (Int × (Int × Int)))) : ∀ st K, is3_l0_sp x st K → Vc (codeE ⟨tt, sp_is2, noX, [], [], []⟩ (.loop (cI (blk 0 (bodyOf Try.f72)))) st (wrapB 0 (orWeak K))) := loopSp_okV fun s K KN hp hq => .eq (is3_l0_vc x s K KN) (have hp := Eq.mp (is3_l0_pre.eq_1 x s) hp; have hq := Eq.mp (congrArg (stepQ (is3_l0_tm x) (is3_l0_out x) K KN) (is3_l0_step.eq_1 x s)) hq;
 (cB_d (Q := (stepQ (is3_l0_tm x) (is3_l0_out x) K KN)) hq (fun c hq => have hp := (hp c); (ob_k (and_t (decide_eq_true hp.1.1) (decide_eq_true hp.1.2)) (have hp := hp.2; (ob_k (decide_eq_true hp.1) (have hp := hp.2; (ob_k (decide_eq_true hp.1) (have hp := hp.2; (And.intro hp (let_0 (Q := (stepQ (is3_l0_tm x) (is3_l0_out x) K KN)) hq fun y hq => (cB_b (Q := (stepQ (is3_l0_tm x) (is3_l0_out x) K KN)) hq (fun c hq => (Exists.intro ⟨[D, D, vb false, D, D, D, D, D, D, D, D, D, D, D, D, D, D, D, D, D, D], []⟩ (And.intro (ren_ok (π := []) (And.intro rfl trivial) trivial rfl) hq))) (fun c hq => (Exists.intro (is3_l0_tm x (w64 (s + (1 : Int)))) (And.intro (ren_ok (π := [.same 0]) (And.intro rfl (And.intro rfl (And.intro rfl trivial))) (And.intro (ren_same rfl rfl) trivial) rfl) hq))))))))))))) (fun c hq => (Exists.intro ⟨[D, D, D, D, D, D, D, D, D, D, D, D, D, D, D, D, D, D, D, D, D], []⟩ (And.intro (ren_ok (π := []) trivial trivial rfl) hq)))))
noncomputable def is3 (x : (List (Int × (Int × Int)))) : Bool :=
 (letV (run (is3_l0_step x) (0 : Int)) fun r =>
 (Sum.elim (fun a =>
 false) (fun b =>
 true) r))
noncomputable def is3_pre (x : (List (Int × (Int × Int)))) : Prop :=
 (Term (is3_l0_step x) (is3_l0_pre x) (0 : Int))
theorem is3_vc (x : (List (Int × (Int × Int)))) (Q : Bool → Prop) : fnE ⟨tt, sp_is2, noX, [(0, is3_l0_sp x)], [], []⟩ Try.f72 (argsE (.one (Ty.sl yy3)) x) (heapE (.one (Ty.sl yy3)) x) (retE (.one Ty.bool) Q) =
 (Exists fun s0 : Int => Weak ⟨[.v (.one (.full 0)), und, vb false, und, und, .v (.one (.full 0)), vi (((List.length x) : Nat) : Int), vi (0 : Int), und, und, und, und, und, und, und, und, und, und, und, und, und], [.row yy3 x 0]⟩ (is3_l0_tm x s0) ∧ Term (is3_l0_step x) (is3_l0_pre x) s0 ∧ ∀ r : (Unit ⊕ Unit), r = run (is3_l0_step x) s0 →
 (cS r (fun a =>
 (Q false)) (fun b =>
 (Q true)))) := by kernel_rfl
theorem is3_fn (x : (List (Int × (Int × Int)))) (Q : Bool → Prop) (hp : is3_pre x) (hq : Q (is3 x)) : Vc (fnE ⟨tt, sp_is2, noX, [(0, is3_l0_sp x)], [], []⟩ Try.f72 (argsE (.one (Ty.sl yy3)) x) (heapE (.one (Ty.sl yy3)) x) (retE (.one Ty.bool) Q)) := .eq (is3_vc x Q) (have hp := Eq.mp (is3_pre.eq_1 x) hp; have hq := Eq.mp (congrArg Q (is3.eq_1 x)) hq;
 (Exists.intro (0 : Int) (And.intro (ren_ok (π := [.same 0]) (And.intro rfl (And.intro rfl (And.intro rfl trivial))) (And.intro (ren_same rfl rfl) trivial) rfl) (And.intro hp (let_0 (Q := Q) hq fun r hq => (cS_k (Q := Q) (P := fun _ => True) (P' := fun _ => True) (by cases r <;> trivial) hq (fun a _ hq => hq) (fun b _ hq => hq)))))))
noncomputable def is3_S : FnS := ⟨(.one (Ty.sl yy3)), (.one Ty.bool), is3_pre, is3⟩
theorem is3_ok : SpecOk Try.prog 72 (fnSpec is3_S) := SpecOk.fnT' (fn := Try.f72) tt_ok sp_is2_ok mixed (by kernel_rfl) (by kernel_rfl) (.one (Ty.sl yy3)) (.one Ty.bool) is3_pre is3 (by kernel_rfl) fun x hp => ⟨_, _, (ItsOk.nil _ _), (LpsOk.consV tt_ok (SpecsOk.ctxI sp_is2_ok (ItsOk.nil _ _)) mixed LpsOk.nil (by kernel_rfl) (by kernel_rfl) (is3_l0_ok x)), is3_fn x (fun y => y = is3 x) hp rfl⟩
def sp_is3 : List (Nat × Ev.Spec) := (72, fnSpec is3_S) :: sp_is2
theorem sp_is3_ok : SpecsOk Try.prog sp_is3 := SpecsOk.cons (Enters.of (fn := Try.f72) (by kernel_rfl) (by kernel_rfl) (by kernel_rfl)) is3_ok sp_is2_ok
noncomputable def small2_l0_tm (x : (List (Int × Int))) (s : Int) : AS := ⟨[D, D, D, D, D, .v (.one (.full 0)), vi (((List.length x) : Nat) : Int), vi s, D, D, D, D, D, D, D, D, D, D, D], [.row yy2 x 0]⟩
noncomputable def small2_l0_out (x : (List (Int × Int))) (r : (Unit ⊕ Unit)) (K : Exit → AS → Prop) : Prop := cS r (fun a0 => K .ret ⟨[D, D, vb false, D, D, D, D, D, D, D, D, D, D, D, D, D, D, D, D], []⟩) (fun b0 => K .normal ⟨[D, D, D, D, D, D, D, D, D, D, D, D, D, D, D, D, D, D, D], []⟩)
noncomputable def small2_l0_step (x : (List (Int × Int))) (s : Int) : Int ⊕ (Unit ⊕ Unit) :=
 (if (s < (((List.length x) : Nat) : Int)) then
 (letV (within ((4096 : Int), [(List.getD x (Int.toNat s) ((0 : Int), (0 : Int))).1, (List.getD x (Int.toNat s) ((0 : Int), (0 : Int))).2])) fun y =>
 (if ((!y) = true) then
 (Sum.inr (Sum.inl ())) else
 (Sum.inl (w64 (s + (1 : Int)))))) else
 (Sum.inr (Sum.inr (()))))
noncomputable def small2_l0_pre (x : (List (Int × Int))) (s : Int) : Prop :=
 ((s < (((List.length x) : Nat) : Int)) →
 ((((0 : Int) ≤ s) ∧ (s < (((List.length x) : Nat) : Int))) ∧
 (((Int.toNat s) < (List.length x)) ∧
 (((Int.toNat s) < (List.length x)) ∧
 (within_pre ((4096 : Int), [(List.getD x (Int.toNat s) ((0 : Int), (0 : Int))).1, (List.getD x (Int.toNat s) ((0 : Int), (0 : Int))).2]))))))
noncomputable def small2_l0_sp (x : (List (Int × Int))) : LSpec := loopSp (small2_l0_tm x) (small2_l0_step x) (small2_l0_pre x) (small2_l0_out x)
theorem small2_l0_vc (x : (List (Int × Int))) (s : Int) (K : Exit → AS → Prop) (KN : AS → Prop) : codeE ⟨tt, sp_is3, noX, [], [], []⟩ (cI (blk 0 (bodyOf Try.f37))) (small2_l0_tm x s) (KB 0 K KN) =
 (cB (decide (s < (((List.length x) : Nat) : Int)))
 (ob ((decide ((0 : Int) ≤ s)) && (decide (s < (((List.length x) : Nat) : Int))))
 (ob (decide ((Int.toNat s) < (List.length x)))
 (ob (decide ((Int.toNat s) < (List.length x)))
 ((within_pre ((4096 : Int), [(List.getD x (Int.toNat s) zz2).1, (List.getD x (Int.toNat s) zz2).2])) ∧ ∀ y : Bool, y = (within ((4096 : Int), [(List.getD x (Int.toNat s) zz2).1, (List.getD x (Int.toNat s) zz2).2])) →
 (cB (!y)
 (KB 0 K KN .ret ⟨[D, D, vb false, D, .v (.one (.ptr 1 0)), .v (.one (.full 0)), vi (((List.length x) : Nat) : Int), vi s, vb (decide (s < (((List.length x) : Nat) : Int))), .v (.one (.eptr 0 (Int.toNat s) 0)), .v (.agg [ci (List.getD x (Int.toNat s) zz2).1, ci (List.getD x (Int.toNat s) zz2).2]), .v (.one (.ptr 1 0)), vi (List.getD x (Int.toNat s) zz2).1, .v (.one (.ptr 1 1)), vi (List.getD x (Int.toNat s) zz2).2, .v (.one (.sl 2 0 2 2)), vb y, vb (!y), D], [.row yy2 x 0, .cells [ci (List.getD x (Int.toNat s) zz2).1, ci (List.getD x (Int.toNat s) zz2).2] 42, .cells [ci (List.getD x (Int.toNat s) zz2).1, ci (List.getD x (Int.toNat s) zz2).2] 3]⟩)
 (KB 0 K KN .normal ⟨[D, D, D, D, .v (.one (.ptr 1 0)), .v (.one (.full 0)), vi (((List.length x) : Nat) : Int), vi (w64 (s + (1 : Int))), vb (decide (s < (((List.length x) : Nat) : Int))), .v (.one (.eptr 0 (Int.toNat s) 0)), .v (.agg [ci (List.getD x (Int.toNat s) zz2).1, ci (List.getD x (Int.toNat s) zz2).2]), .v (.one (.ptr 1 0)), vi (List.getD x (Int.toNat s) zz2).1, .v (.one (.ptr 1 1)), vi (List.getD x (Int.toNat s) zz2).2, .v (.one (.sl 2 0 2 2)), vb y, vb (!y), vi (w64 (s + (1 : Int)))], [.row yy2 x 0, .cells [ci (List.getD x (Int.toNat s) zz2).1, ci (List.getD x (Int.toNat s) zz2).2] 42, .cells [ci (List.getD x (Int.toNat s) zz2).1, ci (List.getD x (Int.toNat s) zz2).2] 3]⟩))))))
 (KB 0 K KN (.exit 0) ⟨[D, D, D, D, D, .v (.one (.full 0)), vi (((List.length x) : Nat) : Int), vi s, vb (decide (s < (((List.length x) : Nat) : Int))), D, D, D, D, D, D, D, D, D, D], [.row yy2 x 0]⟩)) := by kernel_rfl
theorem small2_l0_ok (x : (List (Int × Int))) : ∀ st K, small2_l0_sp x st K → Vc (codeE ⟨tt, sp_is3, noX, [], [], []⟩ (.loop (cI (blk 0 (bodyOf Try.f37)))) st (wrapB 0 (orWeak K))) := loopSp_okV fun s K KN hp hq => .eq (small2_l0_vc x s K KN) (have hp := Eq.mp (small2_l0_pre.eq_1 x s) hp; have hq := Eq.mp (congrArg (stepQ (small2_l0_tm x) (small2_l0_out x) K KN) (small2_l0_step.eq_1 x s)) hq;
 (cB_d (Q := (stepQ (small2_l0_tm x) (small2_l0_out x) K KN)) hq (fun c hq => have hp := (hp c); (ob_k (and_t (decide_eq_true hp.1.1) (decide_eq_true hp.1.2)) (have hp := hp.2; (ob_k (decide_eq_true hp.1) (have hp := hp.2; (ob_k (decide_eq_true hp.1) (have hp := hp.2; (And.intro hp (let_0 (Q := (stepQ (small2_l0_tm x) (small2_l0_out x) K KN)) hq fun y hq => (cB_b (Q := (stepQ (small2_l0_tm x) (small2_l0_out x) K KN)) hq (fun c hq => (Exists.intro ⟨[D, D, vb false, D, D, D, D, D, D, D, D, D, D, D, D, D, D, D, D], []⟩ (And.intro (ren_ok (π := []) (And.intro rfl trivial) trivial rfl) hq))) (fun c hq => (Exists.intro (small2_l0_tm x (w64 (s + (1 : Int)))) (And.intro (ren_ok (π := [.same 0]) (And.intro rfl (And.intro rfl (And.intro rfl trivial))) (And.intro (ren_same rfl rfl) trivial) rfl) hq))))))))))))) (fun c hq => (Exists.intro ⟨[D, D, D, D, D, D, D, D, D, D, D, D, D, D, D, D, D, D, D], []⟩ (And.intro (ren_ok (π := []) trivial trivial rfl) hq)))))
noncomputable def small2 (x : (List (Int × Int))) : Bool :=
 (letV (run (small2_l0_step x) (0 : Int)) fun r =>
 (Sum.elim (fun a =>
 false) (fun b =>
 true) r))
noncomputable def small2_pre (x : (List (Int × Int))) : Prop :=
 (Term (small2_l0_step x) (small2_l0_pre x) (0 : Int))
theorem small2_vc (x : (List (Int × Int))) (Q : Bool → Prop) : fnE ⟨tt, sp_is3, noX, [(0, small2_l0_sp x)], [], []⟩ Try.f37 (argsE (.one (Ty.sl yy2)) x) (heapE (.one (Ty.sl yy2)) x) (retE (.one Ty.bool) Q) =
 (Exists fun s0 : Int => Weak ⟨[.v (.one (.full 0)), und, vb false, und, und, .v (.one (.full 0)), vi (((List.length x) : Nat) : Int), vi (0 : Int), und, und, und, und, und, und, und, und, und, und, und], [.row yy2 x 0]⟩ (small2_l0_tm x s0) ∧ Term (small2_l0_step x) (small2_l0_pre x) s0 ∧ ∀ r : (Unit ⊕ Unit), r = run (small2_l0_step x) s0 →
 (cS r (fun a =>
 (Q false)) (fun b =>
 (Q true)))) := by kernel_rfl
theorem small2_fn (x : (List (Int × Int))) (Q : Bool → Prop) (hp : small2_pre x) (hq : Q (small2 x)) : Vc (fnE ⟨tt, sp_is3, noX, [(0, small2_l0_sp x)], [], []⟩ Try.f37 (argsE (.one (Ty.sl yy2)) x) (heapE (.one (Ty.sl yy2)) x) (retE (.one Ty.bool) Q)) := .eq (small2_vc x Q) (have hp := Eq.mp (small2_pre.eq_1 x) hp; have hq := Eq.mp (congrArg Q (small2.eq_1 x)) hq;
 (Exists.intro (0 : Int) (And.intro (ren_ok (π := [.same 0]) (And.intro rfl (And.intro rfl (And.intro rfl trivial))) (And.intro (ren_same rfl rfl) trivial) rfl) (And.intro hp (let_0 (Q := Q) hq fun r hq => (cS_k (Q := Q) (P := fun _ => True) (P' := fun _ => True) (by cases r <;> trivial) hq (fun a _ hq => hq) (fun b _ hq => hq)))))))
noncomputable def small2_S : FnS := ⟨(.one (Ty.sl yy2)), (.one Ty.bool), small2_pre, small2⟩
theorem small2_ok : SpecOk Try.prog 37 (fnSpec small2_S) := SpecOk.fnT' (fn := Try.f37) tt_ok sp_is3_ok mixed (by kernel_rfl) (by kernel_rfl) (.one (Ty.sl yy2)) (.one Ty.bool) small2_pre small2 (by kernel_rfl) fun x hp => ⟨_, _, (ItsOk.nil _ _), (LpsOk.consV tt_ok (SpecsOk.ctxI sp_is3_ok (ItsOk.nil _ _)) mixed LpsOk.nil (by kernel_rfl) (by kernel_rfl) (small2_l0_ok x)), small2_fn x (fun y => y = small2 x) hp rfl⟩
def sp_small2 : List (Nat × Ev.Spec) := (37, fnSpec small2_S) :: sp_is3
theorem sp_small2_ok : SpecsOk Try.prog sp_small2 := SpecsOk.cons (Enters.of (fn := Try.f37) (by kernel_rfl) (by kernel_rfl) (by kernel_rfl)) small2_ok sp_is3_ok
noncomputable def small3_l0_tm (x : (List (Int × (Int × Int)))) (s : Int) : AS := ⟨[D, D, D, D, D, .v (.one (.full 0)), vi (((List.length x) : Nat) : Int), vi s, D, D, D, D, D, D, D, D, D, D, D, D, D], [.row yy3 x 0]⟩
noncomputable def small3_l0_out (x : (List (Int × (Int × Int)))) (r : (Unit ⊕ Unit)) (K : Exit → AS → Prop) : Prop := cS r (fun a0 => K .ret ⟨[D, D, vb false, D, D, D, D, D, D, D, D, D, D, D, D, D, D, D, D, D, D], []⟩) (fun b0 => K .normal ⟨[D, D, D, D, D, D, D, D, D, D, D, D, D, D, D, D, D, D, D, D, D], []⟩)
noncomputable def small3_l0_step (x : (List (Int × (Int × Int)))) (s : Int) : Int ⊕ (Unit ⊕ Unit) :=
 (if (s < (((List.length x) : Nat) : Int)) then
 (letV (within ((16384 : Int), [(List.getD x (Int.toNat s) ((0 : Int), ((0 : Int), (0 : Int)))).1, (List.getD x (Int.toNat s) ((0 : Int), ((0 : Int), (0 : Int)))).2.1, (List.getD x (Int.toNat s) ((0 : Int), ((0 : Int), (0 : Int)))).2.2])) fun y =>
 (if ((!y) = true) then
 (Sum.inr (Sum.inl ())) else
 (Sum.inl (w64 (s + (1 : Int)))))) else
 (Sum.inr (Sum.inr (()))))
noncomputable def small3_l0_pre (x : (List (Int × (Int × Int)))) (s : Int) : Prop :=
 ((s < (((List.length x) : Nat) : Int)) →
 ((((0 : Int) ≤ s) ∧ (s < (((List.length x) : Nat) : Int))) ∧
 (((Int.toNat s) < (List.length x)) ∧
 (((Int.toNat s) < (List.length x)) ∧
 (within_pre ((16384 : Int), [(List.getD x (Int.toNat s) ((0 : Int), ((0 : Int), (0 : Int)))).1, (List.getD x (Int.toNat s) ((0 : Int), ((0 : Int), (0 : Int)))).2.1, (List.getD x (Int.toNat s) ((0 : Int), ((0 : Int), (0 : Int)))).2.2]))))))
noncomputable def small3_l0_sp (x : (List (Int × (Int × Int)))) : LSpec := loopSp (small3_l0_tm x) (small3_l0_step x) (small3_l0_pre x) (small3_l0_out x)
theorem small3_l0_vc (x : (List (Int × (Int × Int)))) (s : Int) (K : Exit → AS → Prop) (KN : AS → Prop) : codeE ⟨tt, sp_small2, noX, [], [], []⟩ (cI (blk 0 (bodyOf Try.f85))) (small3_l0_tm x s) (KB 0 K KN) =
 (cB (decide (s < (((List.length x) : Nat) : Int)))
 (ob ((decide ((0 : Int) ≤ s)) && (decide (s < (((List.length x) : Nat) : Int))))
 (ob (decide ((Int.toNat s) < (List.length x)))
 (ob (decide ((Int.toNat s) < (List.length x)))
 ((within_pre ((16384 : Int), [(List.getD x (Int.toNat s) zz3).1, (List.getD x (Int.toNat s) zz3).2.1, (List.getD x (Int.toNat s) zz3).2.2])) ∧ ∀ y : Bool, y = (within ((16384 : Int), [(List.getD x (Int.toNat s) zz3).1, (List.getD x (Int.toNat s) zz3).2.1, (List.getD x (Int.toNat s) zz3).2.2])) →
 (cB (!y)
 (KB 0 K KN .ret ⟨[D, D, vb false, D, .v (.one (.ptr 1 0)), .v (.one (.full 0)), vi (((List.length x) : Nat) : Int), vi s, vb (decide (s < (((List.length x) : Nat) : Int))), .v (.one (.eptr 0 (Int.toNat s) 0)), .v (.agg [ci (List.getD x (Int.toNat s) zz3).1, ci (List.getD x (Int.toNat s) zz3).2.1, ci (List.getD x (Int.toNat s) zz3).2.2]), .v (.one (.ptr 1 0)), vi (List.getD x (Int.toNat s) zz3).1, .v (.one (.ptr 1 1)), vi (List.getD x (Int.toNat s) zz3).2.1, .v (.one (.ptr 1 2)), vi (List.getD x (Int.toNat s) zz3).2.2, .v (.one (.sl 2 0 3 3)), vb y, vb (!y), D], [.row yy3 x 0, .cells [ci (List.getD x (Int.toNat s) zz3).1, ci (List.getD x (Int.toNat s) zz3).2.1, ci (List.getD x (Int.toNat s) zz3).2.2] 69, .cells [ci (List.getD x (Int.toNat s) zz3).1, ci (List.getD x (Int.toNat s) zz3).2.1, ci (List.getD x (Int.toNat s) zz3).2.2] 3]⟩)
 (KB 0 K KN .normal ⟨[D, D, D, D, .v (.one (.ptr 1 0)), .v (.one (.full 0)), vi (((List.length x) : Nat) : Int), vi (w64 (s + (1 : Int))), vb (decide (s < (((List.length x) : Nat) : Int))), .v (.one (.eptr 0 (Int.toNat s) 0)), .v (.agg [ci (List.getD x (Int.toNat s) zz3).1, ci (List.getD x (Int.toNat s) zz3).2.1, ci (List.getD x (Int.toNat s) zz3).2.2]), .v (.one (.ptr 1 0)), vi (List.getD x (Int.toNat s) zz3).1, .v (.one (.ptr 1 1)), vi (List.getD x (Int.toNat s) zz3).2.1, .v (.one (.ptr 1 2)), vi (List.getD x (Int.toNat s) zz3).2.2, .v (.one (.sl 2 0 3 3)), vb y, vb (!y), vi (w64 (s + (1 : Int)))], [.row yy3 x 0, .cells [ci (List.getD x (Int.toNat s) zz3).1, ci (List.getD x (Int.toNat s) zz3).2.1, ci (List.getD x (Int.toNat s) zz3).2.2] 69, .cells [ci (List.getD x (Int.toNat s) zz3).1, ci (List.getD x (Int.toNat s) zz3).2.1, ci (List.getD x (Int.toNat s) zz3).2.2] 3]⟩))))))
 (KB 0 K KN (.exit 0) ⟨[D, D, D, D, D, .v (.one (.full 0)), vi (((List.length x) : Nat) : Int), vi s, vb (decide (s < (((List.length x) : Nat) : Int))), D, D, D, D, D, D, D, D, D, D, D, D], [.row yy3 x 0]⟩)) := by kernel_rfl
theorem small3_l0_ok (x : (List (Int × (Int × Int)))) : ∀ st K, small3_l0_sp x st K → Vc (codeE ⟨tt, sp_small2, noX, [], [], []⟩ (.loop (cI (blk 0 (bodyOf Try.f85)))) st (wrapB 0 (orWeak K))) := loopSp_okV fun s K KN hp hq => .eq (small3_l0_vc x s K KN) (have hp := Eq.mp (small3_l0_pre.eq_1 x s) hp; have hq := Eq.mp (congrArg (stepQ (small3_l0_tm x) (small3_l0_out x) K KN) (small3_l0_step.eq_1 x s)) hq;
 (cB_d (Q := (stepQ (small3_l0_tm x) (small3_l0_out x) K KN)) hq (fun c hq => have hp := (hp c); (ob_k (and_t (decide_eq_true hp.1.1) (decide_eq_true hp.1.2)) (have hp := hp.2; (ob_k (decide_eq_true hp.1) (have hp := hp.2; (ob_k (decide_eq_true hp.1) (have hp := hp.2; (And.intro hp (let_0 (Q := (stepQ (small3_l0_tm x) (small3_l0_out x) K KN)) hq fun y hq => (cB_b (Q := (stepQ (small3_l0_tm x) (small3_l0_out x) K KN)) hq (fun c hq => (Exists.intro ⟨[D, D, vb false, D, D, D, D, D, D, D, D, D, D, D, D, D, D, D, D, D, D], []⟩ (And.intro (ren_ok (π := []) (And.intro rfl trivial) trivial rfl) hq))) (fun c hq => (Exists.intro (small3_l0_tm x (w64 (s + (1 : Int)))) (And.intro (ren_ok (π := [.same 0]) (And.intro rfl (And.intro rfl (And.intro rfl trivial))) (And.intro (ren_same rfl rfl) trivial) rfl) hq))))))))))))) (fun c hq => (Exists.intro ⟨[D, D, D, D, D, D, D, D, D, D, D, D, D, D, D, D, D, D, D, D, D], []⟩ (And.intro (ren_ok (π := []) trivial trivial rfl) hq)))))
noncomputable def small3 (x : (List (Int × (Int × Int)))) : Bool :=
 (letV (run (small3_l0_step x) (0 : Int)) fun r =>
 (Sum.elim (fun a =>
 false) (fun b =>
 true) r))
noncomputable def small3_pre (x : (List (Int × (Int × Int)))) : Prop :=
 (Term (small3_l0_step x) (small3_l0_pre x) (0 : Int))
theorem small3_vc (x : (List (Int × (Int × Int)))) (Q : Bool → Prop) : fnE ⟨tt, sp_small2, noX, [(0, small3_l0_sp x)], [], []⟩ Try.f85 (argsE (.one (Ty.sl yy3)) x) (heapE (.one (Ty.sl yy3)) x) (retE (.one Ty.bool) Q) =
 (Exists fun s0 : Int => Weak ⟨[.v (.one (.full 0)), und, vb false, und, und, .v (.one (.full 0)), vi (((List.length x) : Nat) : Int), vi (0 : Int), und, und, und, und, und, und, und, und, und, und, und, und, und], [.row yy3 x 0]⟩ (small3_l0_tm x s0) ∧ Term (small3_l0_step x) (small3_l0_pre x) s0 ∧ ∀ r : (Unit ⊕ Unit), r = run (small3_l0_step x) s0 →
 (cS r (fun a =>
 (Q false)) (fun b =>
 (Q true)))) := by kernel_rfl
theorem small3_fn (x : (List (Int × (Int × Int)))) (Q : Bool → Prop) (hp : small3_pre x) (hq : Q (small3 x)) : Vc (fnE ⟨tt, sp_small2, noX, [(0, small3_l0_sp x)], [], []⟩ Try.f85 (argsE (.one (Ty.sl yy3)) x) (heapE (.one (Ty.sl yy3)) x) (retE (.one Ty.bool) Q)) := .eq (small3_vc x Q) (have hp := Eq.mp (small3_pre.eq_1 x) hp; have hq := Eq.mp (congrArg Q (small3.eq_1 x)) hq;
 (Exists.intro (0 : Int) (And.intro (ren_ok (π := [.same 0]) (And.intro rfl (And.intro rfl (And.intro rfl trivial))) (And.intro (ren_same rfl rfl) trivial) rfl) (And.intro hp (let_0 (Q := Q) hq fun r hq => (cS_k (Q := Q) (P := fun _ => True) (P' := fun _ => True) (by cases r <;> trivial) hq (fun a _ hq => hq) (fun b _ hq => hq)))))))
noncomputable def small3_S : FnS := ⟨(.one (Ty.sl yy3)), (.one Ty.bool), small3_pre, small3⟩
theorem small3_ok : SpecOk Try.prog 85 (fnSpec small3_S) := SpecOk.fnT' (fn := Try.f85) tt_ok sp_small2_ok mixed (by kernel_rfl) (by kernel_rfl) (.one (Ty.sl yy3)) (.one Ty.bool) small3_pre small3 (by kernel_rfl) fun x hp => ⟨_, _, (ItsOk.nil _ _), (LpsOk.consV tt_ok (SpecsOk.ctxI sp_small2_ok (ItsOk.nil _ _)) mixed LpsOk.nil (by kernel_rfl) (by kernel_rfl) (small3_l0_ok x)), small3_fn x (fun y => y = small3 x) hp rfl⟩
def sp_small3 : List (Nat × Ev.Spec) := (85, fnSpec small3_S) :: sp_small2
theorem sp_small3_ok : SpecsOk Try.prog sp_small3 := SpecsOk.cons (Enters.of (fn := Try.f85) (by kernel_rfl) (by kernel_rfl) (by kernel_rfl)) small3_ok sp_small2_ok
noncomputable def sub2 (x : ((Int × Int) × (Int × Int))) : (Int × Int) :=
 (letV (is2 [x.1, x.2]) fun y =>
 (if ((!y) = true) then
 ((0 : Int), (0 : Int)) else
 ((w64 (x.1.1 - x.2.1)), (w64 (x.1.2 - x.2.2)))))
noncomputable def sub2_pre (x : ((Int × Int) × (Int × Int))) : Prop :=
 (is2_pre [x.1, x.2])
theorem sub2_vc (x : ((Int × Int) × (Int × Int))) (Q : (Int × Int) → Prop) : fnE ⟨tt, sp_small3, noX, [], [], []⟩ Try.f48 (argsE (.pair (.agg yy2) (.agg yy2)) x) (heapE (.pair (.agg yy2) (.agg yy2)) x) (retE (.agg yy2) Q) =
 ((is2_pre [x.1, x.2]) ∧ ∀ y : Bool, y = (is2 [x.1, x.2]) →
 (cB (!y)
 (Q zz2)
 (Q ((w64 (x.1.1 - x.2.1)), (w64 (x.1.2 - x.2.2)))))) := by kernel_rfl
theorem sub2_fn (x : ((Int × Int) × (Int × Int))) (Q : (Int × Int) → Prop) (hp : sub2_pre x) (hq : Q (sub2 x)) : Vc (fnE ⟨tt, sp_small3, noX, [], [], []⟩ Try.f48 (argsE (.pair (.agg yy2) (.agg yy2)) x) (heapE (.pair (.agg yy2) (.agg yy2)) x) (retE (.agg yy2) Q)) := .eq (sub2_vc x Q) (have hp := Eq.mp (sub2_pre.eq_1 x) hp; have hq := Eq.mp (congrArg Q (sub2.eq_1 x)) hq;
 (And.intro hp (let_0 (Q := Q) hq fun y hq => (cB_b (Q := Q) hq (fun c hq => hq) (fun c hq => hq)))))
noncomputable def sub2_S : FnS := ⟨(.pair (.agg yy2) (.agg yy2)), (.agg yy2), sub2_pre, sub2⟩
theorem sub2_ok : SpecOk Try.prog 48 (fnSpec sub2_S) := SpecOk.fnT' (fn := Try.f48) tt_ok sp_small3_ok mixed (by kernel_rfl) (by kernel_rfl) (.pair (.agg yy2) (.agg yy2)) (.agg yy2) sub2_pre sub2 (by kernel_rfl) fun x hp => ⟨_, _, (ItsOk.nil _ _), LpsOk.nil, sub2_fn x (fun y => y = sub2 x) hp rfl⟩
def sp_sub2 : List (Nat × Ev.Spec) := (48, fnSpec sub2_S) :: sp_small3
theorem sp_sub2_ok : SpecsOk Try.prog sp_sub2 := SpecsOk.cons (Enters.of (fn := Try.f48) (by kernel_rfl) (by kernel_rfl) (by kernel_rfl)) sub2_ok sp_small3_ok
noncomputable def cross2 (x : ((Int × Int) × (Int × Int))) : (Int × Int) :=
 (letV (is2 [x.1, x.2]) fun y =>
 (if ((!y) = true) then
 ((0 : Int), (5 : Int)) else
 ((w64 ((w64 (x.1.1 * x.2.2)) - (w64 (x.1.2 * x.2.1)))), (0 : Int))))
noncomputable def cross2_pre (x : ((Int × Int) × (Int × Int))) : Prop :=
 (is2_pre [x.1, x.2])
theorem cross2_vc (x : ((Int × Int) × (Int × Int))) (Q : (Int × Int) → Prop) : fnE ⟨tt, sp_sub2, noX, [], [], []⟩ Try.f47 (argsE (.pair (.agg yy2) (.agg yy2)) x) (heapE (.pair (.agg yy2) (.agg yy2)) x) (retE (.pair (.one yi) (.one yi)) Q) =
 ((is2_pre [x.1, x.2]) ∧ ∀ y : Bool, y = (is2 [x.1, x.2]) →
 (cB (!y)
 (Q ((0 : Int), (5 : Int)))
 (Q ((w64 ((w64 (x.1.1 * x.2.2)) - (w64 (x.1.2 * x.2.1)))), (0 : Int))))) := by kernel_rfl
theorem cross2_fn (x : ((Int × Int) × (Int × Int))) (Q : (Int × Int) → Prop) (hp : cross2_pre x) (hq : Q (cross2 x)) : Vc (fnE ⟨tt, sp_sub2, noX, [], [], []⟩ Try.f47 (argsE (.pair (.agg yy2) (.agg yy2)) x) (heapE (.pair (.agg yy2) (.agg yy2)) x) (retE (.pair (.one yi) (.one yi)) Q)) := .eq (cross2_vc x Q) (have hp := Eq.mp (cross2_pre.eq_1 x) hp; have hq := Eq.mp (congrArg Q (cross2.eq_1 x)) hq;
 (And.intro hp (let_0 (Q := Q) hq fun y hq => (cB_b (Q := Q) hq (fun c hq => hq) (fun c hq => hq)))))
noncomputable def cross2_S : FnS := ⟨(.pair (.agg yy2) (.agg yy2)), (.pair (.one yi) (.one yi)), cross2_pre, cross2⟩
theorem cross2_ok : SpecOk Try.prog 47 (fnSpec cross2_S) := SpecOk.fnT' (fn := Try.f47) tt_ok sp_sub2_ok mixed (by kernel_rfl) (by kernel_rfl) (.pair (.agg yy2) (.agg yy2)) (.pair (.one yi) (.one yi)) cross2_pre cross2 (by kernel_rfl) fun x hp => ⟨_, _, (ItsOk.nil _ _), LpsOk.nil, cross2_fn x (fun y => y = cross2 x) hp rfl⟩
def sp_cross2 : List (Nat × Ev.Spec) := (47, fnSpec cross2_S) :: sp_sub2
theorem sp_cross2_ok : SpecsOk Try.prog sp_cross2 := SpecsOk.cons (Enters.of (fn := Try.f47) (by kernel_rfl) (by kernel_rfl) (by kernel_rfl)) cross2_ok sp_sub2_ok
noncomputable def vparts (x : (Int × (Int × Int))) : (Int × (Int × Int)) :=
 x
noncomputable def vparts_pre (_ : (Int × (Int × Int))) : Prop := True
theorem vparts_vc (x : (Int × (Int × Int))) (Q : (Int × (Int × Int)) → Prop) : fnE ⟨tt, sp_cross2, noX, [], [], []⟩ Try.f62 (argsE (.agg yy3) x) (heapE (.agg yy3) x) (retE (.agg yy3) Q) =
 (Q x) := by kernel_rfl
theorem vparts_fn (x : (Int × (Int × Int))) (Q : (Int × (Int × Int)) → Prop) (hp : vparts_pre x) (hq : Q (vparts x)) : Vc (fnE ⟨tt, sp_cross2, noX, [], [], []⟩ Try.f62 (argsE (.agg yy3) x) (heapE (.agg yy3) x) (retE (.agg yy3) Q)) := .eq (vparts_vc x Q) (have hp := Eq.mp (vparts_pre.eq_1 x) hp; have hq := Eq.mp (congrArg Q (vparts.eq_1 x)) hq;
 hq)
noncomputable def vparts_S : FnS := ⟨(.agg yy3), (.agg yy3), vparts_pre, vparts⟩
theorem vparts_ok : SpecOk Try.prog 62 (fnSpec vparts_S) := SpecOk.fnT' (fn := Try.f62) tt_ok sp_cross2_ok mixed (by kernel_rfl) (by kernel_rfl) (.agg yy3) (.agg yy3) vparts_pre vparts (by kernel_rfl) fun x hp => ⟨_, _, (ItsOk.nil _ _), LpsOk.nil, vparts_fn x (fun y => y = vparts x) hp rfl⟩
def sp_vparts : List (Nat × Ev.Spec) := (62, fnSpec vparts_S) :: sp_cross2
theorem sp_vparts_ok : SpecsOk Try.prog sp_vparts := SpecsOk.cons (Enters.of (fn := Try.f62) (by kernel_rfl) (by kernel_rfl) (by kernel_rfl)) vparts_ok sp_cross2_ok
noncomputable def vpoint (x : (Int × (Int × Int))) : (Int × (Int × Int)) :=
 x
noncomputable def vpoint_pre (_ : (Int × (Int × Int))) : Prop := True
theorem vpoint_vc (x : (Int × (Int × Int))) (Q : (Int × (Int × Int)) → Prop) : fnE ⟨tt, sp_vparts, noX, [], [], []⟩ Try.f90 (argsE (.agg yy3) x) (heapE (.agg yy3) x) (retE (.agg yy3) Q) =
 (Q x) := by kernel_rfl
theorem vpoint_fn (x : (Int × (Int × Int))) (Q : (Int × (Int × Int)) → Prop) (hp : vpoint_pre x) (hq : Q (vpoint x)) : Vc (fnE ⟨tt, sp_vparts, noX, [], [], []⟩ Try.f90 (argsE (.agg yy3) x) (heapE (.agg yy3) x) (retE (.agg yy3) Q)) := .eq (vpoint_vc x Q) (have hp := Eq.mp (vpoint_pre.eq_1 x) hp; have hq := Eq.mp (congrArg Q (vpoint.eq_1 x)) hq;
 hq)
noncomputable def vpoint_S : FnS := ⟨(.agg yy3), (.agg yy3), vpoint_pre, vpoint⟩
theorem vpoint_ok : SpecOk Try.prog 90 (fnSpec vpoint_S) := SpecOk.fnT' (fn := Try.f90) tt_ok sp_vparts_ok mixed (by kernel_rfl) (by kernel_rfl) (.agg yy3) (.agg yy3) vpoint_pre vpoint (by kernel_rfl) fun x hp => ⟨_, _, (ItsOk.nil _ _), LpsOk.nil, vpoint_fn x (fun y => y = vpoint x) hp rfl⟩
def sp_vpoint : List (Nat × Ev.Spec) := (90, fnSpec vpoint_S) :: sp_vparts
theorem sp_vpoint_ok : SpecsOk Try.prog sp_vpoint := SpecsOk.cons (Enters.of (fn := Try.f90) (by kernel_rfl) (by kernel_rfl) (by kernel_rfl)) vpoint_ok sp_vparts_ok
noncomputable def vlow (x : Int) : Int :=
 (if (x > (0 : Int)) then
 (w64 ((0 : Int) - x)) else
 x)
noncomputable def vlow_pre (_ : Int) : Prop := True
theorem vlow_vc (x : Int) (Q : Int → Prop) : fnE ⟨tt, sp_vpoint, noX, [], [], []⟩ Try.f80 (argsE (.one yi) x) (heapE (.one yi) x) (retE (.one yi) Q) =
 (cB (decide (x > (0 : Int)))
 (Q (w64 ((0 : Int) - x)))
 (Q x)) := by kernel_rfl
theorem vlow_fn (x : Int) (Q : Int → Prop) (hp : vlow_pre x) (hq : Q (vlow x)) : Vc (fnE ⟨tt, sp_vpoint, noX, [], [], []⟩ Try.f80 (argsE (.one yi) x) (heapE (.one yi) x) (retE (.one yi) Q)) := .eq (vlow_vc x Q) (have hp := Eq.mp (vlow_pre.eq_1 x) hp; have hq := Eq.mp (congrArg Q (vlow.eq_1 x)) hq;
 (cB_d (Q := Q) hq (fun c hq => hq) (fun c hq => hq)))
noncomputable def vlow_S : FnS := ⟨(.one yi), (.one yi), vlow_pre, vlow⟩
theorem vlow_ok : SpecOk Try.prog 80 (fnSpec vlow_S) := SpecOk.fnT' (fn := Try.f80) tt_ok sp_vpoint_ok mixed (by kernel_rfl) (by kernel_rfl) (.one yi) (.one yi) vlow_pre vlow (by kernel_rfl) fun x hp => ⟨_, _, (ItsOk.nil _ _), LpsOk.nil, vlow_fn x (fun y => y = vlow x) hp rfl⟩
def sp_vlow : List (Nat × Ev.Spec) := (80, fnSpec vlow_S) :: sp_vpoint
theorem sp_vlow_ok : SpecsOk Try.prog sp_vlow := SpecsOk.cons (Enters.of (fn := Try.f80) (by kernel_rfl) (by kernel_rfl) (by kernel_rfl)) vlow_ok sp_vpoint_ok
noncomputable def vaxis (x : (Int × (Int × Int))) : Int :=
 (letV (vparts x) fun y =>
 (letV (vlow y.1) fun y_1 =>
 (letV (vlow y.1) fun y_2 =>
 (if (y_1 < y_2) then
 (letV (vlow y.2.1) fun y_3 =>
 (letV (vlow y.1) fun y_4 =>
 (if (y_3 < y_4) then
 (letV (vlow y.2.2) fun y_5 =>
 (letV (vlow y.2.1) fun y_6 =>
 (if (y_5 < y_6) then
 (2 : Int) else
 (1 : Int)))) else
 (letV (vlow y.2.2) fun y_5 =>
 (letV (vlow y.1) fun y_6 =>
 (if (y_5 < y_6) then
 (2 : Int) else
 (0 : Int))))))) else
 (letV (vlow y.2.1) fun y_3 =>
 (letV (vlow y.1) fun y_4 =>
 (if (y_3 < y_4) then
 (letV (vlow y.2.2) fun y_5 =>
 (letV (vlow y.2.1) fun y_6 =>
 (if (y_5 < y_6) then
 (2 : Int) else
 (1 : Int)))) else
 (letV (vlow y.2.2) fun y_5 =>
 (letV (vlow y.1) fun y_6 =>
 (if (y_5 < y_6) then
 (2 : Int) else
 (0 : Int)))))))))))
noncomputable def vaxis_pre (_ : (Int × (Int × Int))) : Prop := True
theorem vaxis_vc (x : (Int × (Int × Int))) (Q : Int → Prop) : fnE ⟨tt, sp_vlow, noX, ((0, unrolled tt sp_vlow noX [] [] [] 0 (cI (blk 0 (bodyOf Try.f66))) 4) :: []), [], []⟩ Try.f66 (argsE (.agg yy3) x) (heapE (.agg yy3) x) (retE (.one yi) Q) =
 ((vparts_pre x) ∧ ∀ y : (Int × (Int × Int)), y = (vparts x) →
 ((vlow_pre y.1) ∧ ∀ y_1 : Int, y_1 = (vlow y.1) →
 ((vlow_pre y.1) ∧ ∀ y_2 : Int, y_2 = (vlow y.1) →
 (cB (decide (y_1 < y_2))
 ((vlow_pre y.2.1) ∧ ∀ y_3 : Int, y_3 = (vlow y.2.1) →
 ((vlow_pre y.1) ∧ ∀ y_4 : Int, y_4 = (vlow y.1) →
 (cB (decide (y_3 < y_4))
 ((vlow_pre y.2.2) ∧ ∀ y_5 : Int, y_5 = (vlow y.2.2) →
 ((vlow_pre y.2.1) ∧ ∀ y_6 : Int, y_6 = (vlow y.2.1) →
 (cB (decide (y_5 < y_6))
 (Q (2 : Int))
 (Q (1 : Int)))))
 ((vlow_pre y.2.2) ∧ ∀ y_5 : Int, y_5 = (vlow y.2.2) →
 ((vlow_pre y.1) ∧ ∀ y_6 : Int, y_6 = (vlow y.1) →
 (cB (decide (y_5 < y_6))
 (Q (2 : Int))
 (Q (0 : Int))))))))
 ((vlow_pre y.2.1) ∧ ∀ y_3 : Int, y_3 = (vlow y.2.1) →
 ((vlow_pre y.1) ∧ ∀ y_4 : Int, y_4 = (vlow y.1) →
 (cB (decide (y_3 < y_4))
 ((vlow_pre y.2.2) ∧ ∀ y_5 : Int, y_5 = (vlow y.2.2) →
 ((vlow_pre y.2.1) ∧ ∀ y_6 : Int, y_6 = (vlow y.2.1) →
 (cB (decide (y_5 < y_6))
 (Q (2 : Int))
 (Q (1 : Int)))))
 ((vlow_pre y.2.2) ∧ ∀ y_5 : Int, y_5 = (vlow y.2.2) →
 ((vlow_pre y.1) ∧ ∀ y_6 : Int, y_6 = (vlow y.1) →
 (cB (decide (y_5 < y_6))
 (Q (2 : Int))
 (Q (0 : Int)))))))))))) := by kernel_rfl
theorem vaxis_fn (x : (Int × (Int × Int))) (Q : Int → Prop) (hp : vaxis_pre x) (hq : Q (vaxis x)) : Vc (fnE ⟨tt, sp_vlow, noX, ((0, unrolled tt sp_vlow noX [] [] [] 0 (cI (blk 0 (bodyOf Try.f66))) 4) :: []), [], []⟩ Try.f66 (argsE (.agg yy3) x) (heapE (.agg yy3) x) (retE (.one yi) Q)) := .eq (vaxis_vc x Q) (have hp := Eq.mp (vaxis_pre.eq_1 x) hp; have hq := Eq.mp (congrArg Q (vaxis.eq_1 x)) hq;
 (And.intro trivial (let_0 (Q := Q) hq fun y hq => (And.intro trivial (let_0 (Q := Q) hq fun y_1 hq => (And.intro trivial (let_0 (Q := Q) hq fun y_2 hq => (cB_d (Q := Q) hq (fun c hq => (And.intro trivial (let_0 (Q := Q) hq fun y_3 hq => (And.intro trivial (let_0 (Q := Q) hq fun y_4 hq => (cB_d (Q := Q) hq (fun c hq => (And.intro trivial (let_0 (Q := Q) hq fun y_5 hq => (And.intro trivial (let_0 (Q := Q) hq fun y_6 hq => (cB_d (Q := Q) hq (fun c hq => hq) (fun c hq => hq))))))) (fun c hq => (And.intro trivial (let_0 (Q := Q) hq fun y_5 hq => (And.intro trivial (let_0 (Q := Q) hq fun y_6 hq => (cB_d (Q := Q) hq (fun c hq => hq) (fun c hq => hq))))))))))))) (fun c hq => (And.intro trivial (let_0 (Q := Q) hq fun y_3 hq => (And.intro trivial (let_0 (Q := Q) hq fun y_4 hq => (cB_d (Q := Q) hq (fun c hq => (And.intro trivial (let_0 (Q := Q) hq fun y_5 hq => (And.intro trivial (let_0 (Q := Q) hq fun y_6 hq => (cB_d (Q := Q) hq (fun c hq => hq) (fun c hq => hq))))))) (fun c hq => (And.intro trivial (let_0 (Q := Q) hq fun y_5 hq => (And.intro trivial (let_0 (Q := Q) hq fun y_6 hq => (cB_d (Q := Q) hq (fun c hq => hq) (fun c hq => hq)))))))))))))))))))))
noncomputable def vaxis_S : FnS := ⟨(.agg yy3), (.one yi), vaxis_pre, vaxis⟩
theorem vaxis_ok : SpecOk Try.prog 66 (fnSpec vaxis_S) := SpecOk.fnT' (fn := Try.f66) tt_ok sp_vlow_ok mixed (by kernel_rfl) (by kernel_rfl) (.agg yy3) (.one yi) vaxis_pre vaxis (by kernel_rfl) fun x hp => ⟨_, _, (ItsOk.nil _ _), (LpsOk.unroll tt_ok (SpecsOk.ctxI sp_vlow_ok (ItsOk.nil _ _)) mixed _ LpsOk.nil (by kernel_rfl) (by kernel_rfl)), vaxis_fn x (fun y => y = vaxis x) hp rfl⟩
def sp_vaxis : List (Nat × Ev.Spec) := (66, fnSpec vaxis_S) :: sp_vlow
theorem sp_vaxis_ok : SpecsOk Try.prog sp_vaxis := SpecsOk.cons (Enters.of (fn := Try.f66) (by kernel_rfl) (by kernel_rfl) (by kernel_rfl)) vaxis_ok sp_vlow_ok
noncomputable def vdrop (x : ((Int × (Int × Int)) × Int)) : ((Int × Int) × Int) :=
 (if (x.2 < (0 : Int)) then
 (((0 : Int), (0 : Int)), (1 : Int)) else
 (if (x.2 ≥ (3 : Int)) then
 (((0 : Int), (0 : Int)), (1 : Int)) else
 (letV (vparts x.1) fun y =>
 (((List.getD [y.1, y.2.1, y.2.2] (0 + ((Int.toNat (Int.tmod (w64 (x.2 + (1 : Int))) (3 : Int))) * 1)) (0 : Int)), (List.getD [y.1, y.2.1, y.2.2] (0 + ((Int.toNat (Int.tmod (w64 (x.2 + (2 : Int))) (3 : Int))) * 1)) (0 : Int))), (0 : Int)))))
noncomputable def vdrop_pre (x : ((Int × (Int × Int)) × Int)) : Prop :=
 (¬ (x.2 < (0 : Int)) →
 (¬ (x.2 ≥ (3 : Int)) →
 (letP (vparts x.1) fun y =>
 ((((0 : Int) ≤ (Int.tmod (w64 (x.2 + (1 : Int))) (3 : Int))) ∧ ((Int.tmod (w64 (x.2 + (1 : Int))) (3 : Int)) < (3 : Int))) ∧
 ((((0 + ((Int.toNat (Int.tmod (w64 (x.2 + (1 : Int))) (3 : Int))) * 1)) + 1) ≤ 3) ∧
 ((((0 : Int) ≤ (Int.tmod (w64 (x.2 + (2 : Int))) (3 : Int))) ∧ ((Int.tmod (w64 (x.2 + (2 : Int))) (3 : Int)) < (3 : Int))) ∧
 (((0 + ((Int.toNat (Int.tmod (w64 (x.2 + (2 : Int))) (3 : Int))) * 1)) + 1) ≤ 3)))))))
theorem vdrop_vc (x : ((Int × (Int × Int)) × Int)) (Q : ((Int × Int) × Int) → Prop) : fnE ⟨tt, sp_vaxis, noX, [], [], []⟩ Try.f46 (argsE (.pair (.agg yy3) (.one yi)) x) (heapE (.pair (.agg yy3) (.one yi)) x) (retE (.pair (.agg yy2) (.one yi)) Q) =
 (cB (decide (x.2 < (0 : Int)))
 (Q (zz2, (1 : Int)))
 (cB (decide (x.2 ≥ (3 : Int)))
 (Q (zz2, (1 : Int)))
 ((vparts_pre x.1) ∧ ∀ y : (Int × (Int × Int)), y = (vparts x.1) →
 (ob ((decide ((0 : Int) ≤ (Int.tmod (w64 (x.2 + (1 : Int))) (3 : Int)))) && (decide ((Int.tmod (w64 (x.2 + (1 : Int))) (3 : Int)) < (3 : Int))))
 (ob (decide (((0 + ((Int.toNat (Int.tmod (w64 (x.2 + (1 : Int))) (3 : Int))) * 1)) + 1) ≤ 3))
 (ob ((decide ((0 : Int) ≤ (Int.tmod (w64 (x.2 + (2 : Int))) (3 : Int)))) && (decide ((Int.tmod (w64 (x.2 + (2 : Int))) (3 : Int)) < (3 : Int))))
 (ob (decide (((0 + ((Int.toNat (Int.tmod (w64 (x.2 + (2 : Int))) (3 : Int))) * 1)) + 1) ≤ 3))
 (Q (((List.getD [y.1, y.2.1, y.2.2] (0 + ((Int.toNat (Int.tmod (w64 (x.2 + (1 : Int))) (3 : Int))) * 1)) (0 : Int)), (List.getD [y.1, y.2.1, y.2.2] (0 + ((Int.toNat (Int.tmod (w64 (x.2 + (2 : Int))) (3 : Int))) * 1)) (0 : Int))), (0 : Int)))))))))) := by kernel_rfl
theorem vdrop_fn (x : ((Int × (Int × Int)) × Int)) (Q : ((Int × Int) × Int) → Prop) (hp : vdrop_pre x) (hq : Q (vdrop x)) : Vc (fnE ⟨tt, sp_vaxis, noX, [], [], []⟩ Try.f46 (argsE (.pair (.agg yy3) (.one yi)) x) (heapE (.pair (.agg yy3) (.one yi)) x) (retE (.pair (.agg yy2) (.one yi)) Q)) := .eq (vdrop_vc x Q) (have hp := Eq.mp (vdrop_pre.eq_1 x) hp; have hq := Eq.mp (congrArg Q (vdrop.eq_1 x)) hq;
 (cB_d (Q := Q) hq (fun c hq => hq) (fun c hq => have hp := (hp c); (cB_d (Q := Q) hq (fun c hq => hq) (fun c hq => have hp := (hp c); (And.intro trivial (let_k (Q := Q) hp hq fun y hp hq => (ob_k (and_t (decide_eq_true hp.1.1) (decide_eq_true hp.1.2)) (have hp := hp.2; (ob_k (decide_eq_true hp.1) (have hp := hp.2; (ob_k (and_t (decide_eq_true hp.1.1) (decide_eq_true hp.1.2)) (have hp := hp.2; (ob_k (decide_eq_true hp) hq))))))))))))))
noncomputable def vdrop_S : FnS := ⟨(.pair (.agg yy3) (.one yi)), (.pair (.agg yy2) (.one yi)), vdrop_pre, vdrop⟩
theorem vdrop_ok : SpecOk Try.prog 46 (fnSpec vdrop_S) := SpecOk.fnT' (fn := Try.f46) tt_ok sp_vaxis_ok mixed (by kernel_rfl) (by kernel_rfl) (.pair (.agg yy3) (.one yi)) (.pair (.agg yy2) (.one yi)) vdrop_pre vdrop (by kernel_rfl) fun x hp => ⟨_, _, (ItsOk.nil _ _), LpsOk.nil, vdrop_fn x (fun y => y = vdrop x) hp rfl⟩
def sp_vdrop : List (Nat × Ev.Spec) := (46, fnSpec vdrop_S) :: sp_vaxis
theorem sp_vdrop_ok : SpecsOk Try.prog sp_vdrop := SpecsOk.cons (Enters.of (fn := Try.f46) (by kernel_rfl) (by kernel_rfl) (by kernel_rfl)) vdrop_ok sp_vaxis_ok
noncomputable def sub3 (x : ((Int × (Int × Int)) × (Int × (Int × Int)))) : (Int × (Int × Int)) :=
 (letV (is3 [x.1, x.2]) fun y =>
 (if ((!y) = true) then
 ((0 : Int), ((0 : Int), (0 : Int))) else
 (letV (vparts x.1) fun y_1 =>
 (letV (vparts x.2) fun y_2 =>
 (letV (vpoint ((w64 (y_1.1 - y_2.1)), ((w64 (y_1.2.1 - y_2.2.1)), (w64 (y_1.2.2 - y_2.2.2))))) fun y_3 =>
 y_3)))))
noncomputable def sub3_pre (x : ((Int × (Int × Int)) × (Int × (Int × Int)))) : Prop :=
 (is3_pre [x.1, x.2])
theorem sub3_vc (x : ((Int × (Int × Int)) × (Int × (Int × Int)))) (Q : (Int × (Int × Int)) → Prop) : fnE ⟨tt, sp_vdrop, noX, ((0, unrolled tt sp_vdrop noX [] [] [] 0 (cI (blk 0 (bodyOf Try.f87))) 4) :: []), [], []⟩ Try.f87 (argsE (.pair (.agg yy3) (.agg yy3)) x) (heapE (.pair (.agg yy3) (.agg yy3)) x) (retE (.agg yy3) Q) =
 ((is3_pre [x.1, x.2]) ∧ ∀ y : Bool, y = (is3 [x.1, x.2]) →
 (cB (!y)
 (Q zz3)
 ((vparts_pre x.1) ∧ ∀ y_1 : (Int × (Int × Int)), y_1 = (vparts x.1) →
 ((vparts_pre x.2) ∧ ∀ y_2 : (Int × (Int × Int)), y_2 = (vparts x.2) →
 ((vpoint_pre ((w64 (y_1.1 - y_2.1)), ((w64 (y_1.2.1 - y_2.2.1)), (w64 (y_1.2.2 - y_2.2.2))))) ∧ ∀ y_3 : (Int × (Int × Int)), y_3 = (vpoint ((w64 (y_1.1 - y_2.1)), ((w64 (y_1.2.1 - y_2.2.1)), (w64 (y_1.2.2 - y_2.2.2))))) →
 (Q y_3)))))) := by kernel_rfl
theorem sub3_fn (x : ((Int × (Int × Int)) × (Int × (Int × Int)))) (Q : (Int × (Int × Int)) → Prop) (hp : sub3_pre x) (hq : Q (sub3 x)) : Vc (fnE ⟨tt, sp_vdrop, noX, ((0, unrolled tt sp_vdrop noX [] [] [] 0 (cI (blk 0 (bodyOf Try.f87))) 4) :: []), [], []⟩ Try.f87 (argsE (.pair (.agg yy3) (.agg yy3)) x) (heapE (.pair (.agg yy3) (.agg yy3)) x) (retE (.agg yy3) Q)) := .eq (sub3_vc x Q) (have hp := Eq.mp (sub3_pre.eq_1 x) hp; have hq := Eq.mp (congrArg Q (sub3.eq_1 x)) hq;
 (And.intro hp (let_0 (Q := Q) hq fun y hq => (cB_b (Q := Q) hq (fun c hq => hq) (fun c hq => (And.intro trivial (let_0 (Q := Q) hq fun y_1 hq => (And.intro trivial (let_0 (Q := Q) hq fun y_2 hq => (And.intro trivial (let_0 (Q := Q) hq fun y_3 hq => hq)))))))))))
noncomputable def sub3_S : FnS := ⟨(.pair (.agg yy3) (.agg yy3)), (.agg yy3), sub3_pre, sub3⟩
theorem sub3_ok : SpecOk Try.prog 87 (fnSpec sub3_S) := SpecOk.fnT' (fn := Try.f87) tt_ok sp_vdrop_ok mixed (by kernel_rfl) (by kernel_rfl) (.pair (.agg yy3) (.agg yy3)) (.agg yy3) sub3_pre sub3 (by kernel_rfl) fun x hp => ⟨_, _, (ItsOk.nil _ _), (LpsOk.unroll tt_ok (SpecsOk.ctxI sp_vdrop_ok (ItsOk.nil _ _)) mixed _ LpsOk.nil (by kernel_rfl) (by kernel_rfl)), sub3_fn x (fun y => y = sub3 x) hp rfl⟩
def sp_sub3 : List (Nat × Ev.Spec) := (87, fnSpec sub3_S) :: sp_vdrop
theorem sp_sub3_ok : SpecsOk Try.prog sp_sub3 := SpecsOk.cons (Enters.of (fn := Try.f87) (by kernel_rfl) (by kernel_rfl) (by kernel_rfl)) sub3_ok sp_vdrop_ok
noncomputable def cross3 (x : ((Int × (Int × Int)) × (Int × (Int × Int)))) : ((Int × (Int × Int)) × Int) :=
 (letV (is3 [x.1, x.2]) fun y =>
 (if ((!y) = true) then
 (((0 : Int), ((0 : Int), (0 : Int))), (5 : Int)) else
 (letV (vparts x.1) fun y_1 =>
 (letV (vparts x.2) fun y_2 =>
 (letV (vpoint ((w64 ((w64 (y_1.2.1 * y_2.2.2)) - (w64 (y_1.2.2 * y_2.2.1)))), ((w64 ((w64 (y_1.2.2 * y_2.1)) - (w64 (y_1.1 * y_2.2.2)))), (w64 ((w64 (y_1.1 * y_2.2.1)) - (w64 (y_1.2.1 * y_2.1))))))) fun y_3 =>
 (y_3, (0 : Int)))))))
noncomputable def cross3_pre (x : ((Int × (Int × Int)) × (Int × (Int × Int)))) : Prop :=
 (is3_pre [x.1, x.2])
theorem cross3_vc (x : ((Int × (Int × Int)) × (Int × (Int × Int)))) (Q : ((Int × (Int × Int)) × Int) → Prop) : fnE ⟨tt, sp_sub3, noX, ((0, unrolled tt sp_sub3 noX [] [] [] 0 (cI (blk 0 (bodyOf Try.f86))) 4) :: []), [], []⟩ Try.f86 (argsE (.pair (.agg yy3) (.agg yy3)) x) (heapE (.pair (.agg yy3) (.agg yy3)) x) (retE (.pair (.agg yy3) (.one yi)) Q) =
 ((is3_pre [x.1, x.2]) ∧ ∀ y : Bool, y = (is3 [x.1, x.2]) →
 (cB (!y)
 (Q (zz3, (5 : Int)))
 ((vparts_pre x.1) ∧ ∀ y_1 : (Int × (Int × Int)), y_1 = (vparts x.1) →
 ((vparts_pre x.2) ∧ ∀ y_2 : (Int × (Int × Int)), y_2 = (vparts x.2) →
 ((vpoint_pre ((w64 ((w64 (y_1.2.1 * y_2.2.2)) - (w64 (y_1.2.2 * y_2.2.1)))), ((w64 ((w64 (y_1.2.2 * y_2.1)) - (w64 (y_1.1 * y_2.2.2)))), (w64 ((w64 (y_1.1 * y_2.2.1)) - (w64 (y_1.2.1 * y_2.1))))))) ∧ ∀ y_3 : (Int × (Int × Int)), y_3 = (vpoint ((w64 ((w64 (y_1.2.1 * y_2.2.2)) - (w64 (y_1.2.2 * y_2.2.1)))), ((w64 ((w64 (y_1.2.2 * y_2.1)) - (w64 (y_1.1 * y_2.2.2)))), (w64 ((w64 (y_1.1 * y_2.2.1)) - (w64 (y_1.2.1 * y_2.1))))))) →
 (Q (y_3, (0 : Int)))))))) := by kernel_rfl
theorem cross3_fn (x : ((Int × (Int × Int)) × (Int × (Int × Int)))) (Q : ((Int × (Int × Int)) × Int) → Prop) (hp : cross3_pre x) (hq : Q (cross3 x)) : Vc (fnE ⟨tt, sp_sub3, noX, ((0, unrolled tt sp_sub3 noX [] [] [] 0 (cI (blk 0 (bodyOf Try.f86))) 4) :: []), [], []⟩ Try.f86 (argsE (.pair (.agg yy3) (.agg yy3)) x) (heapE (.pair (.agg yy3) (.agg yy3)) x) (retE (.pair (.agg yy3) (.one yi)) Q)) := .eq (cross3_vc x Q) (have hp := Eq.mp (cross3_pre.eq_1 x) hp; have hq := Eq.mp (congrArg Q (cross3.eq_1 x)) hq;
 (And.intro hp (let_0 (Q := Q) hq fun y hq => (cB_b (Q := Q) hq (fun c hq => hq) (fun c hq => (And.intro trivial (let_0 (Q := Q) hq fun y_1 hq => (And.intro trivial (let_0 (Q := Q) hq fun y_2 hq => (And.intro trivial (let_0 (Q := Q) hq fun y_3 hq => hq)))))))))))
noncomputable def cross3_S : FnS := ⟨(.pair (.agg yy3) (.agg yy3)), (.pair (.agg yy3) (.one yi)), cross3_pre, cross3⟩
theorem cross3_ok : SpecOk Try.prog 86 (fnSpec cross3_S) := SpecOk.fnT' (fn := Try.f86) tt_ok sp_sub3_ok mixed (by kernel_rfl) (by kernel_rfl) (.pair (.agg yy3) (.agg yy3)) (.pair (.agg yy3) (.one yi)) cross3_pre cross3 (by kernel_rfl) fun x hp => ⟨_, _, (ItsOk.nil _ _), (LpsOk.unroll tt_ok (SpecsOk.ctxI sp_sub3_ok (ItsOk.nil _ _)) mixed _ LpsOk.nil (by kernel_rfl) (by kernel_rfl)), cross3_fn x (fun y => y = cross3 x) hp rfl⟩
def sp_cross3 : List (Nat × Ev.Spec) := (86, fnSpec cross3_S) :: sp_sub3
theorem sp_cross3_ok : SpecsOk Try.prog sp_cross3 := SpecsOk.cons (Enters.of (fn := Try.f86) (by kernel_rfl) (by kernel_rfl) (by kernel_rfl)) cross3_ok sp_sub3_ok
noncomputable def parea (x : ((Int × Int) × ((Int × Int) × (Int × Int)))) : (Int × Int) :=
 (letV (small2 [x.1, x.2.1, x.2.2]) fun y =>
 (if ((!y) = true) then
 ((0 : Int), (5 : Int)) else
 (letV (sub2 (x.2.1, x.1)) fun y_1 =>
 (letV (sub2 (x.2.2, x.1)) fun y_2 =>
 (letV (cross2 (y_1, y_2)) fun y_3 =>
 y_3)))))
noncomputable def parea_pre (x : ((Int × Int) × ((Int × Int) × (Int × Int)))) : Prop :=
 ((small2_pre [x.1, x.2.1, x.2.2]) ∧
 letP (small2 [x.1, x.2.1, x.2.2]) fun y =>
 (¬ ((!y) = true) →
 ((sub2_pre (x.2.1, x.1)) ∧
 letP (sub2 (x.2.1, x.1)) fun y_1 =>
 ((sub2_pre (x.2.2, x.1)) ∧
 letP (sub2 (x.2.2, x.1)) fun y_2 =>
 (cross2_pre (y_1, y_2))))))
theorem parea_vc (x : ((Int × Int) × ((Int × Int) × (Int × Int)))) (Q : (Int × Int) → Prop) : fnE ⟨tt, sp_cross3, noX, [], [], []⟩ Try.f33 (argsE (.agg yy6) x) (heapE (.agg yy6) x) (retE (.pair (.one yi) (.one yi)) Q) =
 ((small2_pre [x.1, x.2.1, x.2.2]) ∧ ∀ y : Bool, y = (small2 [x.1, x.2.1, x.2.2]) →
 (cB (!y)
 (Q ((0 : Int), (5 : Int)))
 ((sub2_pre (x.2.1, x.1)) ∧ ∀ y_1 : (Int × Int), y_1 = (sub2 (x.2.1, x.1)) →
 ((sub2_pre (x.2.2, x.1)) ∧ ∀ y_2 : (Int × Int), y_2 = (sub2 (x.2.2, x.1)) →
 ((cross2_pre (y_1, y_2)) ∧ ∀ y_3 : (Int × Int), y_3 = (cross2 (y_1, y_2)) →
 (Q y_3)))))) := by kernel_rfl
theorem parea_fn (x : ((Int × Int) × ((Int × Int) × (Int × Int)))) (Q : (Int × Int) → Prop) (hp : parea_pre x) (hq : Q (parea x)) : Vc (fnE ⟨tt, sp_cross3, noX, [], [], []⟩ Try.f33 (argsE (.agg yy6) x) (heapE (.agg yy6) x) (retE (.pair (.one yi) (.one yi)) Q)) := .eq (parea_vc x Q) (have hp := Eq.mp (parea_pre.eq_1 x) hp; have hq := Eq.mp (congrArg Q (parea.eq_1 x)) hq;
 (And.intro hp.1 (let_k (Q := Q) hp.2 hq fun y hp hq => (cB_b (Q := Q) hq (fun c hq => hq) (fun c hq => have hp := (hp c); (And.intro hp.1 (let_k (Q := Q) hp.2 hq fun y_1 hp hq => (And.intro hp.1 (let_k (Q := Q) hp.2 hq fun y_2 hp hq => (And.intro hp (let_0 (Q := Q) hq fun y_3 hq => hq)))))))))))
noncomputable def parea_S : FnS := ⟨(.agg yy6), (.pair (.one yi) (.one yi)), parea_pre, parea⟩
theorem parea_ok : SpecOk Try.prog 33 (fnSpec parea_S) := SpecOk.fnT' (fn := Try.f33) tt_ok sp_cross3_ok mixed (by kernel_rfl) (by kernel_rfl) (.agg yy6) (.pair (.one yi) (.one yi)) parea_pre parea (by kernel_rfl) fun x hp => ⟨_, _, (ItsOk.nil _ _), LpsOk.nil, parea_fn x (fun y => y = parea x) hp rfl⟩
def sp_parea : List (Nat × Ev.Spec) := (33, fnSpec parea_S) :: sp_cross3
theorem sp_parea_ok : SpecsOk Try.prog sp_parea := SpecsOk.cons (Enters.of (fn := Try.f33) (by kernel_rfl) (by kernel_rfl) (by kernel_rfl)) parea_ok sp_cross3_ok
noncomputable def sarea (x : ((Int × Int) × ((Int × Int) × (Int × Int)))) : (Int × Int) :=
 (letV (parea x) fun y =>
 y)
noncomputable def sarea_pre (x : ((Int × Int) × ((Int × Int) × (Int × Int)))) : Prop :=
 (parea_pre x)
theorem sarea_vc (x : ((Int × Int) × ((Int × Int) × (Int × Int)))) (Q : (Int × Int) → Prop) : fnE ⟨tt, sp_parea, noX, [], [], []⟩ Try.f13 (argsE (.pair (.agg yy2) (.pair (.agg yy2) (.agg yy2))) x) (heapE (.pair (.agg yy2) (.pair (.agg yy2) (.agg yy2))) x) (retE (.pair (.one yi) (.one yi)) Q) =
 ((parea_pre x) ∧ ∀ y : (Int × Int), y = (parea x) →
 (Q y)) := by kernel_rfl
theorem sarea_fn (x : ((Int × Int) × ((Int × Int) × (Int × Int)))) (Q : (Int × Int) → Prop) (hp : sarea_pre x) (hq : Q (sarea x)) : Vc (fnE ⟨tt, sp_parea, noX, [], [], []⟩ Try.f13 (argsE (.pair (.agg yy2) (.pair (.agg yy2) (.agg yy2))) x) (heapE (.pair (.agg yy2) (.pair (.agg yy2) (.agg yy2))) x) (retE (.pair (.one yi) (.one yi)) Q)) := .eq (sarea_vc x Q) (have hp := Eq.mp (sarea_pre.eq_1 x) hp; have hq := Eq.mp (congrArg Q (sarea.eq_1 x)) hq;
 (And.intro hp (let_0 (Q := Q) hq fun y hq => hq)))
noncomputable def sarea_S : FnS := ⟨(.pair (.agg yy2) (.pair (.agg yy2) (.agg yy2))), (.pair (.one yi) (.one yi)), sarea_pre, sarea⟩
theorem sarea_ok : SpecOk Try.prog 13 (fnSpec sarea_S) := SpecOk.fnT' (fn := Try.f13) tt_ok sp_parea_ok mixed (by kernel_rfl) (by kernel_rfl) (.pair (.agg yy2) (.pair (.agg yy2) (.agg yy2))) (.pair (.one yi) (.one yi)) sarea_pre sarea (by kernel_rfl) fun x hp => ⟨_, _, (ItsOk.nil _ _), LpsOk.nil, sarea_fn x (fun y => y = sarea x) hp rfl⟩
def sp_sarea : List (Nat × Ev.Spec) := (13, fnSpec sarea_S) :: sp_parea
theorem sp_sarea_ok : SpecsOk Try.prog sp_sarea := SpecsOk.cons (Enters.of (fn := Try.f13) (by kernel_rfl) (by kernel_rfl) (by kernel_rfl)) sarea_ok sp_parea_ok
noncomputable def sside (x : ((Int × Int) × ((Int × Int) × (Int × Int)))) : (Int × Int) :=
 (letV (sarea x) fun y =>
 (letV (compare (y.1, (0 : Int))) fun y_1 =>
 (y_1, y.2)))
noncomputable def sside_pre (x : ((Int × Int) × ((Int × Int) × (Int × Int)))) : Prop :=
 (sarea_pre x)
theorem sside_vc (x : ((Int × Int) × ((Int × Int) × (Int × Int)))) (Q : (Int × Int) → Prop) : fnE ⟨tt, sp_sarea, noX, [], [], []⟩ Try.f77 (argsE (.pair (.agg yy2) (.pair (.agg yy2) (.agg yy2))) x) (heapE (.pair (.agg yy2) (.pair (.agg yy2) (.agg yy2))) x) (retE (.pair (.one yi) (.one yi)) Q) =
 ((sarea_pre x) ∧ ∀ y : (Int × Int), y = (sarea x) →
 ((compare_pre (y.1, (0 : Int))) ∧ ∀ y_1 : Int, y_1 = (compare (y.1, (0 : Int))) →
 (Q (y_1, y.2)))) := by kernel_rfl
theorem sside_fn (x : ((Int × Int) × ((Int × Int) × (Int × Int)))) (Q : (Int × Int) → Prop) (hp : sside_pre x) (hq : Q (sside x)) : Vc (fnE ⟨tt, sp_sarea, noX, [], [], []⟩ Try.f77 (argsE (.pair (.agg yy2) (.pair (.agg yy2) (.agg yy2))) x) (heapE (.pair (.agg yy2) (.pair (.agg yy2) (.agg yy2))) x) (retE (.pair (.one yi) (.one yi)) Q)) := .eq (sside_vc x Q) (have hp := Eq.mp (sside_pre.eq_1 x) hp; have hq := Eq.mp (congrArg Q (sside.eq_1 x)) hq;
 (And.intro hp (let_0 (Q := Q) hq fun y hq => (And.intro trivial (let_0 (Q := Q) hq fun y_1 hq => hq)))))
noncomputable def sside_S : FnS := ⟨(.pair (.agg yy2) (.pair (.agg yy2) (.agg yy2))), (.pair (.one yi) (.one yi)), sside_pre, sside⟩
theorem sside_ok : SpecOk Try.prog 77 (fnSpec sside_S) := SpecOk.fnT' (fn := Try.f77) tt_ok sp_sarea_ok mixed (by kernel_rfl) (by kernel_rfl) (.pair (.agg yy2) (.pair (.agg yy2) (.agg yy2))) (.pair (.one yi) (.one yi)) sside_pre sside (by kernel_rfl) fun x hp => ⟨_, _, (ItsOk.nil _ _), LpsOk.nil, sside_fn x (fun y => y = sside x) hp rfl⟩
def sp_sside : List (Nat × Ev.Spec) := (77, fnSpec sside_S) :: sp_sarea
theorem sp_sside_ok : SpecsOk Try.prog sp_sside := SpecsOk.cons (Enters.of (fn := Try.f77) (by kernel_rfl) (by kernel_rfl) (by kernel_rfl)) sside_ok sp_sarea_ok
noncomputable def pnormal (x : ((Int × (Int × Int)) × ((Int × (Int × Int)) × (Int × (Int × Int))))) : ((Int × (Int × Int)) × Int) :=
 (letV (small3 [x.1, x.2.1, x.2.2]) fun y =>
 (if ((!y) = true) then
 (((0 : Int), ((0 : Int), (0 : Int))), (5 : Int)) else
 (letV (sub3 (x.2.1, x.1)) fun y_1 =>
 (letV (sub3 (x.2.2, x.1)) fun y_2 =>
 (letV (cross3 (y_1, y_2)) fun y_3 =>
 y_3)))))
noncomputable def pnormal_pre (x : ((Int × (Int × Int)) × ((Int × (Int × Int)) × (Int × (Int × Int))))) : Prop :=
 ((small3_pre [x.1, x.2.1, x.2.2]) ∧
 letP (small3 [x.1, x.2.1, x.2.2]) fun y =>
 (¬ ((!y) = true) →
 ((sub3_pre (x.2.1, x.1)) ∧
 letP (sub3 (x.2.1, x.1)) fun y_1 =>
 ((sub3_pre (x.2.2, x.1)) ∧
 letP (sub3 (x.2.2, x.1)) fun y_2 =>
 (cross3_pre (y_1, y_2))))))
theorem pnormal_vc (x : ((Int × (Int × Int)) × ((Int × (Int × Int)) × (Int × (Int × Int))))) (Q : ((Int × (Int × Int)) × Int) → Prop) : fnE ⟨tt, sp_sside, noX, [], [], []⟩ Try.f79 (argsE (.agg yy9) x) (heapE (.agg yy9) x) (retE (.pair (.agg yy3) (.one yi)) Q) =
 ((small3_pre [x.1, x.2.1, x.2.2]) ∧ ∀ y : Bool, y = (small3 [x.1, x.2.1, x.2.2]) →
 (cB (!y)
 (Q (zz3, (5 : Int)))
 ((sub3_pre (x.2.1, x.1)) ∧ ∀ y_1 : (Int × (Int × Int)), y_1 = (sub3 (x.2.1, x.1)) →
 ((sub3_pre (x.2.2, x.1)) ∧ ∀ y_2 : (Int × (Int × Int)), y_2 = (sub3 (x.2.2, x.1)) →
 ((cross3_pre (y_1, y_2)) ∧ ∀ y_3 : ((Int × (Int × Int)) × Int), y_3 = (cross3 (y_1, y_2)) →
 (Q y_3)))))) := by kernel_rfl
theorem pnormal_fn (x : ((Int × (Int × Int)) × ((Int × (Int × Int)) × (Int × (Int × Int))))) (Q : ((Int × (Int × Int)) × Int) → Prop) (hp : pnormal_pre x) (hq : Q (pnormal x)) : Vc (fnE ⟨tt, sp_sside, noX, [], [], []⟩ Try.f79 (argsE (.agg yy9) x) (heapE (.agg yy9) x) (retE (.pair (.agg yy3) (.one yi)) Q)) := .eq (pnormal_vc x Q) (have hp := Eq.mp (pnormal_pre.eq_1 x) hp; have hq := Eq.mp (congrArg Q (pnormal.eq_1 x)) hq;
 (And.intro hp.1 (let_k (Q := Q) hp.2 hq fun y hp hq => (cB_b (Q := Q) hq (fun c hq => hq) (fun c hq => have hp := (hp c); (And.intro hp.1 (let_k (Q := Q) hp.2 hq fun y_1 hp hq => (And.intro hp.1 (let_k (Q := Q) hp.2 hq fun y_2 hp hq => (And.intro hp (let_0 (Q := Q) hq fun y_3 hq => hq)))))))))))
noncomputable def pnormal_S : FnS := ⟨(.agg yy9), (.pair (.agg yy3) (.one yi)), pnormal_pre, pnormal⟩
theorem pnormal_ok : SpecOk Try.prog 79 (fnSpec pnormal_S) := SpecOk.fnT' (fn := Try.f79) tt_ok sp_sside_ok mixed (by kernel_rfl) (by kernel_rfl) (.agg yy9) (.pair (.agg yy3) (.one yi)) pnormal_pre pnormal (by kernel_rfl) fun x hp => ⟨_, _, (ItsOk.nil _ _), LpsOk.nil, pnormal_fn x (fun y => y = pnormal x) hp rfl⟩
def sp_pnormal : List (Nat × Ev.Spec) := (79, fnSpec pnormal_S) :: sp_sside
theorem sp_pnormal_ok : SpecsOk Try.prog sp_pnormal := SpecsOk.cons (Enters.of (fn := Try.f79) (by kernel_rfl) (by kernel_rfl) (by kernel_rfl)) pnormal_ok sp_sside_ok
noncomputable def snormal (x : ((Int × (Int × Int)) × ((Int × (Int × Int)) × (Int × (Int × Int))))) : ((Int × (Int × Int)) × Int) :=
 (letV (pnormal x) fun y =>
 y)
noncomputable def snormal_pre (x : ((Int × (Int × Int)) × ((Int × (Int × Int)) × (Int × (Int × Int))))) : Prop :=
 (pnormal_pre x)
theorem snormal_vc (x : ((Int × (Int × Int)) × ((Int × (Int × Int)) × (Int × (Int × Int))))) (Q : ((Int × (Int × Int)) × Int) → Prop) : fnE ⟨tt, sp_pnormal, noX, [], [], []⟩ Try.f65 (argsE (.pair (.agg yy3) (.pair (.agg yy3) (.agg yy3))) x) (heapE (.pair (.agg yy3) (.pair (.agg yy3) (.agg yy3))) x) (retE (.pair (.agg yy3) (.one yi)) Q) =
 ((pnormal_pre x) ∧ ∀ y : ((Int × (Int × Int)) × Int), y = (pnormal x) →
 (Q y)) := by kernel_rfl
theorem snormal_fn (x : ((Int × (Int × Int)) × ((Int × (Int × Int)) × (Int × (Int × Int))))) (Q : ((Int × (Int × Int)) × Int) → Prop) (hp : snormal_pre x) (hq : Q (snormal x)) : Vc (fnE ⟨tt, sp_pnormal, noX, [], [], []⟩ Try.f65 (argsE (.pair (.agg yy3) (.pair (.agg yy3) (.agg yy3))) x) (heapE (.pair (.agg yy3) (.pair (.agg yy3) (.agg yy3))) x) (retE (.pair (.agg yy3) (.one yi)) Q)) := .eq (snormal_vc x Q) (have hp := Eq.mp (snormal_pre.eq_1 x) hp; have hq := Eq.mp (congrArg Q (snormal.eq_1 x)) hq;
 (And.intro hp (let_0 (Q := Q) hq fun y hq => hq)))
noncomputable def snormal_S : FnS := ⟨(.pair (.agg yy3) (.pair (.agg yy3) (.agg yy3))), (.pair (.agg yy3) (.one yi)), snormal_pre, snormal⟩
theorem snormal_ok : SpecOk Try.prog 65 (fnSpec snormal_S) := SpecOk.fnT' (fn := Try.f65) tt_ok sp_pnormal_ok mixed (by kernel_rfl) (by kernel_rfl) (.pair (.agg yy3) (.pair (.agg yy3) (.agg yy3))) (.pair (.agg yy3) (.one yi)) snormal_pre snormal (by kernel_rfl) fun x hp => ⟨_, _, (ItsOk.nil _ _), LpsOk.nil, snormal_fn x (fun y => y = snormal x) hp rfl⟩
def sp_snormal : List (Nat × Ev.Spec) := (65, fnSpec snormal_S) :: sp_pnormal
theorem sp_snormal_ok : SpecsOk Try.prog sp_snormal := SpecsOk.cons (Enters.of (fn := Try.f65) (by kernel_rfl) (by kernel_rfl) (by kernel_rfl)) snormal_ok sp_pnormal_ok
noncomputable def sfacing (x : ((Int × (Int × Int)) × ((Int × (Int × Int)) × (Int × (Int × Int))))) : (Int × (Int × Int)) :=
 (letV (snormal x) fun y =>
 (if ((y.2 != (0 : Int)) = true) then
 ((0 : Int), ((0 : Int), y.2)) else
 (if (((y.1.1 == (0 : Int)) && ((y.1.2.1 == (0 : Int)) && ((y.1.2.2 == (0 : Int)) && true))) = true) then
 ((0 : Int), ((0 : Int), (3 : Int))) else
 (letV (vaxis y.1) fun y_1 =>
 (letV (compare ((List.getD [y.1.1, y.1.2.1, y.1.2.2] ((Int.toNat y_1) * 1) (0 : Int)), (0 : Int))) fun y_2 =>
 (y_1, (y_2, (0 : Int))))))))
noncomputable def sfacing_pre (x : ((Int × (Int × Int)) × ((Int × (Int × Int)) × (Int × (Int × Int))))) : Prop :=
 ((snormal_pre x) ∧
 letP (snormal x) fun y =>
 (¬ ((y.2 != (0 : Int)) = true) →
 (¬ (((y.1.1 == (0 : Int)) && ((y.1.2.1 == (0 : Int)) && ((y.1.2.2 == (0 : Int)) && true))) = true) →
 (letP (vaxis y.1) fun y_1 =>
 (((0 : Int) ≤ y_1) ∧ (y_1 < (3 : Int)))))))
theorem sfacing_vc (x : ((Int × (Int × Int)) × ((Int × (Int × Int)) × (Int × (Int × Int))))) (Q : (Int × (Int × Int)) → Prop) : fnE ⟨tt, sp_snormal, noX, [], [], []⟩ Try.f52 (argsE (.pair (.agg yy3) (.pair (.agg yy3) (.agg yy3))) x) (heapE (.pair (.agg yy3) (.pair (.agg yy3) (.agg yy3))) x) (retE (.pair (.one yi) (.pair (.one yi) (.one yi))) Q) =
 ((snormal_pre x) ∧ ∀ y : ((Int × (Int × Int)) × Int), y = (snormal x) →
 (cB (y.2 != (0 : Int))
 (Q ((0 : Int), ((0 : Int), y.2)))
 (cB ((y.1.1 == (0 : Int)) && ((y.1.2.1 == (0 : Int)) && ((y.1.2.2 == (0 : Int)) && true)))
 (Q ((0 : Int), ((0 : Int), (3 : Int))))
 ((vaxis_pre y.1) ∧ ∀ y_1 : Int, y_1 = (vaxis y.1) →
 (ob ((decide ((0 : Int) ≤ y_1)) && (decide (y_1 < (3 : Int))))
 ((compare_pre ((List.getD [y.1.1, y.1.2.1, y.1.2.2] ((Int.toNat y_1) * 1) (0 : Int)), (0 : Int))) ∧ ∀ y_2 : Int, y_2 = (compare ((List.getD [y.1.1, y.1.2.1, y.1.2.2] ((Int.toNat y_1) * 1) (0 : Int)), (0 : Int))) →
 (Q (y_1, (y_2, (0 : Int)))))))))) := by kernel_rfl
theorem sfacing_fn (x : ((Int × (Int × Int)) × ((Int × (Int × Int)) × (Int × (Int × Int))))) (Q : (Int × (Int × Int)) → Prop) (hp : sfacing_pre x) (hq : Q (sfacing x)) : Vc (fnE ⟨tt, sp_snormal, noX, [], [], []⟩ Try.f52 (argsE (.pair (.agg yy3) (.pair (.agg yy3) (.agg yy3))) x) (heapE (.pair (.agg yy3) (.pair (.agg yy3) (.agg yy3))) x) (retE (.pair (.one yi) (.pair (.one yi) (.one yi))) Q)) := .eq (sfacing_vc x Q) (have hp := Eq.mp (sfacing_pre.eq_1 x) hp; have hq := Eq.mp (congrArg Q (sfacing.eq_1 x)) hq;
 (And.intro hp.1 (let_k (Q := Q) hp.2 hq fun y hp hq => (cB_b (Q := Q) hq (fun c hq => hq) (fun c hq => have hp := (hp c); (cB_b (Q := Q) hq (fun c hq => hq) (fun c hq => have hp := (hp c); (And.intro trivial (let_k (Q := Q) hp hq fun y_1 hp hq => (ob_k (and_t (decide_eq_true hp.1) (decide_eq_true hp.2)) (And.intro trivial (let_0 (Q := Q) hq fun y_2 hq => hq))))))))))))
noncomputable def sfacing_S : FnS := ⟨(.pair (.agg yy3) (.pair (.agg yy3) (.agg yy3))), (.pair (.one yi) (.pair (.one yi) (.one yi))), sfacing_pre, sfacing⟩
theorem sfacing_ok : SpecOk Try.prog 52 (fnSpec sfacing_S) := SpecOk.fnT' (fn := Try.f52) tt_ok sp_snormal_ok mixed (by kernel_rfl) (by kernel_rfl) (.pair (.agg yy3) (.pair (.agg yy3) (.agg yy3))) (.pair (.one yi) (.pair (.one yi) (.one yi))) sfacing_pre sfacing (by kernel_rfl) fun x hp => ⟨_, _, (ItsOk.nil _ _), LpsOk.nil, sfacing_fn x (fun y => y = sfacing x) hp rfl⟩
def sp_sfacing : List (Nat × Ev.Spec) := (52, fnSpec sfacing_S) :: sp_snormal
theorem sp_sfacing_ok : SpecsOk Try.prog sp_sfacing := SpecsOk.cons (Enters.of (fn := Try.f52) (by kernel_rfl) (by kernel_rfl) (by kernel_rfl)) sfacing_ok sp_snormal_ok
noncomputable def mright (x : ((Int × Int) × ((Int × Int) × (Int × Int)))) : Bool :=
 (letV (sarea x) fun y =>
 (if ((y.2 == (0 : Int)) = true) then
 (y.1 != (0 : Int)) else
 false))
noncomputable def mright_pre (x : ((Int × Int) × ((Int × Int) × (Int × Int)))) : Prop :=
 (sarea_pre x)
theorem mright_vc (x : ((Int × Int) × ((Int × Int) × (Int × Int)))) (Q : Bool → Prop) : fnE ⟨tt, sp_sfacing, noX, [], [], []⟩ Try.f28 (argsE (.agg yy6) x) (heapE (.agg yy6) x) (retE (.one Ty.bool) Q) =
 ((sarea_pre x) ∧ ∀ y : (Int × Int), y = (sarea x) →
 (cB (y.2 == (0 : Int))
 (Q (y.1 != (0 : Int)))
 (Q false))) := by kernel_rfl
theorem mright_fn (x : ((Int × Int) × ((Int × Int) × (Int × Int)))) (Q : Bool → Prop) (hp : mright_pre x) (hq : Q (mright x)) : Vc (fnE ⟨tt, sp_sfacing, noX, [], [], []⟩ Try.f28 (argsE (.agg yy6) x) (heapE (.agg yy6) x) (retE (.one Ty.bool) Q)) := .eq (mright_vc x Q) (have hp := Eq.mp (mright_pre.eq_1 x) hp; have hq := Eq.mp (congrArg Q (mright.eq_1 x)) hq;
 (And.intro hp (let_0 (Q := Q) hq fun y hq => (cB_b (Q := Q) hq (fun c hq => hq) (fun c hq => hq)))))
noncomputable def mright_S : FnS := ⟨(.agg yy6), (.one Ty.bool), mright_pre, mright⟩
theorem mright_ok : SpecOk Try.prog 28 (fnSpec mright_S) := SpecOk.fnT' (fn := Try.f28) tt_ok sp_sfacing_ok mixed (by kernel_rfl) (by kernel_rfl) (.agg yy6) (.one Ty.bool) mright_pre mright (by kernel_rfl) fun x hp => ⟨_, _, (ItsOk.nil _ _), LpsOk.nil, mright_fn x (fun y => y = mright x) hp rfl⟩
def sp_mright : List (Nat × Ev.Spec) := (28, fnSpec mright_S) :: sp_sfacing
theorem sp_mright_ok : SpecsOk Try.prog sp_mright := SpecsOk.cons (Enters.of (fn := Try.f28) (by kernel_rfl) (by kernel_rfl) (by kernel_rfl)) mright_ok sp_sfacing_ok
noncomputable def mfew (x : ((List (Int × (Int × Int))) × ((List (Int × Int)) × ((List (Int × (Int × Int))) × (List ((Int × (Int × Int)) × ((Int × (Int × Int)) × (Int × (Int × Int))))))))) : Bool :=
 (if ((maxI (maxI (((List.length x.1) : Nat) : Int) (((List.length x.2.1) : Nat) : Int)) (((List.length x.2.2.1) : Nat) : Int)) ≤ (2000 : Int)) then
 (decide ((((List.length x.2.2.2) : Nat) : Int) ≤ (500 : Int))) else
 false)
noncomputable def mfew_pre (_ : ((List (Int × (Int × Int))) × ((List (Int × Int)) × ((List (Int × (Int × Int))) × (List ((Int × (Int × Int)) × ((Int × (Int × Int)) × (Int × (Int × Int))))))))) : Prop := True
theorem mfew_vc (x : ((List (Int × (Int × Int))) × ((List (Int × Int)) × ((List (Int × (Int × Int))) × (List ((Int × (Int × Int)) × ((Int × (Int × Int)) × (Int × (Int × Int))))))))) (Q : Bool → Prop) : fnE ⟨tt, sp_mright, noX, [], [], []⟩ Try.f71 (argsE (.agg (Ty.prod (Ty.sl yy3) (Ty.prod (Ty.sl yy2) (Ty.prod (Ty.sl yy3) (Ty.sl yy9))))) x) (heapE (.agg (Ty.prod (Ty.sl yy3) (Ty.prod (Ty.sl yy2) (Ty.prod (Ty.sl yy3) (Ty.sl yy9))))) x) (retE (.one Ty.bool) Q) =
 (cB (decide ((maxI (maxI (((List.length x.1) : Nat) : Int) (((List.length x.2.1) : Nat) : Int)) (((List.length x.2.2.1) : Nat) : Int)) ≤ (2000 : Int)))
 (Q (decide ((((List.length x.2.2.2) : Nat) : Int) ≤ (500 : Int))))
 (Q false)) := by kernel_rfl
theorem mfew_fn (x : ((List (Int × (Int × Int))) × ((List (Int × Int)) × ((List (Int × (Int × Int))) × (List ((Int × (Int × Int)) × ((Int × (Int × Int)) × (Int × (Int × Int))))))))) (Q : Bool → Prop) (hp : mfew_pre x) (hq : Q (mfew x)) : Vc (fnE ⟨tt, sp_mright, noX, [], [], []⟩ Try.f71 (argsE (.agg (Ty.prod (Ty.sl yy3) (Ty.prod (Ty.sl yy2) (Ty.prod (Ty.sl yy3) (Ty.sl yy9))))) x) (heapE (.agg (Ty.prod (Ty.sl yy3) (Ty.prod (Ty.sl yy2) (Ty.prod (Ty.sl yy3) (Ty.sl yy9))))) x) (retE (.one Ty.bool) Q)) := .eq (mfew_vc x Q) (have hp := Eq.mp (mfew_pre.eq_1 x) hp; have hq := Eq.mp (congrArg Q (mfew.eq_1 x)) hq;
 (cB_d (Q := Q) hq (fun c hq => hq) (fun c hq => hq)))
noncomputable def mfew_S : FnS := ⟨(.agg (Ty.prod (Ty.sl yy3) (Ty.prod (Ty.sl yy2) (Ty.prod (Ty.sl yy3) (Ty.sl yy9))))), (.one Ty.bool), mfew_pre, mfew⟩
theorem mfew_ok : SpecOk Try.prog 71 (fnSpec mfew_S) := SpecOk.fnT' (fn := Try.f71) tt_ok sp_mright_ok mixed (by kernel_rfl) (by kernel_rfl) (.agg (Ty.prod (Ty.sl yy3) (Ty.prod (Ty.sl yy2) (Ty.prod (Ty.sl yy3) (Ty.sl yy9))))) (.one Ty.bool) mfew_pre mfew (by kernel_rfl) fun x hp => ⟨_, _, (ItsOk.nil _ _), LpsOk.nil, mfew_fn x (fun y => y = mfew x) hp rfl⟩
def sp_mfew : List (Nat × Ev.Spec) := (71, fnSpec mfew_S) :: sp_mright
theorem sp_mfew_ok : SpecsOk Try.prog sp_mfew := SpecsOk.cons (Enters.of (fn := Try.f71) (by kernel_rfl) (by kernel_rfl) (by kernel_rfl)) mfew_ok sp_mright_ok
noncomputable def among (x : (Int × (Int × Bool))) : Bool :=
 (if (x.1 ≥ (0 : Int)) then
 (if (x.1 < x.2.1) then
 true else
 (if (x.2.2 = true) then
 (x.1 == (-1 : Int)) else
 false)) else
 (if (x.2.2 = true) then
 (x.1 == (-1 : Int)) else
 false))
noncomputable def among_pre (_ : (Int × (Int × Bool))) : Prop := True
theorem among_vc (x : (Int × (Int × Bool))) (Q : Bool → Prop) : fnE ⟨tt, sp_mfew, noX, [], [], []⟩ Try.f73 (argsE (.pair (.one yi) (.pair (.one yi) (.one Ty.bool))) x) (heapE (.pair (.one yi) (.pair (.one yi) (.one Ty.bool))) x) (retE (.one Ty.bool) Q) =
 (cB (decide (x.1 ≥ (0 : Int)))
 (cB (decide (x.1 < x.2.1))
 (Q true)
 (cB x.2.2
 (Q (x.1 == (-1 : Int)))
 (Q false)))
 (cB x.2.2
 (Q (x.1 == (-1 : Int)))
 (Q false))) := by kernel_rfl
theorem among_fn (x : (Int × (Int × Bool))) (Q : Bool → Prop) (hp : among_pre x) (hq : Q (among x)) : Vc (fnE ⟨tt, sp_mfew, noX, [], [], []⟩ Try.f73 (argsE (.pair (.one yi) (.pair (.one yi) (.one Ty.bool))) x) (heapE (.pair (.one yi) (.pair (.one yi) (.one Ty.bool))) x) (retE (.one Ty.bool) Q)) := .eq (among_vc x Q) (have hp := Eq.mp (among_pre.eq_1 x) hp; have hq := Eq.mp (congrArg Q (among.eq_1 x)) hq;
 (cB_d (Q := Q) hq (fun c hq => (cB_d (Q := Q) hq (fun c hq => hq) (fun c hq => (cB_b (Q := Q) hq (fun c hq => hq) (fun c hq => hq))))) (fun c hq => (cB_b (Q := Q) hq (fun c hq => hq) (fun c hq => hq)))))
noncomputable def among_S : FnS := ⟨(.pair (.one yi) (.pair (.one yi) (.one Ty.bool))), (.one Ty.bool), among_pre, among⟩
theorem among_ok : SpecOk Try.prog 73 (fnSpec among_S) := SpecOk.fnT' (fn := Try.f73) tt_ok sp_mfew_ok mixed (by kernel_rfl) (by kernel_rfl) (.pair (.one yi) (.pair (.one yi) (.one Ty.bool))) (.one Ty.bool) among_pre among (by kernel_rfl) fun x hp => ⟨_, _, (ItsOk.nil _ _), LpsOk.nil, among_fn x (fun y => y = among x) hp rfl⟩
def sp_among : List (Nat × Ev.Spec) := (73, fnSpec among_S) :: sp_mfew
theorem sp_among_ok : SpecsOk Try.prog sp_among := SpecsOk.cons (Enters.of (fn := Try.f73) (by kernel_rfl) (by kernel_rfl) (by kernel_rfl)) among_ok sp_mfew_ok
noncomputable def meshis_l0_tm (x : ((List (Int × (Int × Int))) × ((List (Int × Int)) × ((List (Int × (Int × Int))) × (List ((Int × (Int × Int)) × ((Int × (Int × Int)) × (Int × (Int × Int))))))))) (s : Int) : AS := ⟨(D :: .v (.one (.ptr 0 0)) :: D :: D :: D :: D :: D :: D :: D :: D :: D :: D :: D :: D :: D :: D :: D :: D :: D :: D :: D :: D :: D :: D :: D :: D :: D :: D :: D :: .v (.one (.full 4)) :: vi (((List.length x.2.2.2) : Nat) : Int) :: vi s :: D :: D :: D :: D :: D :: D :: D :: D :: D :: D :: D :: D :: D :: D :: D :: D :: D :: D :: D :: D :: D :: D :: D :: D :: D :: D :: D :: D :: D :: D :: D :: D :: D :: D :: D :: D :: D :: D :: D :: D :: D :: D :: D :: D :: D :: D :: D :: D :: D :: D :: D :: D :: D :: D :: []), [.cells [.full 1, .full 2, .full 3, .full 4] 26, .row yy3 x.1 0, .row yy2 x.2.1 0, .row yy3 x.2.2.1 0, .row yy9 x.2.2.2 0]⟩
noncomputable def meshis_l0_out (x : ((List (Int × (Int × Int))) × ((List (Int × Int)) × ((List (Int × (Int × Int))) × (List ((Int × (Int × Int)) × ((Int × (Int × Int)) × (Int × (Int × Int))))))))) (r : (Unit ⊕ Unit)) (K : Exit → AS → Prop) : Prop := cS r (fun a0 => K .ret ⟨(D :: D :: vb false :: D :: D :: D :: D :: D :: D :: D :: D :: D :: D :: D :: D :: D :: D :: D :: D :: D :: D :: D :: D :: D :: D :: D :: D :: D :: D :: D :: D :: D :: D :: D :: D :: D :: D :: D :: D :: D :: D :: D :: D :: D :: D :: D :: D :: D :: D :: D :: D :: D :: D :: D :: D :: D :: D :: D :: D :: D :: D :: D :: D :: D :: D :: D :: D :: D :: D :: D :: D :: D :: D :: D :: D :: D :: D :: D :: D :: D :: D :: D :: D :: D :: D :: D :: []), []⟩) (fun b0 => K .normal ⟨(D :: D :: D :: D :: D :: D :: D :: D :: D :: D :: D :: D :: D :: D :: D :: D :: D :: D :: D :: D :: D :: D :: D :: D :: D :: D :: D :: D :: D :: D :: D :: D :: D :: D :: D :: D :: D :: D :: D :: D :: D :: D :: D :: D :: D :: D :: D :: D :: D :: D :: D :: D :: D :: D :: D :: D :: D :: D :: D :: D :: D :: D :: D :: D :: D :: D :: D :: D :: D :: D :: D :: D :: D :: D :: D :: D :: D :: D :: D :: D :: D :: D :: D :: D :: D :: D :: []), []⟩)
noncomputable def meshis_l0_step (x : ((List (Int × (Int × Int))) × ((List (Int × Int)) × ((List (Int × (Int × Int))) × (List ((Int × (Int × Int)) × ((Int × (Int × Int)) × (Int × (Int × Int))))))))) (s : Int) : Int ⊕ (Unit ⊕ Unit) :=
 (if (s < (((List.length x.2.2.2) : Nat) : Int)) then
 (letV (among ((List.getD x.2.2.2 (Int.toNat s) (((0 : Int), ((0 : Int), (0 : Int))), (((0 : Int), ((0 : Int), (0 : Int))), ((0 : Int), ((0 : Int), (0 : Int)))))).1.1, ((((List.length x.1) : Nat) : Int), false))) fun y =>
 (if ((!y) = true) then
 (Sum.inr (Sum.inl ())) else
 (letV (among ((List.getD x.2.2.2 (Int.toNat s) (((0 : Int), ((0 : Int), (0 : Int))), (((0 : Int), ((0 : Int), (0 : Int))), ((0 : Int), ((0 : Int), (0 : Int)))))).1.2.1, ((((List.length x.2.1) : Nat) : Int), true))) fun y_1 =>
 (if ((!y_1) = true) then
 (Sum.inr (Sum.inl ())) else
 (letV (among ((List.getD x.2.2.2 (Int.toNat s) (((0 : Int), ((0 : Int), (0 : Int))), (((0 : Int), ((0 : Int), (0 : Int))), ((0 : Int), ((0 : Int), (0 : Int)))))).1.2.2, ((((List.length x.2.2.1) : Nat) : Int), true))) fun y_2 =>
 (if ((!y_2) = true) then
 (Sum.inr (Sum.inl ())) else
 (if ((!((decide ((List.getD x.2.2.2 (Int.toNat s) (((0 : Int), ((0 : Int), (0 : Int))), (((0 : Int), ((0 : Int), (0 : Int))), ((0 : Int), ((0 : Int), (0 : Int)))))).1.2.1 < (0 : Int))) == (decide ((List.getD x.2.2.2 (Int.toNat s) (((0 : Int), ((0 : Int), (0 : Int))), (((0 : Int), ((0 : Int), (0 : Int))), ((0 : Int), ((0 : Int), (0 : Int)))))).1.2.1 < (0 : Int))))) = true) then
 (Sum.inr (Sum.inl ())) else
 (if ((!((decide ((List.getD x.2.2.2 (Int.toNat s) (((0 : Int), ((0 : Int), (0 : Int))), (((0 : Int), ((0 : Int), (0 : Int))), ((0 : Int), ((0 : Int), (0 : Int)))))).1.2.2 < (0 : Int))) == (decide ((List.getD x.2.2.2 (Int.toNat s) (((0 : Int), ((0 : Int), (0 : Int))), (((0 : Int), ((0 : Int), (0 : Int))), ((0 : Int), ((0 : Int), (0 : Int)))))).1.2.2 < (0 : Int))))) = true) then
 (Sum.inr (Sum.inl ())) else
 (letV (among ((List.getD x.2.2.2 (Int.toNat s) (((0 : Int), ((0 : Int), (0 : Int))), (((0 : Int), ((0 : Int), (0 : Int))), ((0 : Int), ((0 : Int), (0 : Int)))))).2.1.1, ((((List.length x.1) : Nat) : Int), false))) fun y_3 =>
 (if ((!y_3) = true) then
 (Sum.inr (Sum.inl ())) else
 (letV (among ((List.getD x.2.2.2 (Int.toNat s) (((0 : Int), ((0 : Int), (0 : Int))), (((0 : Int), ((0 : Int), (0 : Int))), ((0 : Int), ((0 : Int), (0 : Int)))))).2.1.2.1, ((((List.length x.2.1) : Nat) : Int), true))) fun y_4 =>
 (if ((!y_4) = true) then
 (Sum.inr (Sum.inl ())) else
 (letV (among ((List.getD x.2.2.2 (Int.toNat s) (((0 : Int), ((0 : Int), (0 : Int))), (((0 : Int), ((0 : Int), (0 : Int))), ((0 : Int), ((0 : Int), (0 : Int)))))).2.1.2.2, ((((List.length x.2.2.1) : Nat) : Int), true))) fun y_5 =>
 (if ((!y_5) = true) then
 (Sum.inr (Sum.inl ())) else
 (if ((!((decide ((List.getD x.2.2.2 (Int.toNat s) (((0 : Int), ((0 : Int), (0 : Int))), (((0 : Int), ((0 : Int), (0 : Int))), ((0 : Int), ((0 : Int), (0 : Int)))))).2.1.2.1 < (0 : Int))) == (decide ((List.getD x.2.2.2 (Int.toNat s) (((0 : Int), ((0 : Int), (0 : Int))), (((0 : Int), ((0 : Int), (0 : Int))), ((0 : Int), ((0 : Int), (0 : Int)))))).1.2.1 < (0 : Int))))) = true) then
 (Sum.inr (Sum.inl ())) else
 (if ((!((decide ((List.getD x.2.2.2 (Int.toNat s) (((0 : Int), ((0 : Int), (0 : Int))), (((0 : Int), ((0 : Int), (0 : Int))), ((0 : Int), ((0 : Int), (0 : Int)))))).2.1.2.2 < (0 : Int))) == (decide ((List.getD x.2.2.2 (Int.toNat s) (((0 : Int), ((0 : Int), (0 : Int))), (((0 : Int), ((0 : Int), (0 : Int))), ((0 : Int), ((0 : Int), (0 : Int)))))).1.2.2 < (0 : Int))))) = true) then
 (Sum.inr (Sum.inl ())) else
 (letV (among ((List.getD x.2.2.2 (Int.toNat s) (((0 : Int), ((0 : Int), (0 : Int))), (((0 : Int), ((0 : Int), (0 : Int))), ((0 : Int), ((0 : Int), (0 : Int)))))).2.2.1, ((((List.length x.1) : Nat) : Int), false))) fun y_6 =>
 (if ((!y_6) = true) then
 (Sum.inr (Sum.inl ())) else
 (letV (among ((List.getD x.2.2.2 (Int.toNat s) (((0 : Int), ((0 : Int), (0 : Int))), (((0 : Int), ((0 : Int), (0 : Int))), ((0 : Int), ((0 : Int), (0 : Int)))))).2.2.2.1, ((((List.length x.2.1) : Nat) : Int), true))) fun y_7 =>
 (if ((!y_7) = true) then
 (Sum.inr (Sum.inl ())) else
 (letV (among ((List.getD x.2.2.2 (Int.toNat s) (((0 : Int), ((0 : Int), (0 : Int))), (((0 : Int), ((0 : Int), (0 : Int))), ((0 : Int), ((0 : Int), (0 : Int)))))).2.2.2.2, ((((List.length x.2.2.1) : Nat) : Int), true))) fun y_8 =>
 (if ((!y_8) = true) then
 (Sum.inr (Sum.inl ())) else
 (if ((!((decide ((List.getD x.2.2.2 (Int.toNat s) (((0 : Int), ((0 : Int), (0 : Int))), (((0 : Int), ((0 : Int), (0 : Int))), ((0 : Int), ((0 : Int), (0 : Int)))))).2.2.2.1 < (0 : Int))) == (decide ((List.getD x.2.2.2 (Int.toNat s) (((0 : Int), ((0 : Int), (0 : Int))), (((0 : Int), ((0 : Int), (0 : Int))), ((0 : Int), ((0 : Int), (0 : Int)))))).1.2.1 < (0 : Int))))) = true) then
 (Sum.inr (Sum.inl ())) else
 (if ((!((decide ((List.getD x.2.2.2 (Int.toNat s) (((0 : Int), ((0 : Int), (0 : Int))), (((0 : Int), ((0 : Int), (0 : Int))), ((0 : Int), ((0 : Int), (0 : Int)))))).2.2.2.2 < (0 : Int))) == (decide ((List.getD x.2.2.2 (Int.toNat s) (((0 : Int), ((0 : Int), (0 : Int))), (((0 : Int), ((0 : Int), (0 : Int))), ((0 : Int), ((0 : Int), (0 : Int)))))).1.2.2 < (0 : Int))))) = true) then
 (Sum.inr (Sum.inl ())) else
 (Sum.inl (w64 (s + (1 : Int)))))))))))))))))))))))))))) else
 (Sum.inr (Sum.inr (()))))
noncomputable def meshis_l0_pre (x : ((List (Int × (Int × Int))) × ((List (Int × Int)) × ((List (Int × (Int × Int))) × (List ((Int × (Int × Int)) × ((Int × (Int × Int)) × (Int × (Int × Int))))))))) (s : Int) : Prop :=
 ((s < (((List.length x.2.2.2) : Nat) : Int)) →
 ((((0 : Int) ≤ s) ∧ (s < (((List.length x.2.2.2) : Nat) : Int))) ∧
 (((Int.toNat s) < (List.length x.2.2.2)) ∧
 ((Int.toNat s) < (List.length x.2.2.2)))))
noncomputable def meshis_l0_sp (x : ((List (Int × (Int × Int))) × ((List (Int × Int)) × ((List (Int × (Int × Int))) × (List ((Int × (Int × Int)) × ((Int × (Int × Int)) × (Int × (Int × Int))))))))) : LSpec := loopSp (meshis_l0_tm x) (meshis_l0_step x) (meshis_l0_pre x) (meshis_l0_out x)
theorem meshis_l0_vc (x : ((List (Int × (Int × Int))) × ((List (Int × Int)) × ((List (Int × (Int × Int))) × (List ((Int × (Int × Int)) × ((Int × (Int × Int)) × (Int × (Int × Int))))))))) (s : Int) (K : Exit → AS → Prop) (KN : AS → Prop) : codeE ⟨tt, sp_among, noX, ((2, unrolled tt sp_among noX [] [] [] 2 (cI (blk 2 (bodyOf Try.f59))) 4) :: []), [], []⟩ (cI (blk 0 (bodyOf Try.f59))) (meshis_l0_tm x s) (KB 0 K KN) =
 (cB (decide (s < (((List.length x.2.2.2) : Nat) : Int)))
 (ob ((decide ((0 : Int) ≤ s)) && (decide (s < (((List.length x.2.2.2) : Nat) : Int))))
 (ob (decide ((Int.toNat s) < (List.length x.2.2.2)))
 (ob (decide ((Int.toNat s) < (List.length x.2.2.2)))
 ((among_pre ((List.getD x.2.2.2 (Int.toNat s) zz9).1.1, ((((List.length x.1) : Nat) : Int), false))) ∧ ∀ y : Bool, y = (among ((List.getD x.2.2.2 (Int.toNat s) zz9).1.1, ((((List.length x.1) : Nat) : Int), false))) →
 (cB (!y)
 (KB 0 K KN .ret ⟨(D :: .v (.one (.ptr 0 0)) :: vb false :: D :: .v (.one (.ptr 5 0)) :: D :: .v (.one (.ptr 6 0)) :: D :: D :: D :: D :: D :: D :: D :: D :: D :: D :: D :: D :: D :: D :: D :: D :: D :: D :: D :: D :: D :: D :: .v (.one (.full 4)) :: vi (((List.length x.2.2.2) : Nat) : Int) :: vi s :: vb (decide (s < (((List.length x.2.2.2) : Nat) : Int))) :: .v (.one (.eptr 4 (Int.toNat s) 0)) :: .v (.agg [ci (List.getD x.2.2.2 (Int.toNat s) zz9).1.1, ci (List.getD x.2.2.2 (Int.toNat s) zz9).1.2.1, ci (List.getD x.2.2.2 (Int.toNat s) zz9).1.2.2, ci (List.getD x.2.2.2 (Int.toNat s) zz9).2.1.1, ci (List.getD x.2.2.2 (Int.toNat s) zz9).2.1.2.1, ci (List.getD x.2.2.2 (Int.toNat s) zz9).2.1.2.2, ci (List.getD x.2.2.2 (Int.toNat s) zz9).2.2.1, ci (List.getD x.2.2.2 (Int.toNat s) zz9).2.2.2.1, ci (List.getD x.2.2.2 (Int.toNat s) zz9).2.2.2.2]) :: .v (.agg [ci (List.getD x.2.2.2 (Int.toNat s) zz9).1.1, ci (List.getD x.2.2.2 (Int.toNat s) zz9).1.2.1, ci (List.getD x.2.2.2 (Int.toNat s) zz9).1.2.2, ci (List.getD x.2.2.2 (Int.toNat s) zz9).2.1.1, ci (List.getD x.2.2.2 (Int.toNat s) zz9).2.1.2.1, ci (List.getD x.2.2.2 (Int.toNat s) zz9).2.1.2.2, ci (List.getD x.2.2.2 (Int.toNat s) zz9).2.2.1, ci (List.getD x.2.2.2 (Int.toNat s) zz9).2.2.2.1, ci (List.getD x.2.2.2 (Int.toNat s) zz9).2.2.2.2]) :: vi (0 : Int) :: vb true :: .v (.agg [ci (List.getD x.2.2.2 (Int.toNat s) zz9).1.1, ci (List.getD x.2.2.2 (Int.toNat s) zz9).1.2.1, ci (List.getD x.2.2.2 (Int.toNat s) zz9).1.2.2]) :: .v (.one (.ptr 6 0)) :: vi (List.getD x.2.2.2 (Int.toNat s) zz9).1.1 :: .v (.one (.ptr 0 0)) :: .v (.one (.full 1)) :: vi (((List.length x.1) : Nat) : Int) :: vb y :: vb (!y) :: vb true :: und :: und :: und :: und :: und :: und :: und :: vb true :: vb true :: und :: und :: und :: und :: und :: und :: und :: vb true :: vb true :: und :: und :: und :: und :: und :: und :: und :: und :: vb true :: vb true :: und :: und :: und :: und :: und :: und :: und :: und :: vb true :: D :: D :: []), [.cells [.full 1, .full 2, .full 3, .full 4] 26, .row yy3 x.1 0, .row yy2 x.2.1 0, .row yy3 x.2.2.1 0, .row yy9 x.2.2.2 0, .cells [ci (List.getD x.2.2.2 (Int.toNat s) zz9).1.1, ci (List.getD x.2.2.2 (Int.toNat s) zz9).1.2.1, ci (List.getD x.2.2.2 (Int.toNat s) zz9).1.2.2, ci (List.getD x.2.2.2 (Int.toNat s) zz9).2.1.1, ci (List.getD x.2.2.2 (Int.toNat s) zz9).2.1.2.1, ci (List.getD x.2.2.2 (Int.toNat s) zz9).2.1.2.2, ci (List.getD x.2.2.2 (Int.toNat s) zz9).2.2.1, ci (List.getD x.2.2.2 (Int.toNat s) zz9).2.2.2.1, ci (List.getD x.2.2.2 (Int.toNat s) zz9).2.2.2.2] 72, .cells [ci (List.getD x.2.2.2 (Int.toNat s) zz9).1.1, ci (List.getD x.2.2.2 (Int.toNat s) zz9).1.2.1, ci (List.getD x.2.2.2 (Int.toNat s) zz9).1.2.2] 71]⟩)
 ((among_pre ((List.getD x.2.2.2 (Int.toNat s) zz9).1.2.1, ((((List.length x.2.1) : Nat) : Int), true))) ∧ ∀ y_1 : Bool, y_1 = (among ((List.getD x.2.2.2 (Int.toNat s) zz9).1.2.1, ((((List.length x.2.1) : Nat) : Int), true))) →
 (cB (!y_1)
 (KB 0 K KN .ret ⟨(D :: .v (.one (.ptr 0 0)) :: vb false :: D :: .v (.one (.ptr 5 0)) :: D :: .v (.one (.ptr 6 0)) :: D :: D :: D :: D :: D :: D :: D :: D :: D :: D :: D :: D :: D :: D :: D :: D :: D :: D :: D :: D :: D :: D :: .v (.one (.full 4)) :: vi (((List.length x.2.2.2) : Nat) : Int) :: vi s :: vb (decide (s < (((List.length x.2.2.2) : Nat) : Int))) :: .v (.one (.eptr 4 (Int.toNat s) 0)) :: .v (.agg [ci (List.getD x.2.2.2 (Int.toNat s) zz9).1.1, ci (List.getD x.2.2.2 (Int.toNat s) zz9).1.2.1, ci (List.getD x.2.2.2 (Int.toNat s) zz9).1.2.2, ci (List.getD x.2.2.2 (Int.toNat s) zz9).2.1.1, ci (List.getD x.2.2.2 (Int.toNat s) zz9).2.1.2.1, ci (List.getD x.2.2.2 (Int.toNat s) zz9).2.1.2.2, ci (List.getD x.2.2.2 (Int.toNat s) zz9).2.2.1, ci (List.getD x.2.2.2 (Int.toNat s) zz9).2.2.2.1, ci (List.getD x.2.2.2 (Int.toNat s) zz9).2.2.2.2]) :: .v (.agg [ci (List.getD x.2.2.2 (Int.toNat s) zz9).1.1, ci (List.getD x.2.2.2 (Int.toNat s) zz9).1.2.1, ci (List.getD x.2.2.2 (Int.toNat s) zz9).1.2.2, ci (List.getD x.2.2.2 (Int.toNat s) zz9).2.1.1, ci (List.getD x.2.2.2 (Int.toNat s) zz9).2.1.2.1, ci (List.getD x.2.2.2 (Int.toNat s) zz9).2.1.2.2, ci (List.getD x.2.2.2 (Int.toNat s) zz9).2.2.1, ci (List.getD x.2.2.2 (Int.toNat s) zz9).2.2.2.1, ci (List.getD x.2.2.2 (Int.toNat s) zz9).2.2.2.2]) :: vi (0 : Int) :: vb true :: .v (.agg [ci (List.getD x.2.2.2 (Int.toNat s) zz9).1.1, ci (List.getD x.2.2.2 (Int.toNat s) zz9).1.2.1, ci (List.getD x.2.2.2 (Int.toNat s) zz9).1.2.2]) :: .v (.one (.ptr 6 0)) :: vi (List.getD x.2.2.2 (Int.toNat s) zz9).1.1 :: .v (.one (.ptr 0 0)) :: .v (.one (.full 1)) :: vi (((List.length x.1) : Nat) : Int) :: vb y :: vb (!y) :: vb false :: .v (.one (.ptr 6 1)) :: vi (List.getD x.2.2.2 (Int.toNat s) zz9).1.2.1 :: .v (.one (.ptr 0 1)) :: .v (.one (.full 2)) :: vi (((List.length x.2.1) : Nat) : Int) :: vb y_1 :: vb (!y_1) :: vb (!y_1) :: vb true :: und :: und :: und :: und :: und :: und :: und :: vb true :: vb true :: und :: und :: und :: und :: und :: und :: und :: und :: vb true :: vb true :: und :: und :: und :: und :: und :: und :: und :: und :: vb true :: D :: D :: []), [.cells [.full 1, .full 2, .full 3, .full 4] 26, .row yy3 x.1 0, .row yy2 x.2.1 0, .row yy3 x.2.2.1 0, .row yy9 x.2.2.2 0, .cells [ci (List.getD x.2.2.2 (Int.toNat s) zz9).1.1, ci (List.getD x.2.2.2 (Int.toNat s) zz9).1.2.1, ci (List.getD x.2.2.2 (Int.toNat s) zz9).1.2.2, ci (List.getD x.2.2.2 (Int.toNat s) zz9).2.1.1, ci (List.getD x.2.2.2 (Int.toNat s) zz9).2.1.2.1, ci (List.getD x.2.2.2 (Int.toNat s) zz9).2.1.2.2, ci (List.getD x.2.2.2 (Int.toNat s) zz9).2.2.1, ci (List.getD x.2.2.2 (Int.toNat s) zz9).2.2.2.1, ci (List.getD x.2.2.2 (Int.toNat s) zz9).2.2.2.2] 72, .cells [ci (List.getD x.2.2.2 (Int.toNat s) zz9).1.1, ci (List.getD x.2.2.2 (Int.toNat s) zz9).1.2.1, ci (List.getD x.2.2.2 (Int.toNat s) zz9).1.2.2] 71]⟩)
 ((among_pre ((List.getD x.2.2.2 (Int.toNat s) zz9).1.2.2, ((((List.length x.2.2.1) : Nat) : Int), true))) ∧ ∀ y_2 : Bool, y_2 = (among ((List.getD x.2.2.2 (Int.toNat s) zz9).1.2.2, ((((List.length x.2.2.1) : Nat) : Int), true))) →
 (cB (!y_2)
 (KB 0 K KN .ret ⟨(D :: .v (.one (.ptr 0 0)) :: vb false :: D :: .v (.one (.ptr 5 0)) :: D :: .v (.one (.ptr 6 0)) :: D :: D :: D :: D :: D :: D :: D :: D :: D :: D :: D :: D :: D :: D :: D :: D :: D :: D :: D :: D :: D :: D :: .v (.one (.full 4)) :: vi (((List.length x.2.2.2) : Nat) : Int) :: vi s :: vb (decide (s < (((List.length x.2.2.2) : Nat) : Int))) :: .v (.one (.eptr 4 (Int.toNat s) 0)) :: .v (.agg [ci (List.getD x.2.2.2 (Int.toNat s) zz9).1.1, ci (List.getD x.2.2.2 (Int.toNat s) zz9).1.2.1, ci (List.getD x.2.2.2 (Int.toNat s) zz9).1.2.2, ci (List.getD x.2.2.2 (Int.toNat s) zz9).2.1.1, ci (List.getD x.2.2.2 (Int.toNat s) zz9).2.1.2.1, ci (List.getD x.2.2.2 (Int.toNat s) zz9).2.1.2.2, ci (List.getD x.2.2.2 (Int.toNat s) zz9).2.2.1, ci (List.getD x.2.2.2 (Int.toNat s) zz9).2.2.2.1, ci (List.getD x.2.2.2 (Int.toNat s) zz9).2.2.2.2]) :: .v (.agg [ci (List.getD x.2.2.2 (Int.toNat s) zz9).1.1, ci (List.getD x.2.2.2 (Int.toNat s) zz9).1.2.1, ci (List.getD x.2.2.2 (Int.toNat s) zz9).1.2.2, ci (List.getD x.2.2.2 (Int.toNat s) zz9).2.1.1, ci (List.getD x.2.2.2 (Int.toNat s) zz9).2.1.2.1, ci (List.getD x.2.2.2 (Int.toNat s) zz9).2.1.2.2, ci (List.getD x.2.2.2 (Int.toNat s) zz9).2.2.1, ci (List.getD x.2.2.2 (Int.toNat s) zz9).2.2.2.1, ci (List.getD x.2.2.2 (Int.toNat s) zz9).2.2.2.2]) :: vi (0 : Int) :: vb true :: .v (.agg [ci (List.getD x.2.2.2 (Int.toNat s) zz9).1.1, ci (List.getD x.2.2.2 (Int.toNat s) zz9).1.2.1, ci (List.getD x.2.2.2 (Int.toNat s) zz9).1.2.2]) :: .v (.one (.ptr 6 0)) :: vi (List.getD x.2.2.2 (Int.toNat s) zz9).1.1 :: .v (.one (.ptr 0 0)) :: .v (.one (.full 1)) :: vi (((List.length x.1) : Nat) : Int) :: vb y :: vb (!y) :: vb false :: .v (.one (.ptr 6 1)) :: vi (List.getD x.2.2.2 (Int.toNat s) zz9).1.2.1 :: .v (.one (.ptr 0 1)) :: .v (.one (.full 2)) :: vi (((List.length x.2.1) : Nat) : Int) :: vb y_1 :: vb (!y_1) :: vb (!y_1) :: vb false :: .v (.one (.ptr 6 2)) :: vi (List.getD x.2.2.2 (Int.toNat s) zz9).1.2.2 :: .v (.one (.ptr 0 2)) :: .v (.one (.full 3)) :: vi (((List.length x.2.2.1) : Nat) : Int) :: vb y_2 :: vb (!y_2) :: vb (!y_2) :: vb true :: und :: und :: und :: und :: und :: und :: und :: und :: vb true :: vb true :: und :: und :: und :: und :: und :: und :: und :: und :: vb true :: D :: D :: []), [.cells [.full 1, .full 2, .full 3, .full 4] 26, .row yy3 x.1 0, .row yy2 x.2.1 0, .row yy3 x.2.2.1 0, .row yy9 x.2.2.2 0, .cells [ci (List.getD x.2.2.2 (Int.toNat s) zz9).1.1, ci (List.getD x.2.2.2 (Int.toNat s) zz9).1.2.1, ci (List.getD x.2.2.2 (Int.toNat s) zz9).1.2.2, ci (List.getD x.2.2.2 (Int.toNat s) zz9).2.1.1, ci (List.getD x.2.2.2 (Int.toNat s) zz9).2.1.2.1, ci (List.getD x.2.2.2 (Int.toNat s) zz9).2.1.2.2, ci (List.getD x.2.2.2 (Int.toNat s) zz9).2.2.1, ci (List.getD x.2.2.2 (Int.toNat s) zz9).2.2.2.1, ci (List.getD x.2.2.2 (Int.toNat s) zz9).2.2.2.2] 72, .cells [ci (List.getD x.2.2.2 (Int.toNat s) zz9).1.1, ci (List.getD x.2.2.2 (Int.toNat s) zz9).1.2.1, ci (List.getD x.2.2.2 (Int.toNat s) zz9).1.2.2] 71]⟩)
 (cB (!((decide ((List.getD x.2.2.2 (Int.toNat s) zz9).1.2.1 < (0 : Int))) == (decide ((List.getD x.2.2.2 (Int.toNat s) zz9).1.2.1 < (0 : Int)))))
 (KB 0 K KN .ret ⟨(D :: .v (.one (.ptr 0 0)) :: vb false :: D :: .v (.one (.ptr 5 0)) :: D :: .v (.one (.ptr 6 0)) :: D :: D :: D :: D :: D :: D :: D :: D :: D :: D :: D :: D :: D :: D :: D :: D :: D :: D :: D :: D :: D :: D :: .v (.one (.full 4)) :: vi (((List.length x.2.2.2) : Nat) : Int) :: vi s :: vb (decide (s < (((List.length x.2.2.2) : Nat) : Int))) :: .v (.one (.eptr 4 (Int.toNat s) 0)) :: .v (.agg [ci (List.getD x.2.2.2 (Int.toNat s) zz9).1.1, ci (List.getD x.2.2.2 (Int.toNat s) zz9).1.2.1, ci (List.getD x.2.2.2 (Int.toNat s) zz9).1.2.2, ci (List.getD x.2.2.2 (Int.toNat s) zz9).2.1.1, ci (List.getD x.2.2.2 (Int.toNat s) zz9).2.1.2.1, ci (List.getD x.2.2.2 (Int.toNat s) zz9).2.1.2.2, ci (List.getD x.2.2.2 (Int.toNat s) zz9).2.2.1, ci (List.getD x.2.2.2 (Int.toNat s) zz9).2.2.2.1, ci (List.getD x.2.2.2 (Int.toNat s) zz9).2.2.2.2]) :: .v (.agg [ci (List.getD x.2.2.2 (Int.toNat s) zz9).1.1, ci (List.getD x.2.2.2 (Int.toNat s) zz9).1.2.1, ci (List.getD x.2.2.2 (Int.toNat s) zz9).1.2.2, ci (List.getD x.2.2.2 (Int.toNat s) zz9).2.1.1, ci (List.getD x.2.2.2 (Int.toNat s) zz9).2.1.2.1, ci (List.getD x.2.2.2 (Int.toNat s) zz9).2.1.2.2, ci (List.getD x.2.2.2 (Int.toNat s) zz9).2.2.1, ci (List.getD x.2.2.2 (Int.toNat s) zz9).2.2.2.1, ci (List.getD x.2.2.2 (Int.toNat s) zz9).2.2.2.2]) :: vi (0 : Int) :: vb true :: .v (.agg [ci (List.getD x.2.2.2 (Int.toNat s) zz9).1.1, ci (List.getD x.2.2.2 (Int.toNat s) zz9).1.2.1, ci (List.getD x.2.2.2 (Int.toNat s) zz9).1.2.2]) :: .v (.one (.ptr 6 0)) :: vi (List.getD x.2.2.2 (Int.toNat s) zz9).1.1 :: .v (.one (.ptr 0 0)) :: .v (.one (.full 1)) :: vi (((List.length x.1) : Nat) : Int) :: vb y :: vb (!y) :: vb false :: .v (.one (.ptr 6 1)) :: vi (List.getD x.2.2.2 (Int.toNat s) zz9).1.2.1 :: .v (.one (.ptr 0 1)) :: .v (.one (.full 2)) :: vi (((List.length x.2.1) : Nat) : Int) :: vb y_1 :: vb (!y_1) :: vb (!y_1) :: vb false :: .v (.one (.ptr 6 2)) :: vi (List.getD x.2.2.2 (Int.toNat s) zz9).1.2.2 :: .v (.one (.ptr 0 2)) :: .v (.one (.full 3)) :: vi (((List.length x.2.2.1) : Nat) : Int) :: vb y_2 :: vb (!y_2) :: vb (!y_2) :: vb false :: .v (.one (.ptr 6 1)) :: vi (List.getD x.2.2.2 (Int.toNat s) zz9).1.2.1 :: vb (decide ((List.getD x.2.2.2 (Int.toNat s) zz9).1.2.1 < (0 : Int))) :: .v (.one (.ptr 5 0)) :: .v (.one (.ptr 5 1)) :: vi (List.getD x.2.2.2 (Int.toNat s) zz9).1.2.1 :: vb (decide ((List.getD x.2.2.2 (Int.toNat s) zz9).1.2.1 < (0 : Int))) :: vb (!((decide ((List.getD x.2.2.2 (Int.toNat s) zz9).1.2.1 < (0 : Int))) == (decide ((List.getD x.2.2.2 (Int.toNat s) zz9).1.2.1 < (0 : Int))))) :: vb (!((decide ((List.getD x.2.2.2 (Int.toNat s) zz9).1.2.1 < (0 : Int))) == (decide ((List.getD x.2.2.2 (Int.toNat s) zz9).1.2.1 < (0 : Int))))) :: vb true :: und :: und :: und :: und :: und :: und :: und :: und :: vb true :: D :: D :: []), [.cells [.full 1, .full 2, .full 3, .full 4] 26, .row yy3 x.1 0, .row yy2 x.2.1 0, .row yy3 x.2.2.1 0, .row yy9 x.2.2.2 0, .cells [ci (List.getD x.2.2.2 (Int.toNat s) zz9).1.1, ci (List.getD x.2.2.2 (Int.toNat s) zz9).1.2.1, ci (List.getD x.2.2.2 (Int.toNat s) zz9).1.2.2, ci (List.getD x.2.2.2 (Int.toNat s) zz9).2.1.1, ci (List.getD x.2.2.2 (Int.toNat s) zz9).2.1.2.1, ci (List.getD x.2.2.2 (Int.toNat s) zz9).2.1.2.2, ci (List.getD x.2.2.2 (Int.toNat s) zz9).2.2.1, ci (List.getD x.2.2.2 (Int.toNat s) zz9).2.2.2.1, ci (List.getD x.2.2.2 (Int.toNat s) zz9).2.2.2.2] 72, .cells [ci (List.getD x.2.2.2 (Int.toNat s) zz9).1.1, ci (List.getD x.2.2.2 (Int.toNat s) zz9).1.2.1, ci (List.getD x.2.2.2 (Int.toNat s) zz9).1.2.2] 71]⟩)
 (cB (!((decide ((List.getD x.2.2.2 (Int.toNat s) zz9).1.2.2 < (0 : Int))) == (decide ((List.getD x.2.2.2 (Int.toNat s) zz9).1.2.2 < (0 : Int)))))
 (KB 0 K KN .ret ⟨(D :: .v (.one (.ptr 0 0)) :: vb false :: D :: .v (.one (.ptr 5 0)) :: D :: .v (.one (.ptr 6 0)) :: D :: D :: D :: D :: D :: D :: D :: D :: D :: D :: D :: D :: D :: D :: D :: D :: D :: D :: D :: D :: D :: D :: .v (.one (.full 4)) :: vi (((List.length x.2.2.2) : Nat) : Int) :: vi s :: vb (decide (s < (((List.length x.2.2.2) : Nat) : Int))) :: .v (.one (.eptr 4 (Int.toNat s) 0)) :: .v (.agg [ci (List.getD x.2.2.2 (Int.toNat s) zz9).1.1, ci (List.getD x.2.2.2 (Int.toNat s) zz9).1.2.1, ci (List.getD x.2.2.2 (Int.toNat s) zz9).1.2.2, ci (List.getD x.2.2.2 (Int.toNat s) zz9).2.1.1, ci (List.getD x.2.2.2 (Int.toNat s) zz9).2.1.2.1, ci (List.getD x.2.2.2 (Int.toNat s) zz9).2.1.2.2, ci (List.getD x.2.2.2 (Int.toNat s) zz9).2.2.1, ci (List.getD x.2.2.2 (Int.toNat s) zz9).2.2.2.1, ci (List.getD x.2.2.2 (Int.toNat s) zz9).2.2.2.2]) :: .v (.agg [ci (List.getD x.2.2.2 (Int.toNat s) zz9).1.1, ci (List.getD x.2.2.2 (Int.toNat s) zz9).1.2.1, ci (List.getD x.2.2.2 (Int.toNat s) zz9).1.2.2, ci (List.getD x.2.2.2 (Int.toNat s) zz9).2.1.1, ci (List.getD x.2.2.2 (Int.toNat s) zz9).2.1.2.1, ci (List.getD x.2.2.2 (Int.toNat s) zz9).2.1.2.2, ci (List.getD x.2.2.2 (Int.toNat s) zz9).2.2.1, ci (List.getD x.2.2.2 (Int.toNat s) zz9).2.2.2.1, ci (List.getD x.2.2.2 (Int.toNat s) zz9).2.2.2.2]) :: vi (0 : Int) :: vb true :: .v (.agg [ci (List.getD x.2.2.2 (Int.toNat s) zz9).1.1, ci (List.getD x.2.2.2 (Int.toNat s) zz9).1.2.1, ci (List.getD x.2.2.2 (Int.toNat s) zz9).1.2.2]) :: .v (.one (.ptr 6 0)) :: vi (List.getD x.2.2.2 (Int.toNat s) zz9).1.1 :: .v (.one (.ptr 0 0)) :: .v (.one (.full 1)) :: vi (((List.length x.1) : Nat) : Int) :: vb y :: vb (!y) :: vb false :: .v (.one (.ptr 6 1)) :: vi (List.getD x.2.2.2 (Int.toNat s) zz9).1.2.1 :: .v (.one (.ptr 0 1)) :: .v (.one (.full 2)) :: vi (((List.length x.2.1) : Nat) : Int) :: vb y_1 :: vb (!y_1) :: vb (!y_1) :: vb false :: .v (.one (.ptr 6 2)) :: vi (List.getD x.2.2.2 (Int.toNat s) zz9).1.2.2 :: .v (.one (.ptr 0 2)) :: .v (.one (.full 3)) :: vi (((List.length x.2.2.1) : Nat) : Int) :: vb y_2 :: vb (!y_2) :: vb (!y_2) :: vb false :: .v (.one (.ptr 6 1)) :: vi (List.getD x.2.2.2 (Int.toNat s) zz9).1.2.1 :: vb (decide ((List.getD x.2.2.2 (Int.toNat s) zz9).1.2.1 < (0 : Int))) :: .v (.one (.ptr 5 0)) :: .v (.one (.ptr 5 1)) :: vi (List.getD x.2.2.2 (Int.toNat s) zz9).1.2.1 :: vb (decide ((List.getD x.2.2.2 (Int.toNat s) zz9).1.2.1 < (0 : Int))) :: vb (!((decide ((List.getD x.2.2.2 (Int.toNat s) zz9).1.2.1 < (0 : Int))) == (decide ((List.getD x.2.2.2 (Int.toNat s) zz9).1.2.1 < (0 : Int))))) :: vb (!((decide ((List.getD x.2.2.2 (Int.toNat s) zz9).1.2.1 < (0 : Int))) == (decide ((List.getD x.2.2.2 (Int.toNat s) zz9).1.2.1 < (0 : Int))))) :: vb false :: .v (.one (.ptr 6 2)) :: vi (List.getD x.2.2.2 (Int.toNat s) zz9).1.2.2 :: vb (decide ((List.getD x.2.2.2 (Int.toNat s) zz9).1.2.2 < (0 : Int))) :: .v (.one (.ptr 5 0)) :: .v (.one (.ptr 5 2)) :: vi (List.getD x.2.2.2 (Int.toNat s) zz9).1.2.2 :: vb (decide ((List.getD x.2.2.2 (Int.toNat s) zz9).1.2.2 < (0 : Int))) :: vb (!((decide ((List.getD x.2.2.2 (Int.toNat s) zz9).1.2.2 < (0 : Int))) == (decide ((List.getD x.2.2.2 (Int.toNat s) zz9).1.2.2 < (0 : Int))))) :: vb (!((decide ((List.getD x.2.2.2 (Int.toNat s) zz9).1.2.2 < (0 : Int))) == (decide ((List.getD x.2.2.2 (Int.toNat s) zz9).1.2.2 < (0 : Int))))) :: D :: D :: []), [.cells [.full 1, .full 2, .full 3, .full 4] 26, .row yy3 x.1 0, .row yy2 x.2.1 0, .row yy3 x.2.2.1 0, .row yy9 x.2.2.2 0, .cells [ci (List.getD x.2.2.2 (Int.toNat s) zz9).1.1, ci (List.getD x.2.2.2 (Int.toNat s) zz9).1.2.1, ci (List.getD x.2.2.2 (Int.toNat s) zz9).1.2.2, ci (List.getD x.2.2.2 (Int.toNat s) zz9).2.1.1, ci (List.getD x.2.2.2 (Int.toNat s) zz9).2.1.2.1, ci (List.getD x.2.2.2 (Int.toNat s) zz9).2.1.2.2, ci (List.getD x.2.2.2 (Int.toNat s) zz9).2.2.1, ci (List.getD x.2.2.2 (Int.toNat s) zz9).2.2.2.1, ci (List.getD x.2.2.2 (Int.toNat s) zz9).2.2.2.2] 72, .cells [ci (List.getD x.2.2.2 (Int.toNat s) zz9).1.1, ci (List.getD x.2.2.2 (Int.toNat s) zz9).1.2.1, ci (List.getD x.2.2.2 (Int.toNat s) zz9).1.2.2] 71]⟩)
 ((among_pre ((List.getD x.2.2.2 (Int.toNat s) zz9).2.1.1, ((((List.length x.1) : Nat) : Int), false))) ∧ ∀ y_3 : Bool, y_3 = (among ((List.getD x.2.2.2 (Int.toNat s) zz9).2.1.1, ((((List.length x.1) : Nat) : Int), false))) →
 (cB (!y_3)
 (KB 0 K KN .ret ⟨(D :: .v (.one (.ptr 0 0)) :: vb false :: D :: .v (.one (.ptr 5 0)) :: D :: .v (.one (.ptr 7 0)) :: D :: D :: D :: D :: D :: D :: D :: D :: D :: D :: D :: D :: D :: D :: D :: D :: D :: D :: D :: D :: D :: D :: .v (.one (.full 4)) :: vi (((List.length x.2.2.2) : Nat) : Int) :: vi s :: vb (decide (s < (((List.length x.2.2.2) : Nat) : Int))) :: .v (.one (.eptr 4 (Int.toNat s) 0)) :: .v (.agg [ci (List.getD x.2.2.2 (Int.toNat s) zz9).1.1, ci (List.getD x.2.2.2 (Int.toNat s) zz9).1.2.1, ci (List.getD x.2.2.2 (Int.toNat s) zz9).1.2.2, ci (List.getD x.2.2.2 (Int.toNat s) zz9).2.1.1, ci (List.getD x.2.2.2 (Int.toNat s) zz9).2.1.2.1, ci (List.getD x.2.2.2 (Int.toNat s) zz9).2.1.2.2, ci (List.getD x.2.2.2 (Int.toNat s) zz9).2.2.1, ci (List.getD x.2.2.2 (Int.toNat s) zz9).2.2.2.1, ci (List.getD x.2.2.2 (Int.toNat s) zz9).2.2.2.2]) :: .v (.agg [ci (List.getD x.2.2.2 (Int.toNat s) zz9).1.1, ci (List.getD x.2.2.2 (Int.toNat s) zz9).1.2.1, ci (List.getD x.2.2.2 (Int.toNat s) zz9).1.2.2, ci (List.getD x.2.2.2 (Int.toNat s) zz9).2.1.1, ci (List.getD x.2.2.2 (Int.toNat s) zz9).2.1.2.1, ci (List.getD x.2.2.2 (Int.toNat s) zz9).2.1.2.2, ci (List.getD x.2.2.2 (Int.toNat s) zz9).2.2.1, ci (List.getD x.2.2.2 (Int.toNat s) zz9).2.2.2.1, ci (List.getD x.2.2.2 (Int.toNat s) zz9).2.2.2.2]) :: vi (1 : Int) :: vb true :: .v (.agg [ci (List.getD x.2.2.2 (Int.toNat s) zz9).2.1.1, ci (List.getD x.2.2.2 (Int.toNat s) zz9).2.1.2.1, ci (List.getD x.2.2.2 (Int.toNat s) zz9).2.1.2.2]) :: .v (.one (.ptr 7 0)) :: vi (List.getD x.2.2.2 (Int.toNat s) zz9).2.1.1 :: .v (.one (.ptr 0 0)) :: .v (.one (.full 1)) :: vi (((List.length x.1) : Nat) : Int) :: vb y_3 :: vb (!y_3) :: vb true :: und :: und :: und :: und :: und :: und :: und :: vb true :: vb true :: und :: und :: und :: und :: und :: und :: und :: vb true :: vb true :: und :: und :: und :: und :: und :: und :: und :: und :: vb true :: vb true :: und :: und :: und :: und :: und :: und :: und :: und :: vb true :: vi (1 : Int) :: D :: []), [.cells [.full 1, .full 2, .full 3, .full 4] 26, .row yy3 x.1 0, .row yy2 x.2.1 0, .row yy3 x.2.2.1 0, .row yy9 x.2.2.2 0, .cells [ci (List.getD x.2.2.2 (Int.toNat s) zz9).1.1, ci (List.getD x.2.2.2 (Int.toNat s) zz9).1.2.1, ci (List.getD x.2.2.2 (Int.toNat s) zz9).1.2.2, ci (List.getD x.2.2.2 (Int.toNat s) zz9).2.1.1, ci (List.getD x.2.2.2 (Int.toNat s) zz9).2.1.2.1, ci (List.getD x.2.2.2 (Int.toNat s) zz9).2.1.2.2, ci (List.getD x.2.2.2 (Int.toNat s) zz9).2.2.1, ci (List.getD x.2.2.2 (Int.toNat s) zz9).2.2.2.1, ci (List.getD x.2.2.2 (Int.toNat s) zz9).2.2.2.2] 72, .cells [ci (List.getD x.2.2.2 (Int.toNat s) zz9).1.1, ci (List.getD x.2.2.2 (Int.toNat s) zz9).1.2.1, ci (List.getD x.2.2.2 (Int.toNat s) zz9).1.2.2] 71, .cells [ci (List.getD x.2.2.2 (Int.toNat s) zz9).2.1.1, ci (List.getD x.2.2.2 (Int.toNat s) zz9).2.1.2.1, ci (List.getD x.2.2.2 (Int.toNat s) zz9).2.1.2.2] 71]⟩)
 ((among_pre ((List.getD x.2.2.2 (Int.toNat s) zz9).2.1.2.1, ((((List.length x.2.1) : Nat) : Int), true))) ∧ ∀ y_4 : Bool, y_4 = (among ((List.getD x.2.2.2 (Int.toNat s) zz9).2.1.2.1, ((((List.length x.2.1) : Nat) : Int), true))) →
 (cB (!y_4)
 (KB 0 K KN .ret ⟨(D :: .v (.one (.ptr 0 0)) :: vb false :: D :: .v (.one (.ptr 5 0)) :: D :: .v (.one (.ptr 7 0)) :: D :: D :: D :: D :: D :: D :: D :: D :: D :: D :: D :: D :: D :: D :: D :: D :: D :: D :: D :: D :: D :: D :: .v (.one (.full 4)) :: vi (((List.length x.2.2.2) : Nat) : Int) :: vi s :: vb (decide (s < (((List.length x.2.2.2) : Nat) : Int))) :: .v (.one (.eptr 4 (Int.toNat s) 0)) :: .v (.agg [ci (List.getD x.2.2.2 (Int.toNat s) zz9).1.1, ci (List.getD x.2.2.2 (Int.toNat s) zz9).1.2.1, ci (List.getD x.2.2.2 (Int.toNat s) zz9).1.2.2, ci (List.getD x.2.2.2 (Int.toNat s) zz9).2.1.1, ci (List.getD x.2.2.2 (Int.toNat s) zz9).2.1.2.1, ci (List.getD x.2.2.2 (Int.toNat s) zz9).2.1.2.2, ci (List.getD x.2.2.2 (Int.toNat s) zz9).2.2.1, ci (List.getD x.2.2.2 (Int.toNat s) zz9).2.2.2.1, ci (List.getD x.2.2.2 (Int.toNat s) zz9).2.2.2.2]) :: .v (.agg [ci (List.getD x.2.2.2 (Int.toNat s) zz9).1.1, ci (List.getD x.2.2.2 (Int.toNat s) zz9).1.2.1, ci (List.getD x.2.2.2 (Int.toNat s) zz9).1.2.2, ci (List.getD x.2.2.2 (Int.toNat s) zz9).2.1.1, ci (List.getD x.2.2.2 (Int.toNat s) zz9).2.1.2.1, ci (List.getD x.2.2.2 (Int.toNat s) zz9).2.1.2.2, ci (List.getD x.2.2.2 (Int.toNat s) zz9).2.2.1, ci (List.getD x.2.2.2 (Int.toNat s) zz9).2.2.2.1, ci (List.getD x.2.2.2 (Int.toNat s) zz9).2.2.2.2]) :: vi (1 : Int) :: vb true :: .v (.agg [ci (List.getD x.2.2.2 (Int.toNat s) zz9).2.1.1, ci (List.getD x.2.2.2 (Int.toNat s) zz9).2.1.2.1, ci (List.getD x.2.2.2 (Int.toNat s) zz9).2.1.2.2]) :: .v (.one (.ptr 7 0)) :: vi (List.getD x.2.2.2 (Int.toNat s) zz9).2.1.1 :: .v (.one (.ptr 0 0)) :: .v (.one (.full 1)) :: vi (((List.length x.1) : Nat) : Int) :: vb y_3 :: vb (!y_3) :: vb false :: .v (.one (.ptr 7 1)) :: vi (List.getD x.2.2.2 (Int.toNat s) zz9).2.1.2.1 :: .v (.one (.ptr 0 1)) :: .v (.one (.full 2)) :: vi (((List.length x.2.1) : Nat) : Int) :: vb y_4 :: vb (!y_4) :: vb (!y_4) :: vb true :: und :: und :: und :: und :: und :: und :: und :: vb true :: vb true :: und :: und :: und :: und :: und :: und :: und :: und :: vb true :: vb true :: und :: und :: und :: und :: und :: und :: und :: und :: vb true :: vi (1 : Int) :: D :: []), [.cells [.full 1, .full 2, .full 3, .full 4] 26, .row yy3 x.1 0, .row yy2 x.2.1 0, .row yy3 x.2.2.1 0, .row yy9 x.2.2.2 0, .cells [ci (List.getD x.2.2.2 (Int.toNat s) zz9).1.1, ci (List.getD x.2.2.2 (Int.toNat s) zz9).1.2.1, ci (List.getD x.2.2.2 (Int.toNat s) zz9).1.2.2, ci (List.getD x.2.2.2 (Int.toNat s) zz9).2.1.1, ci (List.getD x.2.2.2 (Int.toNat s) zz9).2.1.2.1, ci (List.getD x.2.2.2 (Int.toNat s) zz9).2.1.2.2, ci (List.getD x.2.2.2 (Int.toNat s) zz9).2.2.1, ci (List.getD x.2.2.2 (Int.toNat s) zz9).2.2.2.1, ci (List.getD x.2.2.2 (Int.toNat s) zz9).2.2.2.2] 72, .cells [ci (List.getD x.2.2.2 (Int.toNat s) zz9).1.1, ci (List.getD x.2.2.2 (Int.toNat s) zz9).1.2.1, ci (List.getD x.2.2.2 (Int.toNat s) zz9).1.2.2] 71, .cells [ci (List.getD x.2.2.2 (Int.toNat s) zz9).2.1.1, ci (List.getD x.2.2.2 (Int.toNat s) zz9).2.1.2.1, ci (List.getD x.2.2.2 (Int.toNat s) zz9).2.1.2.2] 71]⟩)
 ((among_pre ((List.getD x.2.2.2 (Int.toNat s) zz9).2.1.2.2, ((((List.length x.2.2.1) : Nat) : Int), true))) ∧ ∀ y_5 : Bool, y_5 = (among ((List.getD x.2.2.2 (Int.toNat s) zz9).2.1.2.2, ((((List.length x.2.2.1) : Nat) : Int), true))) →
 (cB (!y_5)
 (KB 0 K KN .ret ⟨(D :: .v (.one (.ptr 0 0)) :: vb false :: D :: .v (.one (.ptr 5 0)) :: D :: .v (.one (.ptr 7 0)) :: D :: D :: D :: D :: D :: D :: D :: D :: D :: D :: D :: D :: D :: D :: D :: D :: D :: D :: D :: D :: D :: D :: .v (.one (.full 4)) :: vi (((List.length x.2.2.2) : Nat) : Int) :: vi s :: vb (decide (s < (((List.length x.2.2.2) : Nat) : Int))) :: .v (.one (.eptr 4 (Int.toNat s) 0)) :: .v (.agg [ci (List.getD x.2.2.2 (Int.toNat s) zz9).1.1, ci (List.getD x.2.2.2 (Int.toNat s) zz9).1.2.1, ci (List.getD x.2.2.2 (Int.toNat s) zz9).1.2.2, ci (List.getD x.2.2.2 (Int.toNat s) zz9).2.1.1, ci (List.getD x.2.2.2 (Int.toNat s) zz9).2.1.2.1, ci (List.getD x.2.2.2 (Int.toNat s) zz9).2.1.2.2, ci (List.getD x.2.2.2 (Int.toNat s) zz9).2.2.1, ci (List.getD x.2.2.2 (Int.toNat s) zz9).2.2.2.1, ci (List.getD x.2.2.2 (Int.toNat s) zz9).2.2.2.2]) :: .v (.agg [ci (List.getD x.2.2.2 (Int.toNat s) zz9).1.1, ci (List.getD x.2.2.2 (Int.toNat s) zz9).1.2.1, ci (List.getD x.2.2.2 (Int.toNat s) zz9).1.2.2, ci (List.getD x.2.2.2 (Int.toNat s) zz9).2.1.1, ci (List.getD x.2.2.2 (Int.toNat s) zz9).2.1.2.1, ci (List.getD x.2.2.2 (Int.toNat s) zz9).2.1.2.2, ci (List.getD x.2.2.2 (Int.toNat s) zz9).2.2.1, ci (List.getD x.2.2.2 (Int.toNat s) zz9).2.2.2.1, ci (List.getD x.2.2.2 (Int.toNat s) zz9).2.2.2.2]) :: vi (1 : Int) :: vb true :: .v (.agg [ci (List.getD x.2.2.2 (Int.toNat s) zz9).2.1.1, ci (List.getD x.2.2.2 (Int.toNat s) zz9).2.1.2.1, ci (List.getD x.2.2.2 (Int.toNat s) zz9).2.1.2.2]) :: .v (.one (.ptr 7 0)) :: vi (List.getD x.2.2.2 (Int.toNat s) zz9).2.1.1 :: .v (.one (.ptr 0 0)) :: .v (.one (.full 1)) :: vi (((List.length x.1) : Nat) : Int) :: vb y_3 :: vb (!y_3) :: vb false :: .v (.one (.ptr 7 1)) :: vi (List.getD x.2.2.2 (Int.toNat s) zz9).2.1.2.1 :: .v (.one (.ptr 0 1)) :: .v (.one (.full 2)) :: vi (((List.length x.2.1) : Nat) : Int) :: vb y_4 :: vb (!y_4) :: vb (!y_4) :: vb false :: .v (.one (.ptr 7 2)) :: vi (List.getD x.2.2.2 (Int.toNat s) zz9).2.1.2.2 :: .v (.one (.ptr 0 2)) :: .v (.one (.full 3)) :: vi (((List.length x.2.2.1) : Nat) : Int) :: vb y_5 :: vb (!y_5) :: vb (!y_5) :: vb true :: und :: und :: und :: und :: und :: und :: und :: und :: vb true :: vb true :: und :: und :: und :: und :: und :: und :: und :: und :: vb true :: vi (1 : Int) :: D :: []), [.cells [.full 1, .full 2, .full 3, .full 4] 26, .row yy3 x.1 0, .row yy2 x.2.1 0, .row yy3 x.2.2.1 0, .row yy9 x.2.2.2 0, .cells [ci (List.getD x.2.2.2 (Int.toNat s) zz9).1.1, ci (List.getD x.2.2.2 (Int.toNat s) zz9).1.2.1, ci (List.getD x.2.2.2 (Int.toNat s) zz9).1.2.2, ci (List.getD x.2.2.2 (Int.toNat s) zz9).2.1.1, ci (List.getD x.2.2.2 (Int.toNat s) zz9).2.1.2.1, ci (List.getD x.2.2.2 (Int.toNat s) zz9).2.1.2.2, ci (List.getD x.2.2.2 (Int.toNat s) zz9).2.2.1, ci (List.getD x.2.2.2 (Int.toNat s) zz9).2.2.2.1, ci (List.getD x.2.2.2 (Int.toNat s) zz9).2.2.2.2] 72, .cells [ci (List.getD x.2.2.2 (Int.toNat s) zz9).1.1, ci (List.getD x.2.2.2 (Int.toNat s) zz9).1.2.1, ci (List.getD x.2.2.2 (Int.toNat s) zz9).1.2.2] 71, .cells [ci (List.getD x.2.2.2 (Int.toNat s) zz9).2.1.1, ci (List.getD x.2.2.2 (Int.toNat s) zz9).2.1.2.1, ci (List.getD x.2.2.2 (Int.toNat s) zz9).2.1.2.2] 71]⟩)
 (cB (!((decide ((List.getD x.2.2.2 (Int.toNat s) zz9).2.1.2.1 < (0 : Int))) == (decide ((List.getD x.2.2.2 (Int.toNat s) zz9).1.2.1 < (0 : Int)))))
 (KB 0 K KN .ret ⟨(D :: .v (.one (.ptr 0 0)) :: vb false :: D :: .v (.one (.ptr 5 0)) :: D :: .v (.one (.ptr 7 0)) :: D :: D :: D :: D :: D :: D :: D :: D :: D :: D :: D :: D :: D :: D :: D :: D :: D :: D :: D :: D :: D :: D :: .v (.one (.full 4)) :: vi (((List.length x.2.2.2) : Nat) : Int) :: vi s :: vb (decide (s < (((List.length x.2.2.2) : Nat) : Int))) :: .v (.one (.eptr 4 (Int.toNat s) 0)) :: .v (.agg [ci (List.getD x.2.2.2 (Int.toNat s) zz9).1.1, ci (List.getD x.2.2.2 (Int.toNat s) zz9).1.2.1, ci (List.getD x.2.2.2 (Int.toNat s) zz9).1.2.2, ci (List.getD x.2.2.2 (Int.toNat s) zz9).2.1.1, ci (List.getD x.2.2.2 (Int.toNat s) zz9).2.1.2.1, ci (List.getD x.2.2.2 (Int.toNat s) zz9).2.1.2.2, ci (List.getD x.2.2.2 (Int.toNat s) zz9).2.2.1, ci (List.getD x.2.2.2 (Int.toNat s) zz9).2.2.2.1, ci (List.getD x.2.2.2 (Int.toNat s) zz9).2.2.2.2]) :: .v (.agg [ci (List.getD x.2.2.2 (Int.toNat s) zz9).1.1, ci (List.getD x.2.2.2 (Int.toNat s) zz9).1.2.1, ci (List.getD x.2.2.2 (Int.toNat s) zz9).1.2.2, ci (List.getD x.2.2.2 (Int.toNat s) zz9).2.1.1, ci (List.getD x.2.2.2 (Int.toNat s) zz9).2.1.2.1, ci (List.getD x.2.2.2 (Int.toNat s) zz9).2.1.2.2, ci (List.getD x.2.2.2 (Int.toNat s) zz9).2.2.1, ci (List.getD x.2.2.2 (Int.toNat s) zz9).2.2.2.1, ci (List.getD x.2.2.2 (Int.toNat s) zz9).2.2.2.2]) :: vi (1 : Int) :: vb true :: .v (.agg [ci (List.getD x.2.2.2 (Int.toNat s) zz9).2.1.1, ci (List.getD x.2.2.2 (Int.toNat s) zz9).2.1.2.1, ci (List.getD x.2.2.2 (Int.toNat s) zz9).2.1.2.2]) :: .v (.one (.ptr 7 0)) :: vi (List.getD x.2.2.2 (Int.toNat s) zz9).2.1.1 :: .v (.one (.ptr 0 0)) :: .v (.one (.full 1)) :: vi (((List.length x.1) : Nat) : Int) :: vb y_3 :: vb (!y_3) :: vb false :: .v (.one (.ptr 7 1)) :: vi (List.getD x.2.2.2 (Int.toNat s) zz9).2.1.2.1 :: .v (.one (.ptr 0 1)) :: .v (.one (.full 2)) :: vi (((List.length x.2.1) : Nat) : Int) :: vb y_4 :: vb (!y_4) :: vb (!y_4) :: vb false :: .v (.one (.ptr 7 2)) :: vi (List.getD x.2.2.2 (Int.toNat s) zz9).2.1.2.2 :: .v (.one (.ptr 0 2)) :: .v (.one (.full 3)) :: vi (((List.length x.2.2.1) : Nat) : Int) :: vb y_5 :: vb (!y_5) :: vb (!y_5) :: vb false :: .v (.one (.ptr 7 1)) :: vi (List.getD x.2.2.2 (Int.toNat s) zz9).2.1.2.1 :: vb (decide ((List.getD x.2.2.2 (Int.toNat s) zz9).2.1.2.1 < (0 : Int))) :: .v (.one (.ptr 5 0)) :: .v (.one (.ptr 5 1)) :: vi (List.getD x.2.2.2 (Int.toNat s) zz9).1.2.1 :: vb (decide ((List.getD x.2.2.2 (Int.toNat s) zz9).1.2.1 < (0 : Int))) :: vb (!((decide ((List.getD x.2.2.2 (Int.toNat s) zz9).2.1.2.1 < (0 : Int))) == (decide ((List.getD x.2.2.2 (Int.toNat s) zz9).1.2.1 < (0 : Int))))) :: vb (!((decide ((List.getD x.2.2.2 (Int.toNat s) zz9).2.1.2.1 < (0 : Int))) == (decide ((List.getD x.2.2.2 (Int.toNat s) zz9).1.2.1 < (0 : Int))))) :: vb true :: und :: und :: und :: und :: und :: und :: und :: und :: vb true :: vi (1 : Int) :: D :: []), [.cells [.full 1, .full 2, .full 3, .full 4] 26, .row yy3 x.1 0, .row yy2 x.2.1 0, .row yy3 x.2.2.1 0, .row yy9 x.2.2.2 0, .cells [ci (List.getD x.2.2.2 (Int.toNat s) zz9).1.1, ci (List.getD x.2.2.2 (Int.toNat s) zz9).1.2.1, ci (List.getD x.2.2.2 (Int.toNat s) zz9).1.2.2, ci (List.getD x.2.2.2 (Int.toNat s) zz9).2.1.1, ci (List.getD x.2.2.2 (Int.toNat s) zz9).2.1.2.1, ci (List.getD x.2.2.2 (Int.toNat s) zz9).2.1.2.2, ci (List.getD x.2.2.2 (Int.toNat s) zz9).2.2.1, ci (List.getD x.2.2.2 (Int.toNat s) zz9).2.2.2.1, ci (List.getD x.2.2.2 (Int.toNat s) zz9).2.2.2.2] 72, .cells [ci (List.getD x.2.2.2 (Int.toNat s) zz9).1.1, ci (List.getD x.2.2.2 (Int.toNat s) zz9).1.2.1, ci (List.getD x.2.2.2 (Int.toNat s) zz9).1.2.2] 71, .cells [ci (List.getD x.2.2.2 (Int.toNat s) zz9).2.1.1, ci (List.getD x.2.2.2 (Int.toNat s) zz9).2.1.2.1, ci (List.getD x.2.2.2 (Int.toNat s) zz9).2.1.2.2] 71]⟩)
 (cB (!((decide ((List.getD x.2.2.2 (Int.toNat s) zz9).2.1.2.2 < (0 : Int))) == (decide ((List.getD x.2.2.2 (Int.toNat s) zz9).1.2.2 < (0 : Int)))))
 (KB 0 K KN .ret ⟨(D :: .v (.one (.ptr 0 0)) :: vb false :: D :: .v (.one (.ptr 5 0)) :: D :: .v (.one (.ptr 7 0)) :: D :: D :: D :: D :: D :: D :: D :: D :: D :: D :: D :: D :: D :: D :: D :: D :: D :: D :: D :: D :: D :: D :: .v (.one (.full 4)) :: vi (((List.length x.2.2.2) : Nat) : Int) :: vi s :: vb (decide (s < (((List.length x.2.2.2) : Nat) : Int))) :: .v (.one (.eptr 4 (Int.toNat s) 0)) :: .v (.agg [ci (List.getD x.2.2.2 (Int.toNat s) zz9).1.1, ci (List.getD x.2.2.2 (Int.toNat s) zz9).1.2.1, ci (List.getD x.2.2.2 (Int.toNat s) zz9).1.2.2, ci (List.getD x.2.2.2 (Int.toNat s) zz9).2.1.1, ci (List.getD x.2.2.2 (Int.toNat s) zz9).2.1.2.1, ci (List.getD x.2.2.2 (Int.toNat s) zz9).2.1.2.2, ci (List.getD x.2.2.2 (Int.toNat s) zz9).2.2.1, ci (List.getD x.2.2.2 (Int.toNat s) zz9).2.2.2.1, ci (List.getD x.2.2.2 (Int.toNat s) zz9).2.2.2.2]) :: .v (.agg [ci (List.getD x.2.2.2 (Int.toNat s) zz9).1.1, ci (List.getD x.2.2.2 (Int.toNat s) zz9).1.2.1, ci (List.getD x.2.2.2 (Int.toNat s) zz9).1.2.2, ci (List.getD x.2.2.2 (Int.toNat s) zz9).2.1.1, ci (List.getD x.2.2.2 (Int.toNat s) zz9).2.1.2.1, ci (List.getD x.2.2.2 (Int.toNat s) zz9).2.1.2.2, ci (List.getD x.2.2.2 (Int.toNat s) zz9).2.2.1, ci (List.getD x.2.2.2 (Int.toNat s) zz9).2.2.2.1, ci (List.getD x.2.2.2 (Int.toNat s) zz9).2.2.2.2]) :: vi (1 : Int) :: vb true :: .v (.agg [ci (List.getD x.2.2.2 (Int.toNat s) zz9).2.1.1, ci (List.getD x.2.2.2 (Int.toNat s) zz9).2.1.2.1, ci (List.getD x.2.2.2 (Int.toNat s) zz9).2.1.2.2]) :: .v (.one (.ptr 7 0)) :: vi (List.getD x.2.2.2 (Int.toNat s) zz9).2.1.1 :: .v (.one (.ptr 0 0)) :: .v (.one (.full 1)) :: vi (((List.length x.1) : Nat) : Int) :: vb y_3 :: vb (!y_3) :: vb false :: .v (.one (.ptr 7 1)) :: vi (List.getD x.2.2.2 (Int.toNat s) zz9).2.1.2.1 :: .v (.one (.ptr 0 1)) :: .v (.one (.full 2)) :: vi (((List.length x.2.1) : Nat) : Int) :: vb y_4 :: vb (!y_4) :: vb (!y_4) :: vb false :: .v (.one (.ptr 7 2)) :: vi (List.getD x.2.2.2 (Int.toNat s) zz9).2.1.2.2 :: .v (.one (.ptr 0 2)) :: .v (.one (.full 3)) :: vi (((List.length x.2.2.1) : Nat) : Int) :: vb y_5 :: vb (!y_5) :: vb (!y_5) :: vb false :: .v (.one (.ptr 7 1)) :: vi (List.getD x.2.2.2 (Int.toNat s) zz9).2.1.2.1 :: vb (decide ((List.getD x.2.2.2 (Int.toNat s) zz9).2.1.2.1 < (0 : Int))) :: .v (.one (.ptr 5 0)) :: .v (.one (.ptr 5 1)) :: vi (List.getD x.2.2.2 (Int.toNat s) zz9).1.2.1 :: vb (decide ((List.getD x.2.2.2 (Int.toNat s) zz9).1.2.1 < (0 : Int))) :: vb (!((decide ((List.getD x.2.2.2 (Int.toNat s) zz9).2.1.2.1 < (0 : Int))) == (decide ((List.getD x.2.2.2 (Int.toNat s) zz9).1.2.1 < (0 : Int))))) :: vb (!((decide ((List.getD x.2.2.2 (Int.toNat s) zz9).2.1.2.1 < (0 : Int))) == (decide ((List.getD x.2.2.2 (Int.toNat s) zz9).1.2.1 < (0 : Int))))) :: vb false :: .v (.one (.ptr 7 2)) :: vi (List.getD x.2.2.2 (Int.toNat s) zz9).2.1.2.2 :: vb (decide ((List.getD x.2.2.2 (Int.toNat s) zz9).2.1.2.2 < (0 : Int))) :: .v (.one (.ptr 5 0)) :: .v (.one (.ptr 5 2)) :: vi (List.getD x.2.2.2 (Int.toNat s) zz9).1.2.2 :: vb (decide ((List.getD x.2.2.2 (Int.toNat s) zz9).1.2.2 < (0 : Int))) :: vb (!((decide ((List.getD x.2.2.2 (Int.toNat s) zz9).2.1.2.2 < (0 : Int))) == (decide ((List.getD x.2.2.2 (Int.toNat s) zz9).1.2.2 < (0 : Int))))) :: vb (!((decide ((List.getD x.2.2.2 (Int.toNat s) zz9).2.1.2.2 < (0 : Int))) == (decide ((List.getD x.2.2.2 (Int.toNat s) zz9).1.2.2 < (0 : Int))))) :: vi (1 : Int) :: D :: []), [.cells [.full 1, .full 2, .full 3, .full 4] 26, .row yy3 x.1 0, .row yy2 x.2.1 0, .row yy3 x.2.2.1 0, .row yy9 x.2.2.2 0, .cells [ci (List.getD x.2.2.2 (Int.toNat s) zz9).1.1, ci (List.getD x.2.2.2 (Int.toNat s) zz9).1.2.1, ci (List.getD x.2.2.2 (Int.toNat s) zz9).1.2.2, ci (List.getD x.2.2.2 (Int.toNat s) zz9).2.1.1, ci (List.getD x.2.2.2 (Int.toNat s) zz9).2.1.2.1, ci (List.getD x.2.2.2 (Int.toNat s) zz9).2.1.2.2, ci (List.getD x.2.2.2 (Int.toNat s) zz9).2.2.1, ci (List.getD x.2.2.2 (Int.toNat s) zz9).2.2.2.1, ci (List.getD x.2.2.2 (Int.toNat s) zz9).2.2.2.2] 72, .cells [ci (List.getD x.2.2.2 (Int.toNat s) zz9).1.1, ci (List.getD x.2.2.2 (Int.toNat s) zz9).1.2.1, ci (List.getD x.2.2.2 (Int.toNat s) zz9).1.2.2] 71, .cells [ci (List.getD x.2.2.2 (Int.toNat s) zz9).2.1.1, ci (List.getD x.2.2.2 (Int.toNat s) zz9).2.1.2.1, ci (List.getD x.2.2.2 (Int.toNat s) zz9).2.1.2.2] 71]⟩)
 ((among_pre ((List.getD x.2.2.2 (Int.toNat s) zz9).2.2.1, ((((List.length x.1) : Nat) : Int), false))) ∧ ∀ y_6 : Bool, y_6 = (among ((List.getD x.2.2.2 (Int.toNat s) zz9).2.2.1, ((((List.length x.1) : Nat) : Int), false))) →
 (cB (!y_6)
 (KB 0 K KN .ret ⟨(D :: .v (.one (.ptr 0 0)) :: vb false :: D :: .v (.one (.ptr 5 0)) :: D :: .v (.one (.ptr 8 0)) :: D :: D :: D :: D :: D :: D :: D :: D :: D :: D :: D :: D :: D :: D :: D :: D :: D :: D :: D :: D :: D :: D :: .v (.one (.full 4)) :: vi (((List.length x.2.2.2) : Nat) : Int) :: vi s :: vb (decide (s < (((List.length x.2.2.2) : Nat) : Int))) :: .v (.one (.eptr 4 (Int.toNat s) 0)) :: .v (.agg [ci (List.getD x.2.2.2 (Int.toNat s) zz9).1.1, ci (List.getD x.2.2.2 (Int.toNat s) zz9).1.2.1, ci (List.getD x.2.2.2 (Int.toNat s) zz9).1.2.2, ci (List.getD x.2.2.2 (Int.toNat s) zz9).2.1.1, ci (List.getD x.2.2.2 (Int.toNat s) zz9).2.1.2.1, ci (List.getD x.2.2.2 (Int.toNat s) zz9).2.1.2.2, ci (List.getD x.2.2.2 (Int.toNat s) zz9).2.2.1, ci (List.getD x.2.2.2 (Int.toNat s) zz9).2.2.2.1, ci (List.getD x.2.2.2 (Int.toNat s) zz9).2.2.2.2]) :: .v (.agg [ci (List.getD x.2.2.2 (Int.toNat s) zz9).1.1, ci (List.getD x.2.2.2 (Int.toNat s) zz9).1.2.1, ci (List.getD x.2.2.2 (Int.toNat s) zz9).1.2.2, ci (List.getD x.2.2.2 (Int.toNat s) zz9).2.1.1, ci (List.getD x.2.2.2 (Int.toNat s) zz9).2.1.2.1, ci (List.getD x.2.2.2 (Int.toNat s) zz9).2.1.2.2, ci (List.getD x.2.2.2 (Int.toNat s) zz9).2.2.1, ci (List.getD x.2.2.2 (Int.toNat s) zz9).2.2.2.1, ci (List.getD x.2.2.2 (Int.toNat s) zz9).2.2.2.2]) :: vi (2 : Int) :: vb true :: .v (.agg [ci (List.getD x.2.2.2 (Int.toNat s) zz9).2.2.1, ci (List.getD x.2.2.2 (Int.toNat s) zz9).2.2.2.1, ci (List.getD x.2.2.2 (Int.toNat s) zz9).2.2.2.2]) :: .v (.one (.ptr 8 0)) :: vi (List.getD x.2.2.2 (Int.toNat s) zz9).2.2.1 :: .v (.one (.ptr 0 0)) :: .v (.one (.full 1)) :: vi (((List.length x.1) : Nat) : Int) :: vb y_6 :: vb (!y_6) :: vb true :: und :: und :: und :: und :: und :: und :: und :: vb true :: vb true :: und :: und :: und :: und :: und :: und :: und :: vb true :: vb true :: und :: und :: und :: und :: und :: und :: und :: und :: vb true :: vb true :: und :: und :: und :: und :: und :: und :: und :: und :: vb true :: vi (2 : Int) :: D :: []), [.cells [.full 1, .full 2, .full 3, .full 4] 26, .row yy3 x.1 0, .row yy2 x.2.1 0, .row yy3 x.2.2.1 0, .row yy9 x.2.2.2 0, .cells [ci (List.getD x.2.2.2 (Int.toNat s) zz9).1.1, ci (List.getD x.2.2.2 (Int.toNat s) zz9).1.2.1, ci (List.getD x.2.2.2 (Int.toNat s) zz9).1.2.2, ci (List.getD x.2.2.2 (Int.toNat s) zz9).2.1.1, ci (List.getD x.2.2.2 (Int.toNat s) zz9).2.1.2.1, ci (List.getD x.2.2.2 (Int.toNat s) zz9).2.1.2.2, ci (List.getD x.2.2.2 (Int.toNat s) zz9).2.2.1, ci (List.getD x.2.2.2 (Int.toNat s) zz9).2.2.2.1, ci (List.getD x.2.2.2 (Int.toNat s) zz9).2.2.2.2] 72, .cells [ci (List.getD x.2.2.2 (Int.toNat s) zz9).1.1, ci (List.getD x.2.2.2 (Int.toNat s) zz9).1.2.1, ci (List.getD x.2.2.2 (Int.toNat s) zz9).1.2.2] 71, .cells [ci (List.getD x.2.2.2 (Int.toNat s) zz9).2.1.1, ci (List.getD x.2.2.2 (Int.toNat s) zz9).2.1.2.1, ci (List.getD x.2.2.2 (Int.toNat s) zz9).2.1.2.2] 71, .cells [ci (List.getD x.2.2.2 (Int.toNat s) zz9).2.2.1, ci (List.getD x.2.2.2 (Int.toNat s) zz9).2.2.2.1, ci (List.getD x.2.2.2 (Int.toNat s) zz9).2.2.2.2] 71]⟩)
 ((among_pre ((List.getD x.2.2.2 (Int.toNat s) zz9).2.2.2.1, ((((List.length x.2.1) : Nat) : Int), true))) ∧ ∀ y_7 : Bool, y_7 = (among ((List.getD x.2.2.2 (Int.toNat s) zz9).2.2.2.1, ((((List.length x.2.1) : Nat) : Int), true))) →
 (cB (!y_7)
 (KB 0 K KN .ret ⟨(D :: .v (.one (.ptr 0 0)) :: vb false :: D :: .v (.one (.ptr 5 0)) :: D :: .v (.one (.ptr 8 0)) :: D :: D :: D :: D :: D :: D :: D :: D :: D :: D :: D :: D :: D :: D :: D :: D :: D :: D :: D :: D :: D :: D :: .v (.one (.full 4)) :: vi (((List.length x.2.2.2) : Nat) : Int) :: vi s :: vb (decide (s < (((List.length x.2.2.2) : Nat) : Int))) :: .v (.one (.eptr 4 (Int.toNat s) 0)) :: .v (.agg [ci (List.getD x.2.2.2 (Int.toNat s) zz9).1.1, ci (List.getD x.2.2.2 (Int.toNat s) zz9).1.2.1, ci (List.getD x.2.2.2 (Int.toNat s) zz9).1.2.2, ci (List.getD x.2.2.2 (Int.toNat s) zz9).2.1.1, ci (List.getD x.2.2.2 (Int.toNat s) zz9).2.1.2.1, ci (List.getD x.2.2.2 (Int.toNat s) zz9).2.1.2.2, ci (List.getD x.2.2.2 (Int.toNat s) zz9).2.2.1, ci (List.getD x.2.2.2 (Int.toNat s) zz9).2.2.2.1, ci (List.getD x.2.2.2 (Int.toNat s) zz9).2.2.2.2]) :: .v (.agg [ci (List.getD x.2.2.2 (Int.toNat s) zz9).1.1, ci (List.getD x.2.2.2 (Int.toNat s) zz9).1.2.1, ci (List.getD x.2.2.2 (Int.toNat s) zz9).1.2.2, ci (List.getD x.2.2.2 (Int.toNat s) zz9).2.1.1, ci (List.getD x.2.2.2 (Int.toNat s) zz9).2.1.2.1, ci (List.getD x.2.2.2 (Int.toNat s) zz9).2.1.2.2, ci (List.getD x.2.2.2 (Int.toNat s) zz9).2.2.1, ci (List.getD x.2.2.2 (Int.toNat s) zz9).2.2.2.1, ci (List.getD x.2.2.2 (Int.toNat s) zz9).2.2.2.2]) :: vi (2 : Int) :: vb true :: .v (.agg [ci (List.getD x.2.2.2 (Int.toNat s) zz9).2.2.1, ci (List.getD x.2.2.2 (Int.toNat s) zz9).2.2.2.1, ci (List.getD x.2.2.2 (Int.toNat s) zz9).2.2.2.2]) :: .v (.one (.ptr 8 0)) :: vi (List.getD x.2.2.2 (Int.toNat s) zz9).2.2.1 :: .v (.one (.ptr 0 0)) :: .v (.one (.full 1)) :: vi (((List.length x.1) : Nat) : Int) :: vb y_6 :: vb (!y_6) :: vb false :: .v (.one (.ptr 8 1)) :: vi (List.getD x.2.2.2 (Int.toNat s) zz9).2.2.2.1 :: .v (.one (.ptr 0 1)) :: .v (.one (.full 2)) :: vi (((List.length x.2.1) : Nat) : Int) :: vb y_7 :: vb (!y_7) :: vb (!y_7) :: vb true :: und :: und :: und :: und :: und :: und :: und :: vb true :: vb true :: und :: und :: und :: und :: und :: und :: und :: und :: vb true :: vb true :: und :: und :: und :: und :: und :: und :: und :: und :: vb true :: vi (2 : Int) :: D :: []), [.cells [.full 1, .full 2, .full 3, .full 4] 26, .row yy3 x.1 0, .row yy2 x.2.1 0, .row yy3 x.2.2.1 0, .row yy9 x.2.2.2 0, .cells [ci (List.getD x.2.2.2 (Int.toNat s) zz9).1.1, ci (List.getD x.2.2.2 (Int.toNat s) zz9).1.2.1, ci (List.getD x.2.2.2 (Int.toNat s) zz9).1.2.2, ci (List.getD x.2.2.2 (Int.toNat s) zz9).2.1.1, ci (List.getD x.2.2.2 (Int.toNat s) zz9).2.1.2.1, ci (List.getD x.2.2.2 (Int.toNat s) zz9).2.1.2.2, ci (List.getD x.2.2.2 (Int.toNat s) zz9).2.2.1, ci (List.getD x.2.2.2 (Int.toNat s) zz9).2.2.2.1, ci (List.getD x.2.2.2 (Int.toNat s) zz9).2.2.2.2] 72, .cells [ci (List.getD x.2.2.2 (Int.toNat s) zz9).1.1, ci (List.getD x.2.2.2 (Int.toNat s) zz9).1.2.1, ci (List.getD x.2.2.2 (Int.toNat s) zz9).1.2.2] 71, .cells [ci (List.getD x.2.2.2 (Int.toNat s) zz9).2.1.1, ci (List.getD x.2.2.2 (Int.toNat s) zz9).2.1.2.1, ci (List.getD x.2.2.2 (Int.toNat s) zz9).2.1.2.2] 71, .cells [ci (List.getD x.2.2.2 (Int.toNat s) zz9).2.2.1, ci (List.getD x.2.2.2 (Int.toNat s) zz9).2.2.2.1, ci (List.getD x.2.2.2 (Int.toNat s) zz9).2.2.2.2] 71]⟩)
 ((among_pre ((List.getD x.2.2.2 (Int.toNat s) zz9).2.2.2.2, ((((List.length x.2.2.1) : Nat) : Int), true))) ∧ ∀ y_8 : Bool, y_8 = (among ((List.getD x.2.2.2 (Int.toNat s) zz9).2.2.2.2, ((((List.length x.2.2.1) : Nat) : Int), true))) →
 (cB (!y_8)
 (KB 0 K KN .ret ⟨(D :: .v (.one (.ptr 0 0)) :: vb false :: D :: .v (.one (.ptr 5 0)) :: D :: .v (.one (.ptr 8 0)) :: D :: D :: D :: D :: D :: D :: D :: D :: D :: D :: D :: D :: D :: D :: D :: D :: D :: D :: D :: D :: D :: D :: .v (.one (.full 4)) :: vi (((List.length x.2.2.2) : Nat) : Int) :: vi s :: vb (decide (s < (((List.length x.2.2.2) : Nat) : Int))) :: .v (.one (.eptr 4 (Int.toNat s) 0)) :: .v (.agg [ci (List.getD x.2.2.2 (Int.toNat s) zz9).1.1, ci (List.getD x.2.2.2 (Int.toNat s) zz9).1.2.1, ci (List.getD x.2.2.2 (Int.toNat s) zz9).1.2.2, ci (List.getD x.2.2.2 (Int.toNat s) zz9).2.1.1, ci (List.getD x.2.2.2 (Int.toNat s) zz9).2.1.2.1, ci (List.getD x.2.2.2 (Int.toNat s) zz9).2.1.2.2, ci (List.getD x.2.2.2 (Int.toNat s) zz9).2.2.1, ci (List.getD x.2.2.2 (Int.toNat s) zz9).2.2.2.1, ci (List.getD x.2.2.2 (Int.toNat s) zz9).2.2.2.2]) :: .v (.agg [ci (List.getD x.2.2.2 (Int.toNat s) zz9).1.1, ci (List.getD x.2.2.2 (Int.toNat s) zz9).1.2.1, ci (List.getD x.2.2.2 (Int.toNat s) zz9).1.2.2, ci (List.getD x.2.2.2 (Int.toNat s) zz9).2.1.1, ci (List.getD x.2.2.2 (Int.toNat s) zz9).2.1.2.1, ci (List.getD x.2.2.2 (Int.toNat s) zz9).2.1.2.2, ci (List.getD x.2.2.2 (Int.toNat s) zz9).2.2.1, ci (List.getD x.2.2.2 (Int.toNat s) zz9).2.2.2.1, ci (List.getD x.2.2.2 (Int.toNat s) zz9).2.2.2.2]) :: vi (2 : Int) :: vb true :: .v (.agg [ci (List.getD x.2.2.2 (Int.toNat s) zz9).2.2.1, ci (List.getD x.2.2.2 (Int.toNat s) zz9).2.2.2.1, ci (List.getD x.2.2.2 (Int.toNat s) zz9).2.2.2.2]) :: .v (.one (.ptr 8 0)) :: vi (List.getD x.2.2.2 (Int.toNat s) zz9).2.2.1 :: .v (.one (.ptr 0 0)) :: .v (.one (.full 1)) :: vi (((List.length x.1) : Nat) : Int) :: vb y_6 :: vb (!y_6) :: vb false :: .v (.one (.ptr 8 1)) :: vi (List.getD x.2.2.2 (Int.toNat s) zz9).2.2.2.1 :: .v (.one (.ptr 0 1)) :: .v (.one (.full 2)) :: vi (((List.length x.2.1) : Nat) : Int) :: vb y_7 :: vb (!y_7) :: vb (!y_7) :: vb false :: .v (.one (.ptr 8 2)) :: vi (List.getD x.2.2.2 (Int.toNat s) zz9).2.2.2.2 :: .v (.one (.ptr 0 2)) :: .v (.one (.full 3)) :: vi (((List.length x.2.2.1) : Nat) : Int) :: vb y_8 :: vb (!y_8) :: vb (!y_8) :: vb true :: und :: und :: und :: und :: und :: und :: und :: und :: vb true :: vb true :: und :: und :: und :: und :: und :: und :: und :: und :: vb true :: vi (2 : Int) :: D :: []), [.cells [.full 1, .full 2, .full 3, .full 4] 26, .row yy3 x.1 0, .row yy2 x.2.1 0, .row yy3 x.2.2.1 0, .row yy9 x.2.2.2 0, .cells [ci (List.getD x.2.2.2 (Int.toNat s) zz9).1.1, ci (List.getD x.2.2.2 (Int.toNat s) zz9).1.2.1, ci (List.getD x.2.2.2 (Int.toNat s) zz9).1.2.2, ci (List.getD x.2.2.2 (Int.toNat s) zz9).2.1.1, ci (List.getD x.2.2.2 (Int.toNat s) zz9).2.1.2.1, ci (List.getD x.2.2.2 (Int.toNat s) zz9).2.1.2.2, ci (List.getD x.2.2.2 (Int.toNat s) zz9).2.2.1, ci (List.getD x.2.2.2 (Int.toNat s) zz9).2.2.2.1, ci (List.getD x.2.2.2 (Int.toNat s) zz9).2.2.2.2] 72, .cells [ci (List.getD x.2.2.2 (Int.toNat s) zz9).1.1, ci (List.getD x.2.2.2 (Int.toNat s) zz9).1.2.1, ci (List.getD x.2.2.2 (Int.toNat s) zz9).1.2.2] 71, .cells [ci (List.getD x.2.2.2 (Int.toNat s) zz9).2.1.1, ci (List.getD x.2.2.2 (Int.toNat s) zz9).2.1.2.1, ci (List.getD x.2.2.2 (Int.toNat s) zz9).2.1.2.2] 71, .cells [ci (List.getD x.2.2.2 (Int.toNat s) zz9).2.2.1, ci (List.getD x.2.2.2 (Int.toNat s) zz9).2.2.2.1, ci (List.getD x.2.2.2 (Int.toNat s) zz9).2.2.2.2] 71]⟩)
 (cB (!((decide ((List.getD x.2.2.2 (Int.toNat s) zz9).2.2.2.1 < (0 : Int))) == (decide ((List.getD x.2.2.2 (Int.toNat s) zz9).1.2.1 < (0 : Int)))))
 (KB 0 K KN .ret ⟨(D :: .v (.one (.ptr 0 0)) :: vb false :: D :: .v (.one (.ptr 5 0)) :: D :: .v (.one (.ptr 8 0)) :: D :: D :: D :: D :: D :: D :: D :: D :: D :: D :: D :: D :: D :: D :: D :: D :: D :: D :: D :: D :: D :: D :: .v (.one (.full 4)) :: vi (((List.length x.2.2.2) : Nat) : Int) :: vi s :: vb (decide (s < (((List.length x.2.2.2) : Nat) : Int))) :: .v (.one (.eptr 4 (Int.toNat s) 0)) :: .v (.agg [ci (List.getD x.2.2.2 (Int.toNat s) zz9).1.1, ci (List.getD x.2.2.2 (Int.toNat s) zz9).1.2.1, ci (List.getD x.2.2.2 (Int.toNat s) zz9).1.2.2, ci (List.getD x.2.2.2 (Int.toNat s) zz9).2.1.1, ci (List.getD x.2.2.2 (Int.toNat s) zz9).2.1.2.1, ci (List.getD x.2.2.2 (Int.toNat s) zz9).2.1.2.2, ci (List.getD x.2.2.2 (Int.toNat s) zz9).2.2.1, ci (List.getD x.2.2.2 (Int.toNat s) zz9).2.2.2.1, ci (List.getD x.2.2.2 (Int.toNat s) zz9).2.2.2.2]) :: .v (.agg [ci (List.getD x.2.2.2 (Int.toNat s) zz9).1.1, ci (List.getD x.2.2.2 (Int.toNat s) zz9).1.2.1, ci (List.getD x.2.2.2 (Int.toNat s) zz9).1.2.2, ci (List.getD x.2.2.2 (Int.toNat s) zz9).2.1.1, ci (List.getD x.2.2.2 (Int.toNat s) zz9).2.1.2.1, ci (List.getD x.2.2.2 (Int.toNat s) zz9).2.1.2.2, ci (List.getD x.2.2.2 (Int.toNat s) zz9).2.2.1, ci (List.getD x.2.2.2 (Int.toNat s) zz9).2.2.2.1, ci (List.getD x.2.2.2 (Int.toNat s) zz9).2.2.2.2]) :: vi (2 : Int) :: vb true :: .v (.agg [ci (List.getD x.2.2.2 (Int.toNat s) zz9).2.2.1, ci (List.getD x.2.2.2 (Int.toNat s) zz9).2.2.2.1, ci (List.getD x.2.2.2 (Int.toNat s) zz9).2.2.2.2]) :: .v (.one (.ptr 8 0)) :: vi (List.getD x.2.2.2 (Int.toNat s) zz9).2.2.1 :: .v (.one (.ptr 0 0)) :: .v (.one (.full 1)) :: vi (((List.length x.1) : Nat) : Int) :: vb y_6 :: vb (!y_6) :: vb false :: .v (.one (.ptr 8 1)) :: vi (List.getD x.2.2.2 (Int.toNat s) zz9).2.2.2.1 :: .v (.one (.ptr 0 1)) :: .v (.one (.full 2)) :: vi (((List.length x.2.1) : Nat) : Int) :: vb y_7 :: vb (!y_7) :: vb (!y_7) :: vb false :: .v (.one (.ptr 8 2)) :: vi (List.getD x.2.2.2 (Int.toNat s) zz9).2.2.2.2 :: .v (.one (.ptr 0 2)) :: .v (.one (.full 3)) :: vi (((List.length x.2.2.1) : Nat) : Int) :: vb y_8 :: vb (!y_8) :: vb (!y_8) :: vb false :: .v (.one (.ptr 8 1)) :: vi (List.getD x.2.2.2 (Int.toNat s) zz9).2.2.2.1 :: vb (decide ((List.getD x.2.2.2 (Int.toNat s) zz9).2.2.2.1 < (0 : Int))) :: .v (.one (.ptr 5 0)) :: .v (.one (.ptr 5 1)) :: vi (List.getD x.2.2.2 (Int.toNat s) zz9).1.2.1 :: vb (decide ((List.getD x.2.2.2 (Int.toNat s) zz9).1.2.1 < (0 : Int))) :: vb (!((decide ((List.getD x.2.2.2 (Int.toNat s) zz9).2.2.2.1 < (0 : Int))) == (decide ((List.getD x.2.2.2 (Int.toNat s) zz9).1.2.1 < (0 : Int))))) :: vb (!((decide ((List.getD x.2.2.2 (Int.toNat s) zz9).2.2.2.1 < (0 : Int))) == (decide ((List.getD x.2.2.2 (Int.toNat s) zz9).1.2.1 < (0 : Int))))) :: vb true :: und :: und :: und :: und :: und :: und :: und :: und :: vb true :: vi (2 : Int) :: D :: []), [.cells [.full 1, .full 2, .full 3, .full 4] 26, .row yy3 x.1 0, .row yy2 x.2.1 0, .row yy3 x.2.2.1 0, .row yy9 x.2.2.2 0, .cells [ci (List.getD x.2.2.2 (Int.toNat s) zz9).1.1, ci (List.getD x.2.2.2 (Int.toNat s) zz9).1.2.1, ci (List.getD x.2.2.2 (Int.toNat s) zz9).1.2.2, ci (List.getD x.2.2.2 (Int.toNat s) zz9).2.1.1, ci (List.getD x.2.2.2 (Int.toNat s) zz9).2.1.2.1, ci (List.getD x.2.2.2 (Int.toNat s) zz9).2.1.2.2, ci (List.getD x.2.2.2 (Int.toNat s) zz9).2.2.1, ci (List.getD x.2.2.2 (Int.toNat s) zz9).2.2.2.1, ci (List.getD x.2.2.2 (Int.toNat s) zz9).2.2.2.2] 72, .cells [ci (List.getD x.2.2.2 (Int.toNat s) zz9).1.1, ci (List.getD x.2.2.2 (Int.toNat s) zz9).1.2.1, ci (List.getD x.2.2.2 (Int.toNat s) zz9).1.2.2] 71, .cells [ci (List.getD x.2.2.2 (Int.toNat s) zz9).2.1.1, ci (List.getD x.2.2.2 (Int.toNat s) zz9).2.1.2.1, ci (List.getD x.2.2.2 (Int.toNat s) zz9).2.1.2.2] 71, .cells [ci (List.getD x.2.2.2 (Int.toNat s) zz9).2.2.1, ci (List.getD x.2.2.2 (Int.toNat s) zz9).2.2.2.1, ci (List.getD x.2.2.2 (Int.toNat s) zz9).2.2.2.2] 71]⟩)
 (cB (!((decide ((List.getD x.2.2.2 (Int.toNat s) zz9).2.2.2.2 < (0 : Int))) == (decide ((List.getD x.2.2.2 (Int.toNat s) zz9).1.2.2 < (0 : Int)))))
 (KB 0 K KN .ret ⟨(D :: .v (.one (.ptr 0 0)) :: vb false :: D :: .v (.one (.ptr 5 0)) :: D :: .v (.one (.ptr 8 0)) :: D :: D :: D :: D :: D :: D :: D :: D :: D :: D :: D :: D :: D :: D :: D :: D :: D :: D :: D :: D :: D :: D :: .v (.one (.full 4)) :: vi (((List.length x.2.2.2) : Nat) : Int) :: vi s :: vb (decide (s < (((List.length x.2.2.2) : Nat) : Int))) :: .v (.one (.eptr 4 (Int.toNat s) 0)) :: .v (.agg [ci (List.getD x.2.2.2 (Int.toNat s) zz9).1.1, ci (List.getD x.2.2.2 (Int.toNat s) zz9).1.2.1, ci (List.getD x.2.2.2 (Int.toNat s) zz9).1.2.2, ci (List.getD x.2.2.2 (Int.toNat s) zz9).2.1.1, ci (List.getD x.2.2.2 (Int.toNat s) zz9).2.1.2.1, ci (List.getD x.2.2.2 (Int.toNat s) zz9).2.1.2.2, ci (List.getD x.2.2.2 (Int.toNat s) zz9).2.2.1, ci (List.getD x.2.2.2 (Int.toNat s) zz9).2.2.2.1, ci (List.getD x.2.2.2 (Int.toNat s) zz9).2.2.2.2]) :: .v (.agg [ci (List.getD x.2.2.2 (Int.toNat s) zz9).1.1, ci (List.getD x.2.2.2 (Int.toNat s) zz9).1.2.1, ci (List.getD x.2.2.2 (Int.toNat s) zz9).1.2.2, ci (List.getD x.2.2.2 (Int.toNat s) zz9).2.1.1, ci (List.getD x.2.2.2 (Int.toNat s) zz9).2.1.2.1, ci (List.getD x.2.2.2 (Int.toNat s) zz9).2.1.2.2, ci (List.getD x.2.2.2 (Int.toNat s) zz9).2.2.1, ci (List.getD x.2.2.2 (Int.toNat s) zz9).2.2.2.1, ci (List.getD x.2.2.2 (Int.toNat s) zz9).2.2.2.2]) :: vi (2 : Int) :: vb true :: .v (.agg [ci (List.getD x.2.2.2 (Int.toNat s) zz9).2.2.1, ci (List.getD x.2.2.2 (Int.toNat s) zz9).2.2.2.1, ci (List.getD x.2.2.2 (Int.toNat s) zz9).2.2.2.2]) :: .v (.one (.ptr 8 0)) :: vi (List.getD x.2.2.2 (Int.toNat s) zz9).2.2.1 :: .v (.one (.ptr 0 0)) :: .v (.one (.full 1)) :: vi (((List.length x.1) : Nat) : Int) :: vb y_6 :: vb (!y_6) :: vb false :: .v (.one (.ptr 8 1)) :: vi (List.getD x.2.2.2 (Int.toNat s) zz9).2.2.2.1 :: .v (.one (.ptr 0 1)) :: .v (.one (.full 2)) :: vi (((List.length x.2.1) : Nat) : Int) :: vb y_7 :: vb (!y_7) :: vb (!y_7) :: vb false :: .v (.one (.ptr 8 2)) :: vi (List.getD x.2.2.2 (Int.toNat s) zz9).2.2.2.2 :: .v (.one (.ptr 0 2)) :: .v (.one (.full 3)) :: vi (((List.length x.2.2.1) : Nat) : Int) :: vb y_8 :: vb (!y_8) :: vb (!y_8) :: vb false :: .v (.one (.ptr 8 1)) :: vi (List.getD x.2.2.2 (Int.toNat s) zz9).2.2.2.1 :: vb (decide ((List.getD x.2.2.2 (Int.toNat s) zz9).2.2.2.1 < (0 : Int))) :: .v (.one (.ptr 5 0)) :: .v (.one (.ptr 5 1)) :: vi (List.getD x.2.2.2 (Int.toNat s) zz9).1.2.1 :: vb (decide ((List.getD x.2.2.2 (Int.toNat s) zz9).1.2.1 < (0 : Int))) :: vb (!((decide ((List.getD x.2.2.2 (Int.toNat s) zz9).2.2.2.1 < (0 : Int))) == (decide ((List.getD x.2.2.2 (Int.toNat s) zz9).1.2.1 < (0 : Int))))) :: vb (!((decide ((List.getD x.2.2.2 (Int.toNat s) zz9).2.2.2.1 < (0 : Int))) == (decide ((List.getD x.2.2.2 (Int.toNat s) zz9).1.2.1 < (0 : Int))))) :: vb false :: .v (.one (.ptr 8 2)) :: vi (List.getD x.2.2.2 (Int.toNat s) zz9).2.2.2.2 :: vb (decide ((List.getD x.2.2.2 (Int.toNat s) zz9).2.2.2.2 < (0 : Int))) :: .v (.one (.ptr 5 0)) :: .v (.one (.ptr 5 2)) :: vi (List.getD x.2.2.2 (Int.toNat s) zz9).1.2.2 :: vb (decide ((List.getD x.2.2.2 (Int.toNat s) zz9).1.2.2 < (0 : Int))) :: vb (!((decide ((List.getD x.2.2.2 (Int.toNat s) zz9).2.2.2.2 < (0 : Int))) == (decide ((List.getD x.2.2.2 (Int.toNat s) zz9).1.2.2 < (0 : Int))))) :: vb (!((decide ((List.getD x.2.2.2 (Int.toNat s) zz9).2.2.2.2 < (0 : Int))) == (decide ((List.getD x.2.2.2 (Int.toNat s) zz9).1.2.2 < (0 : Int))))) :: vi (2 : Int) :: D :: []), [.cells [.full 1, .full 2, .full 3, .full 4] 26, .row yy3 x.1 0, .row yy2 x.2.1 0, .row yy3 x.2.2.1 0, .row yy9 x.2.2.2 0, .cells [ci (List.getD x.2.2.2 (Int.toNat s) zz9).1.1, ci (List.getD x.2.2.2 (Int.toNat s) zz9).1.2.1, ci (List.getD x.2.2.2 (Int.toNat s) zz9).1.2.2, ci (List.getD x.2.2.2 (Int.toNat s) zz9).2.1.1, ci (List.getD x.2.2.2 (Int.toNat s) zz9).2.1.2.1, ci (List.getD x.2.2.2 (Int.toNat s) zz9).2.1.2.2, ci (List.getD x.2.2.2 (Int.toNat s) zz9).2.2.1, ci (List.getD x.2.2.2 (Int.toNat s) zz9).2.2.2.1, ci (List.getD x.2.2.2 (Int.toNat s) zz9).2.2.2.2] 72, .cells [ci (List.getD x.2.2.2 (Int.toNat s) zz9).1.1, ci (List.getD x.2.2.2 (Int.toNat s) zz9).1.2.1, ci (List.getD x.2.2.2 (Int.toNat s) zz9).1.2.2] 71, .cells [ci (List.getD x.2.2.2 (Int.toNat s) zz9).2.1.1, ci (List.getD x.2.2.2 (Int.toNat s) zz9).2.1.2.1, ci (List.getD x.2.2.2 (Int.toNat s) zz9).2.1.2.2] 71, .cells [ci (List.getD x.2.2.2 (Int.toNat s) zz9).2.2.1, ci (List.getD x.2.2.2 (Int.toNat s) zz9).2.2.2.1, ci (List.getD x.2.2.2 (Int.toNat s) zz9).2.2.2.2] 71]⟩)
 (KB 0 K KN .normal ⟨(D :: .v (.one (.ptr 0 0)) :: D :: D :: .v (.one (.ptr 5 0)) :: D :: .v (.one (.ptr 8 0)) :: D :: D :: D :: D :: D :: D :: D :: D :: D :: D :: D :: D :: D :: D :: D :: D :: D :: D :: D :: D :: D :: D :: .v (.one (.full 4)) :: vi (((List.length x.2.2.2) : Nat) : Int) :: vi (w64 (s + (1 : Int))) :: vb (decide (s < (((List.length x.2.2.2) : Nat) : Int))) :: .v (.one (.eptr 4 (Int.toNat s) 0)) :: .v (.agg [ci (List.getD x.2.2.2 (Int.toNat s) zz9).1.1, ci (List.getD x.2.2.2 (Int.toNat s) zz9).1.2.1, ci (List.getD x.2.2.2 (Int.toNat s) zz9).1.2.2, ci (List.getD x.2.2.2 (Int.toNat s) zz9).2.1.1, ci (List.getD x.2.2.2 (Int.toNat s) zz9).2.1.2.1, ci (List.getD x.2.2.2 (Int.toNat s) zz9).2.1.2.2, ci (List.getD x.2.2.2 (Int.toNat s) zz9).2.2.1, ci (List.getD x.2.2.2 (Int.toNat s) zz9).2.2.2.1, ci (List.getD x.2.2.2 (Int.toNat s) zz9).2.2.2.2]) :: .v (.agg [ci (List.getD x.2.2.2 (Int.toNat s) zz9).1.1, ci (List.getD x.2.2.2 (Int.toNat s) zz9).1.2.1, ci (List.getD x.2.2.2 (Int.toNat s) zz9).1.2.2, ci (List.getD x.2.2.2 (Int.toNat s) zz9).2.1.1, ci (List.getD x.2.2.2 (Int.toNat s) zz9).2.1.2.1, ci (List.getD x.2.2.2 (Int.toNat s) zz9).2.1.2.2, ci (List.getD x.2.2.2 (Int.toNat s) zz9).2.2.1, ci (List.getD x.2.2.2 (Int.toNat s) zz9).2.2.2.1, ci (List.getD x.2.2.2 (Int.toNat s) zz9).2.2.2.2]) :: vi (3 : Int) :: vb false :: .v (.agg [ci (List.getD x.2.2.2 (Int.toNat s) zz9).2.2.1, ci (List.getD x.2.2.2 (Int.toNat s) zz9).2.2.2.1, ci (List.getD x.2.2.2 (Int.toNat s) zz9).2.2.2.2]) :: .v (.one (.ptr 8 0)) :: vi (List.getD x.2.2.2 (Int.toNat s) zz9).2.2.1 :: .v (.one (.ptr 0 0)) :: .v (.one (.full 1)) :: vi (((List.length x.1) : Nat) : Int) :: vb y_6 :: vb (!y_6) :: vb false :: .v (.one (.ptr 8 1)) :: vi (List.getD x.2.2.2 (Int.toNat s) zz9).2.2.2.1 :: .v (.one (.ptr 0 1)) :: .v (.one (.full 2)) :: vi (((List.length x.2.1) : Nat) : Int) :: vb y_7 :: vb (!y_7) :: vb (!y_7) :: vb false :: .v (.one (.ptr 8 2)) :: vi (List.getD x.2.2.2 (Int.toNat s) zz9).2.2.2.2 :: .v (.one (.ptr 0 2)) :: .v (.one (.full 3)) :: vi (((List.length x.2.2.1) : Nat) : Int) :: vb y_8 :: vb (!y_8) :: vb (!y_8) :: vb false :: .v (.one (.ptr 8 1)) :: vi (List.getD x.2.2.2 (Int.toNat s) zz9).2.2.2.1 :: vb (decide ((List.getD x.2.2.2 (Int.toNat s) zz9).2.2.2.1 < (0 : Int))) :: .v (.one (.ptr 5 0)) :: .v (.one (.ptr 5 1)) :: vi (List.getD x.2.2.2 (Int.toNat s) zz9).1.2.1 :: vb (decide ((List.getD x.2.2.2 (Int.toNat s) zz9).1.2.1 < (0 : Int))) :: vb (!((decide ((List.getD x.2.2.2 (Int.toNat s) zz9).2.2.2.1 < (0 : Int))) == (decide ((List.getD x.2.2.2 (Int.toNat s) zz9).1.2.1 < (0 : Int))))) :: vb (!((decide ((List.getD x.2.2.2 (Int.toNat s) zz9).2.2.2.1 < (0 : Int))) == (decide ((List.getD x.2.2.2 (Int.toNat s) zz9).1.2.1 < (0 : Int))))) :: vb false :: .v (.one (.ptr 8 2)) :: vi (List.getD x.2.2.2 (Int.toNat s) zz9).2.2.2.2 :: vb (decide ((List.getD x.2.2.2 (Int.toNat s) zz9).2.2.2.2 < (0 : Int))) :: .v (.one (.ptr 5 0)) :: .v (.one (.ptr 5 2)) :: vi (List.getD x.2.2.2 (Int.toNat s) zz9).1.2.2 :: vb (decide ((List.getD x.2.2.2 (Int.toNat s) zz9).1.2.2 < (0 : Int))) :: vb (!((decide ((List.getD x.2.2.2 (Int.toNat s) zz9).2.2.2.2 < (0 : Int))) == (decide ((List.getD x.2.2.2 (Int.toNat s) zz9).1.2.2 < (0 : Int))))) :: vb (!((decide ((List.getD x.2.2.2 (Int.toNat s) zz9).2.2.2.2 < (0 : Int))) == (decide ((List.getD x.2.2.2 (Int.toNat s) zz9).1.2.2 < (0 : Int))))) :: vi (3 : Int) :: vi (w64 (s + (1 : Int))) :: []), [.cells [.full 1, .full 2, .full 3, .full 4] 26, .row yy3 x.1 0, .row yy2 x.2.1 0, .row yy3 x.2.2.1 0, .row yy9 x.2.2.2 0, .cells [ci (List.getD x.2.2.2 (Int.toNat s) zz9).1.1, ci (List.getD x.2.2.2 (Int.toNat s) zz9).1.2.1, ci (List.getD x.2.2.2 (Int.toNat s) zz9).1.2.2, ci (List.getD x.2.2.2 (Int.toNat s) zz9).2.1.1, ci (List.getD x.2.2.2 (Int.toNat s) zz9).2.1.2.1, ci (List.getD x.2.2.2 (Int.toNat s) zz9).2.1.2.2, ci (List.getD x.2.2.2 (Int.toNat s) zz9).2.2.1, ci (List.getD x.2.2.2 (Int.toNat s) zz9).2.2.2.1, ci (List.getD x.2.2.2 (Int.toNat s) zz9).2.2.2.2] 72, .cells [ci (List.getD x.2.2.2 (Int.toNat s) zz9).1.1, ci (List.getD x.2.2.2 (Int.toNat s) zz9).1.2.1, ci (List.getD x.2.2.2 (Int.toNat s) zz9).1.2.2] 71, .cells [ci (List.getD x.2.2.2 (Int.toNat s) zz9).2.1.1, ci (List.getD x.2.2.2 (Int.toNat s) zz9).2.1.2.1, ci (List.getD x.2.2.2 (Int.toNat s) zz9).2.1.2.2] 71, .cells [ci (List.getD x.2.2.2 (Int.toNat s) zz9).2.2.1, ci (List.getD x.2.2.2 (Int.toNat s) zz9).2.2.2.1, ci (List.getD x.2.2.2 (Int.toNat s) zz9).2.2.2.2] 71]⟩))))))))))))))))))))))))))))
 (KB 0 K KN (.exit 0) ⟨(D :: .v (.one (.ptr 0 0)) :: D :: D :: D :: D :: D :: D :: D :: D :: D :: D :: D :: D :: D :: D :: D :: D :: D :: D :: D :: D :: D :: D :: D :: D :: D :: D :: D :: .v (.one (.full 4)) :: vi (((List.length x.2.2.2) : Nat) : Int) :: vi s :: vb (decide (s < (((List.length x.2.2.2) : Nat) : Int))) :: D :: D :: D :: D :: D :: D :: D :: D :: D :: D :: D :: D :: D :: D :: D :: D :: D :: D :: D :: D :: D :: D :: D :: D :: D :: D :: D :: D :: D :: D :: D :: D :: D :: D :: D :: D :: D :: D :: D :: D :: D :: D :: D :: D :: D :: D :: D :: D :: D :: D :: D :: D :: D :: []), [.cells [.full 1, .full 2, .full 3, .full 4] 26, .row yy3 x.1 0, .row yy2 x.2.1 0, .row yy3 x.2.2.1 0, .row yy9 x.2.2.2 0]⟩)) := by kernel_rfl
theorem meshis_l0_ok (x : ((List (Int × (Int × Int))) × ((List (Int × Int)) × ((List (Int × (Int × Int))) × (List ((Int × (Int × Int)) × ((Int × (Int × Int)) × (Int × (Int × Int))))))))) : ∀ st K, meshis_l0_sp x st K → Vc (codeE ⟨tt, sp_among, noX, ((2, unrolled tt sp_among noX [] [] [] 2 (cI (blk 2 (bodyOf Try.f59))) 4) :: []), [], []⟩ (.loop (cI (blk 0 (bodyOf Try.f59)))) st (wrapB 0 (orWeak K))) := loopSp_okV fun s K KN hp hq => .eq (meshis_l0_vc x s K KN) (have hp := Eq.mp (meshis_l0_pre.eq_1 x s) hp; have hq := Eq.mp (congrArg (stepQ (meshis_l0_tm x) (meshis_l0_out x) K KN) (meshis_l0_step.eq_1 x s)) hq;
 (cB_d (Q := (stepQ (meshis_l0_tm x) (meshis_l0_out x) K KN)) hq (fun c hq => have hp := (hp c); (ob_k (and_t (decide_eq_true hp.1.1) (decide_eq_true hp.1.2)) (have hp := hp.2; (ob_k (decide_eq_true hp.1) (have hp := hp.2; (ob_k (decide_eq_true hp) (And.intro trivial (let_0 (Q := (stepQ (meshis_l0_tm x) (meshis_l0_out x) K KN)) hq fun y hq => (cB_b (Q := (stepQ (meshis_l0_tm x) (meshis_l0_out x) K KN)) hq (fun c hq => (Exists.intro ⟨(D :: D :: vb false :: D :: D :: D :: D :: D :: D :: D :: D :: D :: D :: D :: D :: D :: D :: D :: D :: D :: D :: D :: D :: D :: D :: D :: D :: D :: D :: D :: D :: D :: D :: D :: D :: D :: D :: D :: D :: D :: D :: D :: D :: D :: D :: D :: D :: D :: D :: D :: D :: D :: D :: D :: D :: D :: D :: D :: D :: D :: D :: D :: D :: D :: D :: D :: D :: D :: D :: D :: D :: D :: D :: D :: D :: D :: D :: D :: D :: D :: D :: D :: D :: D :: D :: D :: []), []⟩ (And.intro (ren_ok (π := []) (And.intro rfl trivial) trivial rfl) hq))) (fun c hq => (And.intro trivial (let_0 (Q := (stepQ (meshis_l0_tm x) (meshis_l0_out x) K KN)) hq fun y_1 hq => (cB_b (Q := (stepQ (meshis_l0_tm x) (meshis_l0_out x) K KN)) hq (fun c hq => (Exists.intro ⟨(D :: D :: vb false :: D :: D :: D :: D :: D :: D :: D :: D :: D :: D :: D :: D :: D :: D :: D :: D :: D :: D :: D :: D :: D :: D :: D :: D :: D :: D :: D :: D :: D :: D :: D :: D :: D :: D :: D :: D :: D :: D :: D :: D :: D :: D :: D :: D :: D :: D :: D :: D :: D :: D :: D :: D :: D :: D :: D :: D :: D :: D :: D :: D :: D :: D :: D :: D :: D :: D :: D :: D :: D :: D :: D :: D :: D :: D :: D :: D :: D :: D :: D :: D :: D :: D :: D :: []), []⟩ (And.intro (ren_ok (π := []) (And.intro rfl trivial) trivial rfl) hq))) (fun c hq => (And.intro trivial (let_0 (Q := (stepQ (meshis_l0_tm x) (meshis_l0_out x) K KN)) hq fun y_2 hq => (cB_b (Q := (stepQ (meshis_l0_tm x) (meshis_l0_out x) K KN)) hq (fun c hq => (Exists.intro ⟨(D :: D :: vb false :: D :: D :: D :: D :: D :: D :: D :: D :: D :: D :: D :: D :: D :: D :: D :: D :: D :: D :: D :: D :: D :: D :: D :: D :: D :: D :: D :: D :: D :: D :: D :: D :: D :: D :: D :: D :: D :: D :: D :: D :: D :: D :: D :: D :: D :: D :: D :: D :: D :: D :: D :: D :: D :: D :: D :: D :: D :: D :: D :: D :: D :: D :: D :: D :: D :: D :: D :: D :: D :: D :: D :: D :: D :: D :: D :: D :: D :: D :: D :: D :: D :: D :: D :: []), []⟩ (And.intro (ren_ok (π := []) (And.intro rfl trivial) trivial rfl) hq))) (fun c hq => (cB_b (Q := (stepQ (meshis_l0_tm x) (meshis_l0_out x) K KN)) hq (fun c hq => (Exists.intro ⟨(D :: D :: vb false :: D :: D :: D :: D :: D :: D :: D :: D :: D :: D :: D :: D :: D :: D :: D :: D :: D :: D :: D :: D :: D :: D :: D :: D :: D :: D :: D :: D :: D :: D :: D :: D :: D :: D :: D :: D :: D :: D :: D :: D :: D :: D :: D :: D :: D :: D :: D :: D :: D :: D :: D :: D :: D :: D :: D :: D :: D :: D :: D :: D :: D :: D :: D :: D :: D :: D :: D :: D :: D :: D :: D :: D :: D :: D :: D :: D :: D :: D :: D :: D :: D :: D :: D :: []), []⟩ (And.intro (ren_ok (π := []) (And.intro rfl trivial) trivial rfl) hq))) (fun c hq => (cB_b (Q := (stepQ (meshis_l0_tm x) (meshis_l0_out x) K KN)) hq (fun c hq => (Exists.intro ⟨(D :: D :: vb false :: D :: D :: D :: D :: D :: D :: D :: D :: D :: D :: D :: D :: D :: D :: D :: D :: D :: D :: D :: D :: D :: D :: D :: D :: D :: D :: D :: D :: D :: D :: D :: D :: D :: D :: D :: D :: D :: D :: D :: D :: D :: D :: D :: D :: D :: D :: D :: D :: D :: D :: D :: D :: D :: D :: D :: D :: D :: D :: D :: D :: D :: D :: D :: D :: D :: D :: D :: D :: D :: D :: D :: D :: D :: D :: D :: D :: D :: D :: D :: D :: D :: D :: D :: []), []⟩ (And.intro (ren_ok (π := []) (And.intro rfl trivial) trivial rfl) hq))) (fun c hq => (And.intro trivial (let_0 (Q := (stepQ (meshis_l0_tm x) (meshis_l0_out x) K KN)) hq fun y_3 hq => (cB_b (Q := (stepQ (meshis_l0_tm x) (meshis_l0_out x) K KN)) hq (fun c hq => (Exists.intro ⟨(D :: D :: vb false :: D :: D :: D :: D :: D :: D :: D :: D :: D :: D :: D :: D :: D :: D :: D :: D :: D :: D :: D :: D :: D :: D :: D :: D :: D :: D :: D :: D :: D :: D :: D :: D :: D :: D :: D :: D :: D :: D :: D :: D :: D :: D :: D :: D :: D :: D :: D :: D :: D :: D :: D :: D :: D :: D :: D :: D :: D :: D :: D :: D :: D :: D :: D :: D :: D :: D :: D :: D :: D :: D :: D :: D :: D :: D :: D :: D :: D :: D :: D :: D :: D :: D :: D :: []), []⟩ (And.intro (ren_ok (π := []) (And.intro rfl trivial) trivial rfl) hq))) (fun c hq => (And.intro trivial (let_0 (Q := (stepQ (meshis_l0_tm x) (meshis_l0_out x) K KN)) hq fun y_4 hq => (cB_b (Q := (stepQ (meshis_l0_tm x) (meshis_l0_out x) K KN)) hq (fun c hq => (Exists.intro ⟨(D :: D :: vb false :: D :: D :: D :: D :: D :: D :: D :: D :: D :: D :: D :: D :: D :: D :: D :: D :: D :: D :: D :: D :: D :: D :: D :: D :: D :: D :: D :: D :: D :: D :: D :: D :: D :: D :: D :: D :: D :: D :: D :: D :: D :: D :: D :: D :: D :: D :: D :: D :: D :: D :: D :: D :: D :: D :: D :: D :: D :: D :: D :: D :: D :: D :: D :: D :: D :: D :: D :: D :: D :: D :: D :: D :: D :: D :: D :: D :: D :: D :: D :: D :: D :: D :: D :: []), []⟩ (And.intro (ren_ok (π := []) (And.intro rfl trivial) trivial rfl) hq))) (fun c hq => (And.intro trivial (let_0 (Q := (stepQ (meshis_l0_tm x) (meshis_l0_out x) K KN)) hq fun y_5 hq => (cB_b (Q := (stepQ (meshis_l0_tm x) (meshis_l0_out x) K KN)) hq (fun c hq => (Exists.intro ⟨(D :: D :: vb false :: D :: D :: D :: D :: D :: D :: D :: D :: D :: D :: D :: D :: D :: D :: D :: D :: D :: D :: D :: D :: D :: D :: D :: D :: D :: D :: D :: D :: D :: D :: D :: D :: D :: D :: D :: D :: D :: D :: D :: D :: D :: D :: D :: D :: D :: D :: D :: D :: D :: D :: D :: D :: D :: D :: D :: D :: D :: D :: D :: D :: D :: D :: D :: D :: D :: D :: D :: D :: D :: D :: D :: D :: D :: D :: D :: D :: D :: D :: D :: D :: D :: D :: D :: []), []⟩ (And.intro (ren_ok (π := []) (And.intro rfl trivial) trivial rfl) hq))) (fun c hq => (cB_b (Q := (stepQ (meshis_l0_tm x) (meshis_l0_out x) K KN)) hq (fun c hq => (Exists.intro ⟨(D :: D :: vb false :: D :: D :: D :: D :: D :: D :: D :: D :: D :: D :: D :: D :: D :: D :: D :: D :: D :: D :: D :: D :: D :: D :: D :: D :: D :: D :: D :: D :: D :: D :: D :: D :: D :: D :: D :: D :: D :: D :: D :: D :: D :: D :: D :: D :: D :: D :: D :: D :: D :: D :: D :: D :: D :: D :: D :: D :: D :: D :: D :: D :: D :: D :: D :: D :: D :: D :: D :: D :: D :: D :: D :: D :: D :: D :: D :: D :: D :: D :: D :: D :: D :: D :: D :: []), []⟩ (And.intro (ren_ok (π := []) (And.intro rfl trivial) trivial rfl) hq))) (fun c hq => (cB_b (Q := (stepQ (meshis_l0_tm x) (meshis_l0_out x) K KN)) hq (fun c hq => (Exists.intro ⟨(D :: D :: vb false :: D :: D :: D :: D :: D :: D :: D :: D :: D :: D :: D :: D :: D :: D :: D :: D :: D :: D :: D :: D :: D :: D :: D :: D :: D :: D :: D :: D :: D :: D :: D :: D :: D :: D :: D :: D :: D :: D :: D :: D :: D :: D :: D :: D :: D :: D :: D :: D :: D :: D :: D :: D :: D :: D :: D :: D :: D :: D :: D :: D :: D :: D :: D :: D :: D :: D :: D :: D :: D :: D :: D :: D :: D :: D :: D :: D :: D :: D :: D :: D :: D :: D :: D :: []), []⟩ (And.intro (ren_ok (π := []) (And.intro rfl trivial) trivial rfl) hq))) (fun c hq => (And.intro trivial (let_0 (Q := (stepQ (meshis_l0_tm x) (meshis_l0_out x) K KN)) hq fun y_6 hq => (cB_b (Q := (stepQ (meshis_l0_tm x) (meshis_l0_out x) K KN)) hq (fun c hq => (Exists.intro ⟨(D :: D :: vb false :: D :: D :: D :: D :: D :: D :: D :: D :: D :: D :: D :: D :: D :: D :: D :: D :: D :: D :: D :: D :: D :: D :: D :: D :: D :: D :: D :: D :: D :: D :: D :: D :: D :: D :: D :: D :: D :: D :: D :: D :: D :: D :: D :: D :: D :: D :: D :: D :: D :: D :: D :: D :: D :: D :: D :: D :: D :: D :: D :: D :: D :: D :: D :: D :: D :: D :: D :: D :: D :: D :: D :: D :: D :: D :: D :: D :: D :: D :: D :: D :: D :: D :: D :: []), []⟩ (And.intro (ren_ok (π := []) (And.intro rfl trivial) trivial rfl) hq))) (fun c hq => (And.intro trivial (let_0 (Q := (stepQ (meshis_l0_tm x) (meshis_l0_out x) K KN)) hq fun y_7 hq => (cB_b (Q := (stepQ (meshis_l0_tm x) (meshis_l0_out x) K KN)) hq (fun c hq => (Exists.intro ⟨(D :: D :: vb false :: D :: D :: D :: D :: D :: D :: D :: D :: D :: D :: D :: D :: D :: D :: D :: D :: D :: D :: D :: D :: D :: D :: D :: D :: D :: D :: D :: D :: D :: D :: D :: D :: D :: D :: D :: D :: D :: D :: D :: D :: D :: D :: D :: D :: D :: D :: D :: D :: D :: D :: D :: D :: D :: D :: D :: D :: D :: D :: D :: D :: D :: D :: D :: D :: D :: D :: D :: D :: D :: D :: D :: D :: D :: D :: D :: D :: D :: D :: D :: D :: D :: D :: D :: []), []⟩ (And.intro (ren_ok (π := []) (And.intro rfl trivial) trivial rfl) hq))) (fun c hq => (And.intro trivial (let_0 (Q := (stepQ (meshis_l0_tm x) (meshis_l0_out x) K KN)) hq fun y_8 hq => (cB_b (Q := (stepQ (meshis_l0_tm x) (meshis_l0_out x) K KN)) hq (fun c hq => (Exists.intro ⟨(D :: D :: vb false :: D :: D :: D :: D :: D :: D :: D :: D :: D :: D :: D :: D :: D :: D :: D :: D :: D :: D :: D :: D :: D :: D :: D :: D :: D :: D :: D :: D :: D :: D :: D :: D :: D :: D :: D :: D :: D :: D :: D :: D :: D :: D :: D :: D :: D :: D :: D :: D :: D :: D :: D :: D :: D :: D :: D :: D :: D :: D :: D :: D :: D :: D :: D :: D :: D :: D :: D :: D :: D :: D :: D :: D :: D :: D :: D :: D :: D :: D :: D :: D :: D :: D :: D :: []), []⟩ (And.intro (ren_ok (π := []) (And.intro rfl trivial) trivial rfl) hq))) (fun c hq => (cB_b (Q := (stepQ (meshis_l0_tm x) (meshis_l0_out x) K KN)) hq (fun c hq => (Exists.intro ⟨(D :: D :: vb false :: D :: D :: D :: D :: D :: D :: D :: D :: D :: D :: D :: D :: D :: D :: D :: D :: D :: D :: D :: D :: D :: D :: D :: D :: D :: D :: D :: D :: D :: D :: D :: D :: D :: D :: D :: D :: D :: D :: D :: D :: D :: D :: D :: D :: D :: D :: D :: D :: D :: D :: D :: D :: D :: D :: D :: D :: D :: D :: D :: D :: D :: D :: D :: D :: D :: D :: D :: D :: D :: D :: D :: D :: D :: D :: D :: D :: D :: D :: D :: D :: D :: D :: D :: []), []⟩ (And.intro (ren_ok (π := []) (And.intro rfl trivial) trivial rfl) hq))) (fun c hq => (cB_b (Q := (stepQ (meshis_l0_tm x) (meshis_l0_out x) K KN)) hq (fun c hq => (Exists.intro ⟨(D :: D :: vb false :: D :: D :: D :: D :: D :: D :: D :: D :: D :: D :: D :: D :: D :: D :: D :: D :: D :: D :: D :: D :: D :: D :: D :: D :: D :: D :: D :: D :: D :: D :: D :: D :: D :: D :: D :: D :: D :: D :: D :: D :: D :: D :: D :: D :: D :: D :: D :: D :: D :: D :: D :: D :: D :: D :: D :: D :: D :: D :: D :: D :: D :: D :: D :: D :: D :: D :: D :: D :: D :: D :: D :: D :: D :: D :: D :: D :: D :: D :: D :: D :: D :: D :: D :: []), []⟩ (And.intro (ren_ok (π := []) (And.intro rfl trivial) trivial rfl) hq))) (fun c hq => (Exists.intro (meshis_l0_tm x (w64 (s + (1 : Int)))) (And.intro (ren_ok (π := [.same 0, .same 1, .same 2, .same 3, .same 4]) (And.intro rfl (And.intro rfl (And.intro rfl (And.intro rfl trivial)))) (And.intro (ren_same rfl rfl) (And.intro (ren_same rfl rfl) (And.intro (ren_same rfl rfl) (And.intro (ren_same rfl rfl) (And.intro (ren_same rfl rfl) trivial))))) rfl) hq)))))))))))))))))))))))))))))))))))))))))))))))))))))))) (fun c hq => (Exists.intro ⟨(D :: D :: D :: D :: D :: D :: D :: D :: D :: D :: D :: D :: D :: D :: D :: D :: D :: D :: D :: D :: D :: D :: D :: D :: D :: D :: D :: D :: D :: D :: D :: D :: D :: D :: D :: D :: D :: D :: D :: D :: D :: D :: D :: D :: D :: D :: D :: D :: D :: D :: D :: D :: D :: D :: D :: D :: D :: D :: D :: D :: D :: D :: D :: D :: D :: D :: D :: D :: D :: D :: D :: D :: D :: D :: D :: D :: D :: D :: D :: D :: D :: D :: D :: D :: D :: D :: []), []⟩ (And.intro (ren_ok (π := []) trivial trivial rfl) hq)))))
noncomputable def meshis (x : ((List (Int × (Int × Int))) × ((List (Int × Int)) × ((List (Int × (Int × Int))) × (List ((Int × (Int × Int)) × ((Int × (Int × Int)) × (Int × (Int × Int))))))))) : Bool :=
 (letV (mfew x) fun y =>
 (if ((!y) = true) then
 false else
 (letV (is3 x.1) fun y_1 =>
 (if ((!y_1) = true) then
 false else
 (letV (is2 x.2.1) fun y_2 =>
 (if ((!y_2) = true) then
 false else
 (letV (is3 x.2.2.1) fun y_3 =>
 (if ((!y_3) = true) then
 false else
 (letV (run (meshis_l0_step x) (0 : Int)) fun r =>
 (Sum.elim (fun a =>
 false) (fun b =>
 true) r))))))))))
noncomputable def meshis_pre (x : ((List (Int × (Int × Int))) × ((List (Int × Int)) × ((List (Int × (Int × Int))) × (List ((Int × (Int × Int)) × ((Int × (Int × Int)) × (Int × (Int × Int))))))))) : Prop :=
 (letP (mfew x) fun y =>
 (¬ ((!y) = true) →
 ((is3_pre x.1) ∧
 letP (is3 x.1) fun y_1 =>
 (¬ ((!y_1) = true) →
 ((is2_pre x.2.1) ∧
 letP (is2 x.2.1) fun y_2 =>
 (¬ ((!y_2) = true) →
 ((is3_pre x.2.2.1) ∧
 letP (is3 x.2.2.1) fun y_3 =>
 (¬ ((!y_3) = true) →
 (Term (meshis_l0_step x) (meshis_l0_pre x) (0 : Int))))))))))
theorem meshis_vc (x : ((List (Int × (Int × Int))) × ((List (Int × Int)) × ((List (Int × (Int × Int))) × (List ((Int × (Int × Int)) × ((Int × (Int × Int)) × (Int × (Int × Int))))))))) (Q : Bool → Prop) : fnE ⟨tt, sp_among, noX, ((0, meshis_l0_sp x) :: ((2, unrolled tt sp_among noX [] [] [] 2 (cI (blk 2 (bodyOf Try.f59))) 4) :: [])), [], []⟩ Try.f59 (argsE (.agg (Ty.prod (Ty.sl yy3) (Ty.prod (Ty.sl yy2) (Ty.prod (Ty.sl yy3) (Ty.sl yy9))))) x) (heapE (.agg (Ty.prod (Ty.sl yy3) (Ty.prod (Ty.sl yy2) (Ty.prod (Ty.sl yy3) (Ty.sl yy9))))) x) (retE (.one Ty.bool) Q) =
 ((mfew_pre x) ∧ ∀ y : Bool, y = (mfew x) →
 (cB (!y)
 (Q false)
 ((is3_pre x.1) ∧ ∀ y_1 : Bool, y_1 = (is3 x.1) →
 (cB (!y_1)
 (Q false)
 ((is2_pre x.2.1) ∧ ∀ y_2 : Bool, y_2 = (is2 x.2.1) →
 (cB (!y_2)
 (Q false)
 ((is3_pre x.2.2.1) ∧ ∀ y_3 : Bool, y_3 = (is3 x.2.2.1) →
 (cB (!y_3)
 (Q false)
 (Exists fun s0 : Int => Weak ⟨(.v (.agg [.full 0, .full 1, .full 2, .full 3]) :: .v (.one (.ptr 4 0)) :: vb false :: und :: und :: und :: und :: .v (.agg [.full 0, .full 1, .full 2, .full 3]) :: vb y :: vb (!y) :: vb false :: .v (.one (.ptr 4 0)) :: .v (.one (.full 0)) :: vb y_1 :: vb (!y_1) :: vb (!y_1) :: vb false :: .v (.one (.ptr 4 1)) :: .v (.one (.full 1)) :: vb y_2 :: vb (!y_2) :: vb (!y_2) :: vb false :: .v (.one (.ptr 4 2)) :: .v (.one (.full 2)) :: vb y_3 :: vb (!y_3) :: vb (!y_3) :: .v (.one (.ptr 4 3)) :: .v (.one (.full 3)) :: vi (((List.length x.2.2.2) : Nat) : Int) :: vi (0 : Int) :: und :: und :: und :: und :: und :: und :: und :: und :: und :: und :: und :: und :: und :: und :: und :: und :: und :: und :: und :: und :: und :: und :: und :: und :: und :: und :: und :: und :: und :: und :: und :: und :: und :: und :: und :: und :: und :: und :: und :: und :: und :: und :: und :: und :: und :: und :: und :: und :: und :: und :: und :: und :: und :: und :: []), [.row yy3 x.1 0, .row yy2 x.2.1 0, .row yy3 x.2.2.1 0, .row yy9 x.2.2.2 0, .cells [.full 0, .full 1, .full 2, .full 3] 26]⟩ (meshis_l0_tm x s0) ∧ Term (meshis_l0_step x) (meshis_l0_pre x) s0 ∧ ∀ r : (Unit ⊕ Unit), r = run (meshis_l0_step x) s0 →
 (cS r (fun a =>
 (Q false)) (fun b =>
 (Q true)))))))))))) := by kernel_rfl
theorem meshis_fn (x : ((List (Int × (Int × Int))) × ((List (Int × Int)) × ((List (Int × (Int × Int))) × (List ((Int × (Int × Int)) × ((Int × (Int × Int)) × (Int × (Int × Int))))))))) (Q : Bool → Prop) (hp : meshis_pre x) (hq : Q (meshis x)) : Vc (fnE ⟨tt, sp_among, noX, ((0, meshis_l0_sp x) :: ((2, unrolled tt sp_among noX [] [] [] 2 (cI (blk 2 (bodyOf Try.f59))) 4) :: [])), [], []⟩ Try.f59 (argsE (.agg (Ty.prod (Ty.sl yy3) (Ty.prod (Ty.sl yy2) (Ty.prod (Ty.sl yy3) (Ty.sl yy9))))) x) (heapE (.agg (Ty.prod (Ty.sl yy3) (Ty.prod (Ty.sl yy2) (Ty.prod (Ty.sl yy3) (Ty.sl yy9))))) x) (retE (.one Ty.bool) Q)) := .eq (meshis_vc x Q) (have hp := Eq.mp (meshis_pre.eq_1 x) hp; have hq := Eq.mp (congrArg Q (meshis.eq_1 x)) hq;
 (And.intro trivial (let_k (Q := Q) hp hq fun y hp hq => (cB_b (Q := Q) hq (fun c hq => hq) (fun c hq => have hp := (hp c); (And.intro hp.1 (let_k (Q := Q) hp.2 hq fun y_1 hp hq => (cB_b (Q := Q) hq (fun c hq => hq) (fun c hq => have hp := (hp c); (And.intro hp.1 (let_k (Q := Q) hp.2 hq fun y_2 hp hq => (cB_b (Q := Q) hq (fun c hq => hq) (fun c hq => have hp := (hp c); (And.intro hp.1 (let_k (Q := Q) hp.2 hq fun y_3 hp hq => (cB_b (Q := Q) hq (fun c hq => hq) (fun c hq => have hp := (hp c); (Exists.intro (0 : Int) (And.intro (ren_ok (π := [.same 4, .same 0, .same 1, .same 2, .same 3]) (And.intro rfl (And.intro rfl (And.intro rfl (And.intro rfl trivial)))) (And.intro (ren_same rfl rfl) (And.intro (ren_same rfl rfl) (And.intro (ren_same rfl rfl) (And.intro (ren_same rfl rfl) (And.intro (ren_same rfl rfl) trivial))))) rfl) (And.intro hp (let_0 (Q := Q) hq fun r hq => (cS_k (Q := Q) (P := fun _ => True) (P' := fun _ => True) (by cases r <;> trivial) hq (fun a _ hq => hq) (fun b _ hq => hq)))))))))))))))))))))))
noncomputable def meshis_S : FnS := ⟨(.agg (Ty.prod (Ty.sl yy3) (Ty.prod (Ty.sl yy2) (Ty.prod (Ty.sl yy3) (Ty.sl yy9))))), (.one Ty.bool), meshis_pre, meshis⟩
theorem meshis_ok : SpecOk Try.prog 59 (fnSpec meshis_S) := SpecOk.fnT' (fn := Try.f59) tt_ok sp_among_ok mixed (by kernel_rfl) (by kernel_rfl) (.agg (Ty.prod (Ty.sl yy3) (Ty.prod (Ty.sl yy2) (Ty.prod (Ty.sl yy3) (Ty.sl yy9))))) (.one Ty.bool) meshis_pre meshis (by kernel_rfl) fun x hp => ⟨_, _, (ItsOk.nil _ _), (LpsOk.consV tt_ok (SpecsOk.ctxI sp_among_ok (ItsOk.nil _ _)) mixed (LpsOk.unroll tt_ok (SpecsOk.ctxI sp_among_ok (ItsOk.nil _ _)) mixed _ LpsOk.nil (by kernel_rfl) (by kernel_rfl)) (by kernel_rfl) (by kernel_rfl) (meshis_l0_ok x)), meshis_fn x (fun y => y = meshis x) hp rfl⟩
def sp_meshis : List (Nat × Ev.Spec) := (59, fnSpec meshis_S) :: sp_among
theorem sp_meshis_ok : SpecsOk Try.prog sp_meshis := SpecsOk.cons (Enters.of (fn := Try.f59) (by kernel_rfl) (by kernel_rfl) (by kernel_rfl)) meshis_ok sp_among_ok
noncomputable def far (x : (Int × (Int × Int))) : Bool :=
 (if ((maxI (maxI x.1 x.2.1) x.2.2) > (4096 : Int)) then
 true else
 (decide ((minI (minI x.1 x.2.1) x.2.2) < (-4096 : Int))))
noncomputable def far_pre (_ : (Int × (Int × Int))) : Prop := True
theorem far_vc (x : (Int × (Int × Int))) (Q : Bool → Prop) : fnE ⟨tt, sp_meshis, noX, [], [], []⟩ Try.f61 (argsE (.agg yy3) x) (heapE (.agg yy3) x) (retE (.one Ty.bool) Q) =
 (cB (decide ((maxI (maxI x.1 x.2.1) x.2.2) > (4096 : Int)))
 (Q true)
 (Q (decide ((minI (minI x.1 x.2.1) x.2.2) < (-4096 : Int))))) := by kernel_rfl
theorem far_fn (x : (Int × (Int × Int))) (Q : Bool → Prop) (hp : far_pre x) (hq : Q (far x)) : Vc (fnE ⟨tt, sp_meshis, noX, [], [], []⟩ Try.f61 (argsE (.agg yy3) x) (heapE (.agg yy3) x) (retE (.one Ty.bool) Q)) := .eq (far_vc x Q) (have hp := Eq.mp (far_pre.eq_1 x) hp; have hq := Eq.mp (congrArg Q (far.eq_1 x)) hq;
 (cB_d (Q := Q) hq (fun c hq => hq) (fun c hq => hq)))
noncomputable def far_S : FnS := ⟨(.agg yy3), (.one Ty.bool), far_pre, far⟩
theorem far_ok : SpecOk Try.prog 61 (fnSpec far_S) := SpecOk.fnT' (fn := Try.f61) tt_ok sp_meshis_ok mixed (by kernel_rfl) (by kernel_rfl) (.agg yy3) (.one Ty.bool) far_pre far (by kernel_rfl) fun x hp => ⟨_, _, (ItsOk.nil _ _), LpsOk.nil, far_fn x (fun y => y = far x) hp rfl⟩
def sp_far : List (Nat × Ev.Spec) := (61, fnSpec far_S) :: sp_meshis
theorem sp_far_ok : SpecsOk Try.prog sp_far := SpecsOk.cons (Enters.of (fn := Try.f61) (by kernel_rfl) (by kernel_rfl) (by kernel_rfl)) far_ok sp_meshis_ok
noncomputable def fsize (x : Int) : (Int × Int) :=
 (if (x < (0 : Int)) then
 ((0 : Int), (5 : Int)) else
 (if (x > (4096 : Int)) then
 ((0 : Int), (5 : Int)) else
 ((w64 ((w64 (Int.tdiv x (16 : Int))) + (1 : Int))), (0 : Int))))
noncomputable def fsize_pre (_ : Int) : Prop := True
theorem fsize_vc (x : Int) (Q : (Int × Int) → Prop) : fnE ⟨tt, sp_far, noX, [], [], []⟩ Try.f26 (argsE (.one yi) x) (heapE (.one yi) x) (retE (.pair (.one yi) (.one yi)) Q) =
 (cB (decide (x < (0 : Int)))
 (Q ((0 : Int), (5 : Int)))
 (cB (decide (x > (4096 : Int)))
 (Q ((0 : Int), (5 : Int)))
 (Q ((w64 ((w64 (Int.tdiv x (16 : Int))) + (1 : Int))), (0 : Int))))) := by kernel_rfl
theorem fsize_fn (x : Int) (Q : (Int × Int) → Prop) (hp : fsize_pre x) (hq : Q (fsize x)) : Vc (fnE ⟨tt, sp_far, noX, [], [], []⟩ Try.f26 (argsE (.one yi) x) (heapE (.one yi) x) (retE (.pair (.one yi) (.one yi)) Q)) := .eq (fsize_vc x Q) (have hp := Eq.mp (fsize_pre.eq_1 x) hp; have hq := Eq.mp (congrArg Q (fsize.eq_1 x)) hq;
 (cB_d (Q := Q) hq (fun c hq => hq) (fun c hq => (cB_d (Q := Q) hq (fun c hq => hq) (fun c hq => hq)))))
noncomputable def fsize_S : FnS := ⟨(.one yi), (.pair (.one yi) (.one yi)), fsize_pre, fsize⟩
theorem fsize_ok : SpecOk Try.prog 26 (fnSpec fsize_S) := SpecOk.fnT' (fn := Try.f26) tt_ok sp_far_ok mixed (by kernel_rfl) (by kernel_rfl) (.one yi) (.pair (.one yi) (.one yi)) fsize_pre fsize (by kernel_rfl) fun x hp => ⟨_, _, (ItsOk.nil _ _), LpsOk.nil, fsize_fn x (fun y => y = fsize x) hp rfl⟩
def sp_fsize : List (Nat × Ev.Spec) := (26, fnSpec fsize_S) :: sp_far
theorem sp_fsize_ok : SpecsOk Try.prog sp_fsize := SpecsOk.cons (Enters.of (fn := Try.f26) (by kernel_rfl) (by kernel_rfl) (by kernel_rfl)) fsize_ok sp_far_ok
noncomputable def fsizes (x : (Int × Int)) : (Int × Int) :=
 (letV (fsize x.1) fun y =>
 (letV (fsize x.2) fun y_1 =>
 (y.1, y_1.1)))
noncomputable def fsizes_pre (_ : (Int × Int)) : Prop := True
theorem fsizes_vc (x : (Int × Int)) (Q : (Int × Int) → Prop) : fnE ⟨tt, sp_fsize, noX, [], [], []⟩ Try.f24 (argsE (.agg yy2) x) (heapE (.agg yy2) x) (retE (.pair (.one yi) (.one yi)) Q) =
 ((fsize_pre x.1) ∧ ∀ y : (Int × Int), y = (fsize x.1) →
 ((fsize_pre x.2) ∧ ∀ y_1 : (Int × Int), y_1 = (fsize x.2) →
 (Q (y.1, y_1.1)))) := by kernel_rfl
theorem fsizes_fn (x : (Int × Int)) (Q : (Int × Int) → Prop) (hp : fsizes_pre x) (hq : Q (fsizes x)) : Vc (fnE ⟨tt, sp_fsize, noX, [], [], []⟩ Try.f24 (argsE (.agg yy2) x) (heapE (.agg yy2) x) (retE (.pair (.one yi) (.one yi)) Q)) := .eq (fsizes_vc x Q) (have hp := Eq.mp (fsizes_pre.eq_1 x) hp; have hq := Eq.mp (congrArg Q (fsizes.eq_1 x)) hq;
 (And.intro trivial (let_0 (Q := Q) hq fun y hq => (And.intro trivial (let_0 (Q := Q) hq fun y_1 hq => hq)))))
noncomputable def fsizes_S : FnS := ⟨(.agg yy2), (.pair (.one yi) (.one yi)), fsizes_pre, fsizes⟩
theorem fsizes_ok : SpecOk Try.prog 24 (fnSpec fsizes_S) := SpecOk.fnT' (fn := Try.f24) tt_ok sp_fsize_ok mixed (by kernel_rfl) (by kernel_rfl) (.agg yy2) (.pair (.one yi) (.one yi)) fsizes_pre fsizes (by kernel_rfl) fun x hp => ⟨_, _, (ItsOk.nil _ _), LpsOk.nil, fsizes_fn x (fun y => y = fsizes x) hp rfl⟩
def sp_fsizes : List (Nat × Ev.Spec) := (24, fnSpec fsizes_S) :: sp_fsize
theorem sp_fsizes_ok : SpecsOk Try.prog sp_fsizes := SpecsOk.cons (Enters.of (fn := Try.f24) (by kernel_rfl) (by kernel_rfl) (by kernel_rfl)) fsizes_ok sp_fsize_ok
end Go.Proofs.Ytpbbnoggkbfkoaa
