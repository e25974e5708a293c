/- Models of the law's functions that need no reference. -/
import Derived.Test.YtpbbnoggkbfkoaaFf
namespace Go.Proofs.Ytpbbnoggkbfkoaa
open Go Go.Ev Go.Proofs
set_option linter.unusedVariables false
noncomputable def r14few (x : ((List (Int × (Int × Int))) × ((List (Int × Int)) × ((List (Int × (Int × Int))) × (List ((Int × (Int × Int)) × ((Int × (Int × Int)) × (Int × (Int × Int))))))))) : Bool :=
 (if ((((List.length x.1) : Nat) : Int) ≤ (20 : Int)) then
 (if ((((List.length x.2.1) : Nat) : Int) ≤ (60 : Int)) then
 (if ((((List.length x.2.2.1) : Nat) : Int) ≤ (60 : Int)) then
 (decide ((((List.length x.2.2.2) : Nat) : Int) ≤ (20 : Int))) else
 false) else
 false) else
 false)
noncomputable def r14few_pre (_ : ((List (Int × (Int × Int))) × ((List (Int × Int)) × ((List (Int × (Int × Int))) × (List ((Int × (Int × Int)) × ((Int × (Int × Int)) × (Int × (Int × Int))))))))) : Prop := True
theorem r14few_vc (x : ((List (Int × (Int × Int))) × ((List (Int × Int)) × ((List (Int × (Int × Int))) × (List ((Int × (Int × Int)) × ((Int × (Int × Int)) × (Int × (Int × Int))))))))) (Q : Bool → Prop) : fnE ⟨tt, sp_fmove, noX, [], [], []⟩ Try.f19 (argsE (.agg (Ty.prod (Ty.sl yy3) (Ty.prod (Ty.sl yy2) (Ty.prod (Ty.sl yy3) (Ty.sl yy9))))) x) (heapE (.agg (Ty.prod (Ty.sl yy3) (Ty.prod (Ty.sl yy2) (Ty.prod (Ty.sl yy3) (Ty.sl yy9))))) x) (retE (.one Ty.bool) Q) =
 (cB (decide ((((List.length x.1) : Nat) : Int) ≤ (20 : Int)))
 (cB (decide ((((List.length x.2.1) : Nat) : Int) ≤ (60 : Int)))
 (cB (decide ((((List.length x.2.2.1) : Nat) : Int) ≤ (60 : Int)))
 (Q (decide ((((List.length x.2.2.2) : Nat) : Int) ≤ (20 : Int))))
 (Q false))
 (Q false))
 (Q false)) := by kernel_rfl
theorem r14few_fn (x : ((List (Int × (Int × Int))) × ((List (Int × Int)) × ((List (Int × (Int × Int))) × (List ((Int × (Int × Int)) × ((Int × (Int × Int)) × (Int × (Int × Int))))))))) (Q : Bool → Prop) (hp : r14few_pre x) (hq : Q (r14few x)) : Vc (fnE ⟨tt, sp_fmove, noX, [], [], []⟩ Try.f19 (argsE (.agg (Ty.prod (Ty.sl yy3) (Ty.prod (Ty.sl yy2) (Ty.prod (Ty.sl yy3) (Ty.sl yy9))))) x) (heapE (.agg (Ty.prod (Ty.sl yy3) (Ty.prod (Ty.sl yy2) (Ty.prod (Ty.sl yy3) (Ty.sl yy9))))) x) (retE (.one Ty.bool) Q)) := .eq (r14few_vc x Q) (have hp := Eq.mp (r14few_pre.eq_1 x) hp; have hq := Eq.mp (congrArg Q (r14few.eq_1 x)) hq;
 (cB_d (Q := Q) hq (fun c hq => (cB_d (Q := Q) hq (fun c hq => (cB_d (Q := Q) hq (fun c hq => hq) (fun c hq => hq))) (fun c hq => hq))) (fun c hq => hq)))
noncomputable def r14few_S : FnS := ⟨(.agg (Ty.prod (Ty.sl yy3) (Ty.prod (Ty.sl yy2) (Ty.prod (Ty.sl yy3) (Ty.sl yy9))))), (.one Ty.bool), r14few_pre, r14few⟩
theorem r14few_ok : SpecOk Try.prog 19 (fnSpec r14few_S) := SpecOk.fnT' (fn := Try.f19) tt_ok sp_fmove_ok mixed (by kernel_rfl) (by kernel_rfl) (.agg (Ty.prod (Ty.sl yy3) (Ty.prod (Ty.sl yy2) (Ty.prod (Ty.sl yy3) (Ty.sl yy9))))) (.one Ty.bool) r14few_pre r14few (by kernel_rfl) fun x hp => ⟨_, _, (ItsOk.nil _ _), LpsOk.nil, r14few_fn x (fun y => y = r14few x) hp rfl⟩
def sp_r14few : List (Nat × Ev.Spec) := (19, fnSpec r14few_S) :: sp_fmove
theorem sp_r14few_ok : SpecsOk Try.prog sp_r14few := SpecsOk.cons (Enters.of (fn := Try.f19) (by kernel_rfl) (by kernel_rfl) (by kernel_rfl)) r14few_ok sp_fmove_ok
noncomputable def r15few_l0_tm (x : (((List (Int × (Int × Int))) × ((List (Int × Int)) × ((List (Int × (Int × Int))) × (List ((Int × (Int × Int)) × ((Int × (Int × Int)) × (Int × (Int × Int)))))))) × (List (Int × (Int × (List Int)))))) (s : Int) : AS := ⟨(D :: .v (.one (.full 0)) :: .v (.one (.ptr 1 0)) :: D :: D :: vi s :: D :: D :: D :: D :: D :: D :: D :: D :: D :: D :: D :: D :: D :: D :: D :: D :: D :: D :: D :: D :: D :: D :: D :: D :: D :: D :: D :: D :: D :: D :: D :: []), [.row (Ty.prod yi (Ty.prod yi (Ty.sl yi))) x.2 0, .cells [.full 2, .full 3, .full 4, .full 5] 26, .row yy3 x.1.1 0, .row yy2 x.1.2.1 0, .row yy3 x.1.2.2.1 0, .row yy9 x.1.2.2.2 0]⟩
noncomputable def r15few_l0_out (x : (((List (Int × (Int × Int))) × ((List (Int × Int)) × ((List (Int × (Int × Int))) × (List ((Int × (Int × Int)) × ((Int × (Int × Int)) × (Int × (Int × Int)))))))) × (List (Int × (Int × (List Int)))))) (r : (Unit ⊕ Unit)) (K : Exit → AS → Prop) : Prop := cS r (fun a0 => K .ret ⟨(D :: D :: D :: D :: vb false :: D :: D :: D :: D :: D :: D :: D :: D :: D :: D :: D :: D :: D :: D :: D :: D :: D :: D :: D :: D :: D :: D :: D :: D :: D :: D :: D :: D :: D :: D :: D :: D :: []), []⟩) (fun b0 => K .normal ⟨(D :: .v (.one (.full 0)) :: .v (.one (.ptr 1 0)) :: D :: D :: D :: D :: D :: D :: D :: D :: D :: D :: D :: D :: D :: D :: D :: D :: D :: D :: D :: D :: D :: D :: D :: D :: D :: D :: D :: D :: D :: D :: D :: D :: D :: D :: []), [.row (Ty.prod yi (Ty.prod yi (Ty.sl yi))) x.2 0, .cells [.full 2, .full 3, .full 4, .full 5] 26, .row yy3 x.1.1 0, .row yy2 x.1.2.1 0, .row yy3 x.1.2.2.1 0, .row yy9 x.1.2.2.2 0]⟩)
noncomputable def r15few_l0_step (x : (((List (Int × (Int × Int))) × ((List (Int × Int)) × ((List (Int × (Int × Int))) × (List ((Int × (Int × Int)) × ((Int × (Int × Int)) × (Int × (Int × Int)))))))) × (List (Int × (Int × (List Int)))))) (s : Int) : Int ⊕ (Unit ⊕ Unit) :=
 (if (s < (((List.length x.2) : Nat) : Int)) then
 (if ((((List.length x.2) : Nat) : Int) ≤ (20 : Int)) then
 (if ((((List.length (List.getD x.2 (Int.toNat s) ((0 : Int), ((0 : Int), []))).2.2) : Nat) : Int) > (20 : Int)) then
 (Sum.inr (Sum.inl ())) else
 (Sum.inl (w64 (s + (1 : Int))))) else
 (Sum.inr (Sum.inr (())))) else
 (Sum.inr (Sum.inr (()))))
noncomputable def r15few_l0_pre (x : (((List (Int × (Int × Int))) × ((List (Int × Int)) × ((List (Int × (Int × Int))) × (List ((Int × (Int × Int)) × ((Int × (Int × Int)) × (Int × (Int × Int)))))))) × (List (Int × (Int × (List Int)))))) (s : Int) : Prop :=
 ((s < (((List.length x.2) : Nat) : Int)) →
 (((((List.length x.2) : Nat) : Int) ≤ (20 : Int)) →
 ((((0 : Int) ≤ s) ∧ (s < (((List.length x.2) : Nat) : Int))) ∧
 (((Int.toNat s) < (List.length x.2)) ∧
 (((Int.toNat s) < (List.length x.2)) ∧
 ((Int.toNat s) < (List.length x.2)))))))
noncomputable def r15few_l0_sp (x : (((List (Int × (Int × Int))) × ((List (Int × Int)) × ((List (Int × (Int × Int))) × (List ((Int × (Int × Int)) × ((Int × (Int × Int)) × (Int × (Int × Int)))))))) × (List (Int × (Int × (List Int)))))) : LSpec := loopSp (r15few_l0_tm x) (r15few_l0_step x) (r15few_l0_pre x) (r15few_l0_out x)
theorem r15few_l0_vc (x : (((List (Int × (Int × Int))) × ((List (Int × Int)) × ((List (Int × (Int × Int))) × (List ((Int × (Int × Int)) × ((Int × (Int × Int)) × (Int × (Int × Int)))))))) × (List (Int × (Int × (List Int)))))) (s : Int) (K : Exit → AS → Prop) (KN : AS → Prop) : codeE ⟨tt, sp_r14few, noX, [], [], []⟩ (cI (blk 0 (bodyOf Try.f7))) (r15few_l0_tm x s) (KB 0 K KN) =
 (cB (decide (s < (((List.length x.2) : Nat) : Int)))
 (cB (decide ((((List.length x.2) : Nat) : Int) ≤ (20 : Int)))
 (ob ((decide ((0 : Int) ≤ s)) && (decide (s < (((List.length x.2) : Nat) : Int))))
 (ob (decide ((Int.toNat s) < (List.length x.2)))
 (ob (decide ((Int.toNat s) < (List.length x.2)))
 (ob (decide ((Int.toNat s) < (List.length x.2)))
 (cB (decide ((((List.length (List.getD x.2 (Int.toNat s) ((0 : Int), ((0 : Int), []))).2.2) : Nat) : Int) > (20 : Int)))
 (KB 0 K KN .ret ⟨(D :: .v (.one (.full 0)) :: .v (.one (.ptr 1 0)) :: D :: vb false :: vi s :: vi s :: .v (.one (.full 0)) :: vi (((List.length x.2) : Nat) : Int) :: vb (decide (s < (((List.length x.2) : Nat) : Int))) :: vb true :: .v (.one (.full 0)) :: vi (((List.length x.2) : Nat) : Int) :: vb (decide ((((List.length x.2) : Nat) : Int) ≤ (20 : Int))) :: vb (decide ((((List.length x.2) : Nat) : Int) ≤ (20 : Int))) :: D :: D :: .v (.one (.full 0)) :: vi s :: .v (.one (.eptr 0 (Int.toNat s) 0)) :: .v (.one (.eptr 0 (Int.toNat s) 2)) :: .v (.one (.full 6)) :: vi (((List.length (List.getD x.2 (Int.toNat s) ((0 : Int), ((0 : Int), []))).2.2) : Nat) : Int) :: vb (decide ((((List.length (List.getD x.2 (Int.toNat s) ((0 : Int), ((0 : Int), []))).2.2) : Nat) : Int) > (20 : Int))) :: D :: D :: D :: D :: D :: D :: D :: D :: D :: D :: D :: D :: D :: []), [.row (Ty.prod yi (Ty.prod yi (Ty.sl yi))) x.2 0, .cells [.full 2, .full 3, .full 4, .full 5] 26, .row yy3 x.1.1 0, .row yy2 x.1.2.1 0, .row yy3 x.1.2.2.1 0, .row yy9 x.1.2.2.2 0, .row yi (List.getD x.2 (Int.toNat s) ((0 : Int), ((0 : Int), []))).2.2 0]⟩)
 (KB 0 K KN .normal ⟨(D :: .v (.one (.full 0)) :: .v (.one (.ptr 1 0)) :: D :: D :: vi (w64 (s + (1 : Int))) :: vi s :: .v (.one (.full 0)) :: vi (((List.length x.2) : Nat) : Int) :: vb (decide (s < (((List.length x.2) : Nat) : Int))) :: vb true :: .v (.one (.full 0)) :: vi (((List.length x.2) : Nat) : Int) :: vb (decide ((((List.length x.2) : Nat) : Int) ≤ (20 : Int))) :: vb (decide ((((List.length x.2) : Nat) : Int) ≤ (20 : Int))) :: vi s :: vi (w64 (s + (1 : Int))) :: .v (.one (.full 0)) :: vi s :: .v (.one (.eptr 0 (Int.toNat s) 0)) :: .v (.one (.eptr 0 (Int.toNat s) 2)) :: .v (.one (.full 6)) :: vi (((List.length (List.getD x.2 (Int.toNat s) ((0 : Int), ((0 : Int), []))).2.2) : Nat) : Int) :: vb (decide ((((List.length (List.getD x.2 (Int.toNat s) ((0 : Int), ((0 : Int), []))).2.2) : Nat) : Int) > (20 : Int))) :: D :: D :: D :: D :: D :: D :: D :: D :: D :: D :: D :: D :: D :: []), [.row (Ty.prod yi (Ty.prod yi (Ty.sl yi))) x.2 0, .cells [.full 2, .full 3, .full 4, .full 5] 26, .row yy3 x.1.1 0, .row yy2 x.1.2.1 0, .row yy3 x.1.2.2.1 0, .row yy9 x.1.2.2.2 0, .row yi (List.getD x.2 (Int.toNat s) ((0 : Int), ((0 : Int), []))).2.2 0]⟩))))))
 (KB 0 K KN (.exit 0) ⟨(D :: .v (.one (.full 0)) :: .v (.one (.ptr 1 0)) :: D :: D :: vi s :: vi s :: .v (.one (.full 0)) :: vi (((List.length x.2) : Nat) : Int) :: vb (decide (s < (((List.length x.2) : Nat) : Int))) :: vb true :: .v (.one (.full 0)) :: vi (((List.length x.2) : Nat) : Int) :: vb (decide ((((List.length x.2) : Nat) : Int) ≤ (20 : Int))) :: vb (decide ((((List.length x.2) : Nat) : Int) ≤ (20 : Int))) :: D :: D :: D :: D :: D :: D :: D :: D :: D :: D :: D :: D :: D :: D :: D :: D :: D :: D :: D :: D :: D :: D :: []), [.row (Ty.prod yi (Ty.prod yi (Ty.sl yi))) x.2 0, .cells [.full 2, .full 3, .full 4, .full 5] 26, .row yy3 x.1.1 0, .row yy2 x.1.2.1 0, .row yy3 x.1.2.2.1 0, .row yy9 x.1.2.2.2 0]⟩))
 (KB 0 K KN (.exit 0) ⟨(D :: .v (.one (.full 0)) :: .v (.one (.ptr 1 0)) :: D :: D :: vi s :: vi s :: .v (.one (.full 0)) :: vi (((List.length x.2) : Nat) : Int) :: vb (decide (s < (((List.length x.2) : Nat) : Int))) :: vb false :: und :: und :: und :: vb false :: D :: D :: D :: D :: D :: D :: D :: D :: D :: D :: D :: D :: D :: D :: D :: D :: D :: D :: D :: D :: D :: D :: []), [.row (Ty.prod yi (Ty.prod yi (Ty.sl yi))) x.2 0, .cells [.full 2, .full 3, .full 4, .full 5] 26, .row yy3 x.1.1 0, .row yy2 x.1.2.1 0, .row yy3 x.1.2.2.1 0, .row yy9 x.1.2.2.2 0]⟩)) := by kernel_rfl
theorem r15few_l0_ok (x : (((List (Int × (Int × Int))) × ((List (Int × Int)) × ((List (Int × (Int × Int))) × (List ((Int × (Int × Int)) × ((Int × (Int × Int)) × (Int × (Int × Int)))))))) × (List (Int × (Int × (List Int)))))) : ∀ st K, r15few_l0_sp x st K → Vc (codeE ⟨tt, sp_r14few, noX, [], [], []⟩ (.loop (cI (blk 0 (bodyOf Try.f7)))) st (wrapB 0 (orWeak K))) := loopSp_okV fun s K KN hp hq => .eq (r15few_l0_vc x s K KN) (have hp := Eq.mp (r15few_l0_pre.eq_1 x s) hp; have hq := Eq.mp (congrArg (stepQ (r15few_l0_tm x) (r15few_l0_out x) K KN) (r15few_l0_step.eq_1 x s)) hq;
 (cB_d (Q := (stepQ (r15few_l0_tm x) (r15few_l0_out x) K KN)) hq (fun c hq => have hp := (hp c); (cB_d (Q := (stepQ (r15few_l0_tm x) (r15few_l0_out x) K KN)) hq (fun c hq => have hp := (hp c); (ob_k (and_t (decide_eq_true hp.1.1) (decide_eq_true hp.1.2)) (have hp := hp.2; (ob_k (decide_eq_true hp.1) (have hp := hp.2; (ob_k (decide_eq_true hp.1) (have hp := hp.2; (ob_k (decide_eq_true hp) (cB_d (Q := (stepQ (r15few_l0_tm x) (r15few_l0_out x) K KN)) hq (fun c hq => (Exists.intro ⟨(D :: D :: D :: D :: vb false :: D :: D :: D :: D :: D :: D :: D :: D :: D :: D :: D :: D :: D :: D :: D :: D :: D :: D :: D :: D :: D :: D :: D :: D :: D :: D :: D :: D :: D :: D :: D :: D :: []), []⟩ (And.intro (ren_ok (π := []) (And.intro rfl trivial) trivial rfl) hq))) (fun c hq => (Exists.intro (r15few_l0_tm x (w64 (s + (1 : Int)))) (And.intro (ren_ok (π := [.same 0, .same 1, .same 2, .same 3, .same 4, .same 5]) (And.intro rfl (And.intro rfl (And.intro rfl trivial))) (And.intro (ren_same rfl rfl) (And.intro (ren_same rfl rfl) (And.intro (ren_same rfl rfl) (And.intro (ren_same rfl rfl) (And.intro (ren_same rfl rfl) (And.intro (ren_same rfl rfl) trivial)))))) rfl) hq)))))))))))) (fun c hq => (Exists.intro ⟨(D :: .v (.one (.full 0)) :: .v (.one (.ptr 1 0)) :: D :: D :: D :: D :: D :: D :: D :: D :: D :: D :: D :: D :: D :: D :: D :: D :: D :: D :: D :: D :: D :: D :: D :: D :: D :: D :: D :: D :: D :: D :: D :: D :: D :: D :: []), [.row (Ty.prod yi (Ty.prod yi (Ty.sl yi))) x.2 0, .cells [.full 2, .full 3, .full 4, .full 5] 26, .row yy3 x.1.1 0, .row yy2 x.1.2.1 0, .row yy3 x.1.2.2.1 0, .row yy9 x.1.2.2.2 0]⟩ (And.intro (ren_ok (π := [.same 0, .same 1, .same 2, .same 3, .same 4, .same 5]) (And.intro rfl (And.intro rfl trivial)) (And.intro (ren_same rfl rfl) (And.intro (ren_same rfl rfl) (And.intro (ren_same rfl rfl) (And.intro (ren_same rfl rfl) (And.intro (ren_same rfl rfl) (And.intro (ren_same rfl rfl) trivial)))))) rfl) hq))))) (fun c hq => (Exists.intro ⟨(D :: .v (.one (.full 0)) :: .v (.one (.ptr 1 0)) :: D :: D :: D :: D :: D :: D :: D :: D :: D :: D :: D :: D :: D :: D :: D :: D :: D :: D :: D :: D :: D :: D :: D :: D :: D :: D :: D :: D :: D :: D :: D :: D :: D :: D :: []), [.row (Ty.prod yi (Ty.prod yi (Ty.sl yi))) x.2 0, .cells [.full 2, .full 3, .full 4, .full 5] 26, .row yy3 x.1.1 0, .row yy2 x.1.2.1 0, .row yy3 x.1.2.2.1 0, .row yy9 x.1.2.2.2 0]⟩ (And.intro (ren_ok (π := [.same 0, .same 1, .same 2, .same 3, .same 4, .same 5]) (And.intro rfl (And.intro rfl trivial)) (And.intro (ren_same rfl rfl) (And.intro (ren_same rfl rfl) (And.intro (ren_same rfl rfl) (And.intro (ren_same rfl rfl) (And.intro (ren_same rfl rfl) (And.intro (ren_same rfl rfl) trivial)))))) rfl) hq)))))
noncomputable def r15few (x : (((List (Int × (Int × Int))) × ((List (Int × Int)) × ((List (Int × (Int × Int))) × (List ((Int × (Int × Int)) × ((Int × (Int × Int)) × (Int × (Int × Int)))))))) × (List (Int × (Int × (List Int)))))) : Bool :=
 (letV (run (r15few_l0_step x) (0 : Int)) fun r =>
 (Sum.elim (fun a =>
 false) (fun b =>
 (if ((((List.length x.2) : Nat) : Int) ≤ (20 : Int)) then
 (letV (r14few x.1) fun y =>
 (if (y = true) then
 (decide ((((List.length x.1.2.2.2) : Nat) : Int) ≤ (12 : Int))) else
 false)) else
 false)) r))
noncomputable def r15few_pre (x : (((List (Int × (Int × Int))) × ((List (Int × Int)) × ((List (Int × (Int × Int))) × (List ((Int × (Int × Int)) × ((Int × (Int × Int)) × (Int × (Int × Int)))))))) × (List (Int × (Int × (List Int)))))) : Prop :=
 (Term (r15few_l0_step x) (r15few_l0_pre x) (0 : Int))
theorem r15few_vc (x : (((List (Int × (Int × Int))) × ((List (Int × Int)) × ((List (Int × (Int × Int))) × (List ((Int × (Int × Int)) × ((Int × (Int × Int)) × (Int × (Int × Int)))))))) × (List (Int × (Int × (List Int)))))) (Q : Bool → Prop) : fnE ⟨tt, sp_r14few, noX, [(0, r15few_l0_sp x)], [], []⟩ Try.f7 (argsE (.pair (.agg (Ty.prod (Ty.sl yy3) (Ty.prod (Ty.sl yy2) (Ty.prod (Ty.sl yy3) (Ty.sl yy9))))) (.one (Ty.sl (Ty.prod yi (Ty.prod yi (Ty.sl yi)))))) x) (heapE (.pair (.agg (Ty.prod (Ty.sl yy3) (Ty.prod (Ty.sl yy2) (Ty.prod (Ty.sl yy3) (Ty.sl yy9))))) (.one (Ty.sl (Ty.prod yi (Ty.prod yi (Ty.sl yi)))))) x) (retE (.one Ty.bool) Q) =
 (Exists fun s0 : Int => Weak ⟨(.v (.agg [.full 0, .full 1, .full 2, .full 3]) :: .v (.one (.full 4)) :: .v (.one (.ptr 5 0)) :: und :: vb false :: vi (0 : Int) :: und :: und :: und :: und :: und :: und :: und :: und :: und :: und :: und :: und :: und :: und :: und :: und :: und :: und :: und :: und :: und :: und :: und :: und :: und :: und :: und :: und :: und :: und :: und :: []), [.row yy3 x.1.1 0, .row yy2 x.1.2.1 0, .row yy3 x.1.2.2.1 0, .row yy9 x.1.2.2.2 0, .row (Ty.prod yi (Ty.prod yi (Ty.sl yi))) x.2 0, .cells [.full 0, .full 1, .full 2, .full 3] 26]⟩ (r15few_l0_tm x s0) ∧ Term (r15few_l0_step x) (r15few_l0_pre x) s0 ∧ ∀ r : (Unit ⊕ Unit), r = run (r15few_l0_step x) s0 →
 (cS r (fun a =>
 (Q false)) (fun b =>
 (cB (decide ((((List.length x.2) : Nat) : Int) ≤ (20 : Int)))
 ((r14few_pre x.1) ∧ ∀ y : Bool, y = (r14few x.1) →
 (cB y
 (Q (decide ((((List.length x.1.2.2.2) : Nat) : Int) ≤ (12 : Int))))
 (Q false)))
 (Q false))))) := by kernel_rfl
theorem r15few_fn (x : (((List (Int × (Int × Int))) × ((List (Int × Int)) × ((List (Int × (Int × Int))) × (List ((Int × (Int × Int)) × ((Int × (Int × Int)) × (Int × (Int × Int)))))))) × (List (Int × (Int × (List Int)))))) (Q : Bool → Prop) (hp : r15few_pre x) (hq : Q (r15few x)) : Vc (fnE ⟨tt, sp_r14few, noX, [(0, r15few_l0_sp x)], [], []⟩ Try.f7 (argsE (.pair (.agg (Ty.prod (Ty.sl yy3) (Ty.prod (Ty.sl yy2) (Ty.prod (Ty.sl yy3) (Ty.sl yy9))))) (.one (Ty.sl (Ty.prod yi (Ty.prod yi (Ty.sl yi)))))) x) (heapE (.pair (.agg (Ty.prod (Ty.sl yy3) (Ty.prod (Ty.sl yy2) (Ty.prod (Ty.sl yy3) (Ty.sl yy9))))) (.one (Ty.sl (Ty.prod yi (Ty.prod yi (Ty.sl yi)))))) x) (retE (.one Ty.bool) Q)) := .eq (r15few_vc x Q) (have hp := Eq.mp (r15few_pre.eq_1 x) hp; have hq := Eq.mp (congrArg Q (r15few.eq_1 x)) hq;
 (Exists.intro (0 : Int) (And.intro (ren_ok (π := [.same 4, .same 5, .same 0, .same 1, .same 2, .same 3]) (And.intro rfl (And.intro rfl (And.intro rfl trivial))) (And.intro (ren_same rfl rfl) (And.intro (ren_same rfl rfl) (And.intro (ren_same rfl rfl) (And.intro (ren_same rfl rfl) (And.intro (ren_same rfl rfl) (And.intro (ren_same rfl rfl) trivial)))))) rfl) (And.intro hp (let_0 (Q := Q) hq fun r hq => (cS_k (Q := Q) (P := fun _ => True) (P' := fun _ => True) (by cases r <;> trivial) hq (fun a _ hq => hq) (fun b _ hq => (cB_d (Q := Q) hq (fun c hq => (And.intro trivial (let_0 (Q := Q) hq fun y hq => (cB_b (Q := Q) hq (fun c hq => hq) (fun c hq => hq))))) (fun c hq => hq)))))))))
noncomputable def r15few_S : FnS := ⟨(.pair (.agg (Ty.prod (Ty.sl yy3) (Ty.prod (Ty.sl yy2) (Ty.prod (Ty.sl yy3) (Ty.sl yy9))))) (.one (Ty.sl (Ty.prod yi (Ty.prod yi (Ty.sl yi)))))), (.one Ty.bool), r15few_pre, r15few⟩
theorem r15few_ok : SpecOk Try.prog 7 (fnSpec r15few_S) := SpecOk.fnT' (fn := Try.f7) tt_ok sp_r14few_ok mixed (by kernel_rfl) (by kernel_rfl) (.pair (.agg (Ty.prod (Ty.sl yy3) (Ty.prod (Ty.sl yy2) (Ty.prod (Ty.sl yy3) (Ty.sl yy9))))) (.one (Ty.sl (Ty.prod yi (Ty.prod yi (Ty.sl yi)))))) (.one Ty.bool) r15few_pre r15few (by kernel_rfl) fun x hp => ⟨_, _, (ItsOk.nil _ _), (LpsOk.consV tt_ok (SpecsOk.ctxI sp_r14few_ok (ItsOk.nil _ _)) mixed LpsOk.nil (by kernel_rfl) (by kernel_rfl) (r15few_l0_ok x)), r15few_fn x (fun y => y = r15few x) hp rfl⟩
def sp_r15few : List (Nat × Ev.Spec) := (7, fnSpec r15few_S) :: sp_r14few
theorem sp_r15few_ok : SpecsOk Try.prog sp_r15few := SpecsOk.cons (Enters.of (fn := Try.f7) (by kernel_rfl) (by kernel_rfl) (by kernel_rfl)) r15few_ok sp_r14few_ok
noncomputable def r16big (x : ((List Int) × ((List ((Int × Int) × ((Int × Int) × (Int × Int)))) × (Int × Int)))) : Bool :=
 (if ((((List.length x.1) : Nat) : Int) > (15 : Int)) then
 true else
 (decide ((((List.length x.2.1) : Nat) : Int) > (15 : Int))))
noncomputable def r16big_pre (_ : ((List Int) × ((List ((Int × Int) × ((Int × Int) × (Int × Int)))) × (Int × Int)))) : Prop := True
theorem r16big_vc (x : ((List Int) × ((List ((Int × Int) × ((Int × Int) × (Int × Int)))) × (Int × Int)))) (Q : Bool → Prop) : fnE ⟨tt, sp_r15few, noX, [], [], []⟩ Try.f14 (argsE (.agg (Ty.prod (Ty.sl yi) (Ty.prod (Ty.sl yy6) yy2))) x) (heapE (.agg (Ty.prod (Ty.sl yi) (Ty.prod (Ty.sl yy6) yy2))) x) (retE (.one Ty.bool) Q) =
 (cB (decide ((((List.length x.1) : Nat) : Int) > (15 : Int)))
 (Q true)
 (Q (decide ((((List.length x.2.1) : Nat) : Int) > (15 : Int))))) := by kernel_rfl
theorem r16big_fn (x : ((List Int) × ((List ((Int × Int) × ((Int × Int) × (Int × Int)))) × (Int × Int)))) (Q : Bool → Prop) (hp : r16big_pre x) (hq : Q (r16big x)) : Vc (fnE ⟨tt, sp_r15few, noX, [], [], []⟩ Try.f14 (argsE (.agg (Ty.prod (Ty.sl yi) (Ty.prod (Ty.sl yy6) yy2))) x) (heapE (.agg (Ty.prod (Ty.sl yi) (Ty.prod (Ty.sl yy6) yy2))) x) (retE (.one Ty.bool) Q)) := .eq (r16big_vc x Q) (have hp := Eq.mp (r16big_pre.eq_1 x) hp; have hq := Eq.mp (congrArg Q (r16big.eq_1 x)) hq;
 (cB_d (Q := Q) hq (fun c hq => hq) (fun c hq => hq)))
noncomputable def r16big_S : FnS := ⟨(.agg (Ty.prod (Ty.sl yi) (Ty.prod (Ty.sl yy6) yy2))), (.one Ty.bool), r16big_pre, r16big⟩
theorem r16big_ok : SpecOk Try.prog 14 (fnSpec r16big_S) := SpecOk.fnT' (fn := Try.f14) tt_ok sp_r15few_ok mixed (by kernel_rfl) (by kernel_rfl) (.agg (Ty.prod (Ty.sl yi) (Ty.prod (Ty.sl yy6) yy2))) (.one Ty.bool) r16big_pre r16big (by kernel_rfl) fun x hp => ⟨_, _, (ItsOk.nil _ _), LpsOk.nil, r16big_fn x (fun y => y = r16big x) hp rfl⟩
def sp_r16big : List (Nat × Ev.Spec) := (14, fnSpec r16big_S) :: sp_r15few
theorem sp_r16big_ok : SpecsOk Try.prog sp_r16big := SpecsOk.cons (Enters.of (fn := Try.f14) (by kernel_rfl) (by kernel_rfl) (by kernel_rfl)) r16big_ok sp_r15few_ok
noncomputable def r1same_l0_tm (x : ((List Int) × (List Int))) (s : Int) : AS := ⟨(.v (.one (.full 0)) :: .v (.one (.full 1)) :: D :: D :: D :: vi s :: D :: D :: D :: D :: D :: D :: D :: D :: D :: D :: D :: D :: D :: D :: D :: D :: D :: D :: D :: D :: []), [.row yi x.1 0, .row yi x.2 0]⟩
noncomputable def r1same_l0_out (x : ((List Int) × (List Int))) (r : (Unit ⊕ Unit)) (K : Exit → AS → Prop) : Prop := cS r (fun a0 => K .ret ⟨(D :: D :: D :: D :: vb false :: D :: D :: D :: D :: D :: D :: D :: D :: D :: D :: D :: D :: D :: D :: D :: D :: D :: D :: D :: D :: D :: []), []⟩) (fun b0 => K .normal ⟨(D :: D :: D :: D :: D :: D :: D :: D :: D :: D :: D :: D :: D :: D :: D :: D :: D :: D :: D :: D :: D :: D :: D :: D :: D :: D :: []), []⟩)
noncomputable def r1same_l0_step (x : ((List Int) × (List Int))) (s : Int) : Int ⊕ (Unit ⊕ Unit) :=
 (if (s < (((List.length x.1) : Nat) : Int)) then
 (if (((List.getD x.1 (Int.toNat s) (0 : Int)) != (List.getD x.2 (Int.toNat s) (0 : Int))) = true) then
 (Sum.inr (Sum.inl ())) else
 (Sum.inl (w64 (s + (1 : Int))))) else
 (Sum.inr (Sum.inr (()))))
noncomputable def r1same_l0_pre (x : ((List Int) × (List Int))) (s : Int) : Prop :=
 ((s < (((List.length x.1) : Nat) : Int)) →
 ((((0 : Int) ≤ s) ∧ (s < (((List.length x.1) : Nat) : Int))) ∧
 (((Int.toNat s) < (List.length x.1)) ∧
 (((Int.toNat s) < (List.length x.1)) ∧
 ((((0 : Int) ≤ s) ∧ (s < (((List.length x.2) : Nat) : Int))) ∧
 (((Int.toNat s) < (List.length x.2)) ∧
 ((Int.toNat s) < (List.length x.2))))))))
noncomputable def r1same_l0_sp (x : ((List Int) × (List Int))) : LSpec := loopSp (r1same_l0_tm x) (r1same_l0_step x) (r1same_l0_pre x) (r1same_l0_out x)
theorem r1same_l0_vc (x : ((List Int) × (List Int))) (s : Int) (K : Exit → AS → Prop) (KN : AS → Prop) : codeE ⟨tt, sp_r16big, noX, [], [], []⟩ (cI (blk 0 (bodyOf Try.f11))) (r1same_l0_tm x s) (KB 0 K KN) =
 (cB (decide (s < (((List.length x.1) : Nat) : Int)))
 (ob ((decide ((0 : Int) ≤ s)) && (decide (s < (((List.length x.1) : Nat) : Int))))
 (ob (decide ((Int.toNat s) < (List.length x.1)))
 (ob (decide ((Int.toNat s) < (List.length x.1)))
 (ob ((decide ((0 : Int) ≤ s)) && (decide (s < (((List.length x.2) : Nat) : Int))))
 (ob (decide ((Int.toNat s) < (List.length x.2)))
 (ob (decide ((Int.toNat s) < (List.length x.2)))
 (cB ((List.getD x.1 (Int.toNat s) (0 : Int)) != (List.getD x.2 (Int.toNat s) (0 : Int)))
 (KB 0 K KN .ret ⟨(.v (.one (.full 0)) :: .v (.one (.full 1)) :: D :: D :: vb false :: vi s :: D :: D :: D :: D :: D :: vi s :: .v (.one (.full 0)) :: vi (((List.length x.1) : Nat) : Int) :: vb (decide (s < (((List.length x.1) : Nat) : Int))) :: D :: D :: .v (.one (.full 0)) :: vi s :: .v (.one (.eptr 0 (Int.toNat s) 0)) :: vi (List.getD x.1 (Int.toNat s) (0 : Int)) :: .v (.one (.full 1)) :: vi s :: .v (.one (.eptr 1 (Int.toNat s) 0)) :: vi (List.getD x.2 (Int.toNat s) (0 : Int)) :: vb ((List.getD x.1 (Int.toNat s) (0 : Int)) != (List.getD x.2 (Int.toNat s) (0 : Int))) :: []), [.row yi x.1 0, .row yi x.2 0]⟩)
 (KB 0 K KN .normal ⟨(.v (.one (.full 0)) :: .v (.one (.full 1)) :: D :: D :: D :: vi (w64 (s + (1 : Int))) :: D :: D :: D :: D :: D :: vi s :: .v (.one (.full 0)) :: vi (((List.length x.1) : Nat) : Int) :: vb (decide (s < (((List.length x.1) : Nat) : Int))) :: vi s :: vi (w64 (s + (1 : Int))) :: .v (.one (.full 0)) :: vi s :: .v (.one (.eptr 0 (Int.toNat s) 0)) :: vi (List.getD x.1 (Int.toNat s) (0 : Int)) :: .v (.one (.full 1)) :: vi s :: .v (.one (.eptr 1 (Int.toNat s) 0)) :: vi (List.getD x.2 (Int.toNat s) (0 : Int)) :: vb ((List.getD x.1 (Int.toNat s) (0 : Int)) != (List.getD x.2 (Int.toNat s) (0 : Int))) :: []), [.row yi x.1 0, .row yi x.2 0]⟩))))))))
 (KB 0 K KN (.exit 0) ⟨(.v (.one (.full 0)) :: .v (.one (.full 1)) :: D :: D :: D :: vi s :: D :: D :: D :: D :: D :: vi s :: .v (.one (.full 0)) :: vi (((List.length x.1) : Nat) : Int) :: vb (decide (s < (((List.length x.1) : Nat) : Int))) :: D :: D :: D :: D :: D :: D :: D :: D :: D :: D :: D :: []), [.row yi x.1 0, .row yi x.2 0]⟩)) := by kernel_rfl
theorem r1same_l0_ok (x : ((List Int) × (List Int))) : ∀ st K, r1same_l0_sp x st K → Vc (codeE ⟨tt, sp_r16big, noX, [], [], []⟩ (.loop (cI (blk 0 (bodyOf Try.f11)))) st (wrapB 0 (orWeak K))) := loopSp_okV fun s K KN hp hq => .eq (r1same_l0_vc x s K KN) (have hp := Eq.mp (r1same_l0_pre.eq_1 x s) hp; have hq := Eq.mp (congrArg (stepQ (r1same_l0_tm x) (r1same_l0_out x) K KN) (r1same_l0_step.eq_1 x s)) hq;
 (cB_d (Q := (stepQ (r1same_l0_tm x) (r1same_l0_out x) K KN)) hq (fun c hq => have hp := (hp c); (ob_k (and_t (decide_eq_true hp.1.1) (decide_eq_true hp.1.2)) (have hp := hp.2; (ob_k (decide_eq_true hp.1) (have hp := hp.2; (ob_k (decide_eq_true hp.1) (have hp := hp.2; (ob_k (and_t (decide_eq_true hp.1.1) (decide_eq_true hp.1.2)) (have hp := hp.2; (ob_k (decide_eq_true hp.1) (have hp := hp.2; (ob_k (decide_eq_true hp) (cB_b (Q := (stepQ (r1same_l0_tm x) (r1same_l0_out x) K KN)) hq (fun c hq => (Exists.intro ⟨(D :: D :: D :: D :: vb false :: D :: D :: D :: D :: D :: D :: D :: D :: D :: D :: D :: D :: D :: D :: D :: D :: D :: D :: D :: D :: D :: []), []⟩ (And.intro (ren_ok (π := []) (And.intro rfl trivial) trivial rfl) hq))) (fun c hq => (Exists.intro (r1same_l0_tm x (w64 (s + (1 : Int)))) (And.intro (ren_ok (π := [.same 0, .same 1]) (And.intro rfl (And.intro rfl (And.intro rfl trivial))) (And.intro (ren_same rfl rfl) (And.intro (ren_same rfl rfl) trivial)) rfl) hq)))))))))))))))) (fun c hq => (Exists.intro ⟨(D :: D :: D :: D :: D :: D :: D :: D :: D :: D :: D :: D :: D :: D :: D :: D :: D :: D :: D :: D :: D :: D :: D :: D :: D :: D :: []), []⟩ (And.intro (ren_ok (π := []) trivial trivial rfl) hq)))))
noncomputable def r1same (x : ((List Int) × (List Int))) : Bool :=
 (if (((((List.length x.1) : Nat) : Int) != (((List.length x.2) : Nat) : Int)) = true) then
 false else
 (letV (run (r1same_l0_step x) (0 : Int)) fun r =>
 (Sum.elim (fun a =>
 false) (fun b =>
 true) r)))
noncomputable def r1same_pre (x : ((List Int) × (List Int))) : Prop :=
 (¬ (((((List.length x.1) : Nat) : Int) != (((List.length x.2) : Nat) : Int)) = true) →
 (Term (r1same_l0_step x) (r1same_l0_pre x) (0 : Int)))
theorem r1same_vc (x : ((List Int) × (List Int))) (Q : Bool → Prop) : fnE ⟨tt, sp_r16big, noX, [(0, r1same_l0_sp x)], [], []⟩ Try.f11 (argsE (.pair (.one (Ty.sl yi)) (.one (Ty.sl yi))) x) (heapE (.pair (.one (Ty.sl yi)) (.one (Ty.sl yi))) x) (retE (.one Ty.bool) Q) =
 (cB ((((List.length x.1) : Nat) : Int) != (((List.length x.2) : Nat) : Int))
 (Q false)
 (Exists fun s0 : Int => Weak ⟨(.v (.one (.full 0)) :: .v (.one (.full 1)) :: und :: und :: vb false :: vi (0 : Int) :: .v (.one (.full 0)) :: vi (((List.length x.1) : Nat) : Int) :: .v (.one (.full 1)) :: vi (((List.length x.2) : Nat) : Int) :: vb ((((List.length x.1) : Nat) : Int) != (((List.length x.2) : Nat) : Int)) :: und :: und :: und :: und :: und :: und :: und :: und :: und :: und :: und :: und :: und :: und :: und :: []), [.row yi x.1 0, .row yi x.2 0]⟩ (r1same_l0_tm x s0) ∧ Term (r1same_l0_step x) (r1same_l0_pre x) s0 ∧ ∀ r : (Unit ⊕ Unit), r = run (r1same_l0_step x) s0 →
 (cS r (fun a =>
 (Q false)) (fun b =>
 (Q true))))) := by kernel_rfl
theorem r1same_fn (x : ((List Int) × (List Int))) (Q : Bool → Prop) (hp : r1same_pre x) (hq : Q (r1same x)) : Vc (fnE ⟨tt, sp_r16big, noX, [(0, r1same_l0_sp x)], [], []⟩ Try.f11 (argsE (.pair (.one (Ty.sl yi)) (.one (Ty.sl yi))) x) (heapE (.pair (.one (Ty.sl yi)) (.one (Ty.sl yi))) x) (retE (.one Ty.bool) Q)) := .eq (r1same_vc x Q) (have hp := Eq.mp (r1same_pre.eq_1 x) hp; have hq := Eq.mp (congrArg Q (r1same.eq_1 x)) hq;
 (cB_b (Q := Q) hq (fun c hq => hq) (fun c hq => have hp := (hp c); (Exists.intro (0 : Int) (And.intro (ren_ok (π := [.same 0, .same 1]) (And.intro rfl (And.intro rfl (And.intro rfl trivial))) (And.intro (ren_same rfl rfl) (And.intro (ren_same rfl rfl) trivial)) rfl) (And.intro hp (let_0 (Q := Q) hq fun r hq => (cS_k (Q := Q) (P := fun _ => True) (P' := fun _ => True) (by cases r <;> trivial) hq (fun a _ hq => hq) (fun b _ hq => hq)))))))))
noncomputable def r1same_S : FnS := ⟨(.pair (.one (Ty.sl yi)) (.one (Ty.sl yi))), (.one Ty.bool), r1same_pre, r1same⟩
theorem r1same_ok : SpecOk Try.prog 11 (fnSpec r1same_S) := SpecOk.fnT' (fn := Try.f11) tt_ok sp_r16big_ok mixed (by kernel_rfl) (by kernel_rfl) (.pair (.one (Ty.sl yi)) (.one (Ty.sl yi))) (.one Ty.bool) r1same_pre r1same (by kernel_rfl) fun x hp => ⟨_, _, (ItsOk.nil _ _), (LpsOk.consV tt_ok (SpecsOk.ctxI sp_r16big_ok (ItsOk.nil _ _)) mixed LpsOk.nil (by kernel_rfl) (by kernel_rfl) (r1same_l0_ok x)), r1same_fn x (fun y => y = r1same x) hp rfl⟩
def sp_r1same : List (Nat × Ev.Spec) := (11, fnSpec r1same_S) :: sp_r16big
theorem sp_r1same_ok : SpecsOk Try.prog sp_r1same := SpecsOk.cons (Enters.of (fn := Try.f11) (by kernel_rfl) (by kernel_rfl) (by kernel_rfl)) r1same_ok sp_r16big_ok
noncomputable def l16laid (x : Bool) : Bool :=
 (letV (flay (([((5 : Int), ((5 : Int), (0 : Int))), ((25 : Int), ((5 : Int), (0 : Int))), ((5 : Int), ((21 : Int), (0 : Int)))], ([], ([], [(((0 : Int), ((-1 : Int), (-1 : Int))), (((1 : Int), ((-1 : Int), (-1 : Int))), ((2 : Int), ((-1 : Int), (-1 : Int)))))]))), (((2 : Int), ((1 : Int), [(0 : Int)])), (2 : Int)))) fun y =>
 (letV (flay (([((5 : Int), ((5 : Int), (0 : Int))), ((25 : Int), ((5 : Int), (0 : Int))), ((5 : Int), ((21 : Int), (0 : Int)))], ([], ([], [(((0 : Int), ((-1 : Int), (-1 : Int))), (((1 : Int), ((-1 : Int), (-1 : Int))), ((2 : Int), ((-1 : Int), (-1 : Int)))))]))), (((1 : Int), ((1 : Int), [(0 : Int)])), (2 : Int)))) fun y_1 =>
 (letV (fmove (y.1, ((3 : Int), (0 : Int)))) fun y_2 =>
 (letV (fsize (16 : Int)) fun y_3 =>
 (if ((y.2 != (0 : Int)) = true) then
 false else
 (if ((y_2.2 != (0 : Int)) = true) then
 false else
 (if (((((List.length y.1.2.1) : Nat) : Int) != (1 : Int)) = true) then
 false else
 (if (((((List.length y_2.1) : Nat) : Int) != (1 : Int)) = true) then
 false else
 (if (((((List.getD y.1.2.1 0 (((0 : Int), (0 : Int)), (((0 : Int), (0 : Int)), ((0 : Int), (0 : Int))))).1.1 == (0 : Int)) && (((List.getD y.1.2.1 0 (((0 : Int), (0 : Int)), (((0 : Int), (0 : Int)), ((0 : Int), (0 : Int))))).1.2 == (0 : Int)) && true)) && ((((List.getD y.1.2.1 0 (((0 : Int), (0 : Int)), (((0 : Int), (0 : Int)), ((0 : Int), (0 : Int))))).2.1.1 == (40 : Int)) && (((List.getD y.1.2.1 0 (((0 : Int), (0 : Int)), (((0 : Int), (0 : Int)), ((0 : Int), (0 : Int))))).2.1.2 == (0 : Int)) && true)) && ((((List.getD y.1.2.1 0 (((0 : Int), (0 : Int)), (((0 : Int), (0 : Int)), ((0 : Int), (0 : Int))))).2.2.1 == (0 : Int)) && (((List.getD y.1.2.1 0 (((0 : Int), (0 : Int)), (((0 : Int), (0 : Int)), ((0 : Int), (0 : Int))))).2.2.2 == (32 : Int)) && true)) && true))) = true) then
 (if ((y.1.2.2.1 == (3 : Int)) = true) then
 (if ((y.1.2.2.2 == (3 : Int)) = true) then
 (if ((y_1.2 == (1 : Int)) = true) then
 (if ((((List.getD y_2.1 0 (((0 : Int), (0 : Int)), (((0 : Int), (0 : Int)), ((0 : Int), (0 : Int))))).1.1 == (3 : Int)) && (((List.getD y_2.1 0 (((0 : Int), (0 : Int)), (((0 : Int), (0 : Int)), ((0 : Int), (0 : Int))))).1.2 == (0 : Int)) && true)) = true) then
 (if ((y_3.1 == (2 : Int)) = true) then
 (if ((y_3.2 == y.2) = true) then
 (letV (fis y.1) fun y_4 =>
 y_4) else
 false) else
 false) else
 false) else
 false) else
 false) else
 false) else
 false)))))))))
noncomputable def l16laid_pre (x : Bool) : Prop :=
 ((flay_pre (([((5 : Int), ((5 : Int), (0 : Int))), ((25 : Int), ((5 : Int), (0 : Int))), ((5 : Int), ((21 : Int), (0 : Int)))], ([], ([], [(((0 : Int), ((-1 : Int), (-1 : Int))), (((1 : Int), ((-1 : Int), (-1 : Int))), ((2 : Int), ((-1 : Int), (-1 : Int)))))]))), (((2 : Int), ((1 : Int), [(0 : Int)])), (2 : Int)))) ∧
 letP (flay (([((5 : Int), ((5 : Int), (0 : Int))), ((25 : Int), ((5 : Int), (0 : Int))), ((5 : Int), ((21 : Int), (0 : Int)))], ([], ([], [(((0 : Int), ((-1 : Int), (-1 : Int))), (((1 : Int), ((-1 : Int), (-1 : Int))), ((2 : Int), ((-1 : Int), (-1 : Int)))))]))), (((2 : Int), ((1 : Int), [(0 : Int)])), (2 : Int)))) fun y =>
 ((flay_pre (([((5 : Int), ((5 : Int), (0 : Int))), ((25 : Int), ((5 : Int), (0 : Int))), ((5 : Int), ((21 : Int), (0 : Int)))], ([], ([], [(((0 : Int), ((-1 : Int), (-1 : Int))), (((1 : Int), ((-1 : Int), (-1 : Int))), ((2 : Int), ((-1 : Int), (-1 : Int)))))]))), (((1 : Int), ((1 : Int), [(0 : Int)])), (2 : Int)))) ∧
 letP (flay (([((5 : Int), ((5 : Int), (0 : Int))), ((25 : Int), ((5 : Int), (0 : Int))), ((5 : Int), ((21 : Int), (0 : Int)))], ([], ([], [(((0 : Int), ((-1 : Int), (-1 : Int))), (((1 : Int), ((-1 : Int), (-1 : Int))), ((2 : Int), ((-1 : Int), (-1 : Int)))))]))), (((1 : Int), ((1 : Int), [(0 : Int)])), (2 : Int)))) fun y_1 =>
 ((fmove_pre (y.1, ((3 : Int), (0 : Int)))) ∧
 letP (fmove (y.1, ((3 : Int), (0 : Int)))) fun y_2 =>
 (letP (fsize (16 : Int)) fun y_3 =>
 (¬ ((y.2 != (0 : Int)) = true) →
 (¬ ((y_2.2 != (0 : Int)) = true) →
 (¬ (((((List.length y.1.2.1) : Nat) : Int) != (1 : Int)) = true) →
 (¬ (((((List.length y_2.1) : Nat) : Int) != (1 : Int)) = true) →
 (((0 : Int) < (((List.length y.1.2.1) : Nat) : Int)) ∧
 ((0 < (List.length y.1.2.1)) ∧
 ((0 < (List.length y.1.2.1)) ∧
 ((((((List.getD y.1.2.1 0 (((0 : Int), (0 : Int)), (((0 : Int), (0 : Int)), ((0 : Int), (0 : Int))))).1.1 == (0 : Int)) && (((List.getD y.1.2.1 0 (((0 : Int), (0 : Int)), (((0 : Int), (0 : Int)), ((0 : Int), (0 : Int))))).1.2 == (0 : Int)) && true)) && ((((List.getD y.1.2.1 0 (((0 : Int), (0 : Int)), (((0 : Int), (0 : Int)), ((0 : Int), (0 : Int))))).2.1.1 == (40 : Int)) && (((List.getD y.1.2.1 0 (((0 : Int), (0 : Int)), (((0 : Int), (0 : Int)), ((0 : Int), (0 : Int))))).2.1.2 == (0 : Int)) && true)) && ((((List.getD y.1.2.1 0 (((0 : Int), (0 : Int)), (((0 : Int), (0 : Int)), ((0 : Int), (0 : Int))))).2.2.1 == (0 : Int)) && (((List.getD y.1.2.1 0 (((0 : Int), (0 : Int)), (((0 : Int), (0 : Int)), ((0 : Int), (0 : Int))))).2.2.2 == (32 : Int)) && true)) && true))) = true) →
 (((y.1.2.2.1 == (3 : Int)) = true) →
 (((y.1.2.2.2 == (3 : Int)) = true) →
 (((y_1.2 == (1 : Int)) = true) →
 (((0 : Int) < (((List.length y_2.1) : Nat) : Int)) ∧
 ((0 < (List.length y_2.1)) ∧
 ((0 < (List.length y_2.1)) ∧
 ((0 < (List.length y_2.1)) ∧
 (((((List.getD y_2.1 0 (((0 : Int), (0 : Int)), (((0 : Int), (0 : Int)), ((0 : Int), (0 : Int))))).1.1 == (3 : Int)) && (((List.getD y_2.1 0 (((0 : Int), (0 : Int)), (((0 : Int), (0 : Int)), ((0 : Int), (0 : Int))))).1.2 == (0 : Int)) && true)) = true) →
 (((y_3.1 == (2 : Int)) = true) →
 (((y_3.2 == y.2) = true) →
 (fis_pre y.1)))))))))))))))))))))))
theorem l16laid_vc (x : Bool) (Q : Bool → Prop) : fnE ⟨tt, sp_r1same, noX, [], [], []⟩ Try.f9 (argsE .none x) (heapE .none x) (retE (.one Ty.bool) Q) =
 ((flay_pre (([((5 : Int), ((5 : Int), (0 : Int))), ((25 : Int), ((5 : Int), (0 : Int))), ((5 : Int), ((21 : Int), (0 : Int)))], ([], ([], [(((0 : Int), ((-1 : Int), (-1 : Int))), (((1 : Int), ((-1 : Int), (-1 : Int))), ((2 : Int), ((-1 : Int), (-1 : Int)))))]))), (((2 : Int), ((1 : Int), [(0 : Int)])), (2 : Int)))) ∧ ∀ y : (((List Int) × ((List ((Int × Int) × ((Int × Int) × (Int × Int)))) × (Int × Int))) × Int), y = (flay (([((5 : Int), ((5 : Int), (0 : Int))), ((25 : Int), ((5 : Int), (0 : Int))), ((5 : Int), ((21 : Int), (0 : Int)))], ([], ([], [(((0 : Int), ((-1 : Int), (-1 : Int))), (((1 : Int), ((-1 : Int), (-1 : Int))), ((2 : Int), ((-1 : Int), (-1 : Int)))))]))), (((2 : Int), ((1 : Int), [(0 : Int)])), (2 : Int)))) →
 ((flay_pre (([((5 : Int), ((5 : Int), (0 : Int))), ((25 : Int), ((5 : Int), (0 : Int))), ((5 : Int), ((21 : Int), (0 : Int)))], ([], ([], [(((0 : Int), ((-1 : Int), (-1 : Int))), (((1 : Int), ((-1 : Int), (-1 : Int))), ((2 : Int), ((-1 : Int), (-1 : Int)))))]))), (((1 : Int), ((1 : Int), [(0 : Int)])), (2 : Int)))) ∧ ∀ y_1 : (((List Int) × ((List ((Int × Int) × ((Int × Int) × (Int × Int)))) × (Int × Int))) × Int), y_1 = (flay (([((5 : Int), ((5 : Int), (0 : Int))), ((25 : Int), ((5 : Int), (0 : Int))), ((5 : Int), ((21 : Int), (0 : Int)))], ([], ([], [(((0 : Int), ((-1 : Int), (-1 : Int))), (((1 : Int), ((-1 : Int), (-1 : Int))), ((2 : Int), ((-1 : Int), (-1 : Int)))))]))), (((1 : Int), ((1 : Int), [(0 : Int)])), (2 : Int)))) →
 ((fmove_pre (y.1, ((3 : Int), (0 : Int)))) ∧ ∀ y_2 : ((List ((Int × Int) × ((Int × Int) × (Int × Int)))) × Int), y_2 = (fmove (y.1, ((3 : Int), (0 : Int)))) →
 ((fsize_pre (16 : Int)) ∧ ∀ y_3 : (Int × Int), y_3 = (fsize (16 : Int)) →
 (cB (y.2 != (0 : Int))
 (Q false)
 (cB (y_2.2 != (0 : Int))
 (Q false)
 (cB ((((List.length y.1.2.1) : Nat) : Int) != (1 : Int))
 (Q false)
 (cB ((((List.length y_2.1) : Nat) : Int) != (1 : Int))
 (Q false)
 (ob (true && (decide ((0 : Int) < (((List.length y.1.2.1) : Nat) : Int))))
 (ob (decide (0 < (List.length y.1.2.1)))
 (ob (decide (0 < (List.length y.1.2.1)))
 (cB ((((List.getD y.1.2.1 0 zz6).1.1 == (0 : Int)) && (((List.getD y.1.2.1 0 zz6).1.2 == (0 : Int)) && true)) && ((((List.getD y.1.2.1 0 zz6).2.1.1 == (40 : Int)) && (((List.getD y.1.2.1 0 zz6).2.1.2 == (0 : Int)) && true)) && ((((List.getD y.1.2.1 0 zz6).2.2.1 == (0 : Int)) && (((List.getD y.1.2.1 0 zz6).2.2.2 == (32 : Int)) && true)) && true)))
 (cB (y.1.2.2.1 == (3 : Int))
 (cB (y.1.2.2.2 == (3 : Int))
 (cB (y_1.2 == (1 : Int))
 (ob (true && (decide ((0 : Int) < (((List.length y_2.1) : Nat) : Int))))
 (ob (decide (0 < (List.length y_2.1)))
 (ob (decide (0 < (List.length y_2.1)))
 (ob (decide (0 < (List.length y_2.1)))
 (cB (((List.getD y_2.1 0 zz6).1.1 == (3 : Int)) && (((List.getD y_2.1 0 zz6).1.2 == (0 : Int)) && true))
 (cB (y_3.1 == (2 : Int))
 (cB (y_3.2 == y.2)
 ((fis_pre y.1) ∧ ∀ y_4 : Bool, y_4 = (fis y.1) →
 (Q y_4))
 (Q false))
 (Q false))
 (Q false))))))
 (Q false))
 (Q false))
 (Q false))
 (Q false))))))))))))) := by kernel_rfl
theorem l16laid_fn (x : Bool) (Q : Bool → Prop) (hp : l16laid_pre x) (hq : Q (l16laid x)) : Vc (fnE ⟨tt, sp_r1same, noX, [], [], []⟩ Try.f9 (argsE .none x) (heapE .none x) (retE (.one Ty.bool) Q)) := .eq (l16laid_vc x Q) (have hp := Eq.mp (l16laid_pre.eq_1 x) hp; have hq := Eq.mp (congrArg Q (l16laid.eq_1 x)) hq;
 (And.intro hp.1 (let_k (Q := Q) hp.2 hq fun y hp hq => (And.intro hp.1 (let_k (Q := Q) hp.2 hq fun y_1 hp hq => (And.intro hp.1 (let_k (Q := Q) hp.2 hq fun y_2 hp hq => (And.intro trivial (let_k (Q := Q) hp hq fun y_3 hp hq => (cB_b (Q := Q) hq (fun c hq => hq) (fun c hq => have hp := (hp c); (cB_b (Q := Q) hq (fun c hq => hq) (fun c hq => have hp := (hp c); (cB_b (Q := Q) hq (fun c hq => hq) (fun c hq => have hp := (hp c); (cB_b (Q := Q) hq (fun c hq => hq) (fun c hq => have hp := (hp c); (ob_k (and_t rfl (decide_eq_true hp.1)) (have hp := hp.2; (ob_k (decide_eq_true hp.1) (have hp := hp.2; (ob_k (decide_eq_true hp.1) (have hp := hp.2; (cB_b (Q := Q) hq (fun c hq => have hp := (hp c); (cB_b (Q := Q) hq (fun c hq => have hp := (hp c); (cB_b (Q := Q) hq (fun c hq => have hp := (hp c); (cB_b (Q := Q) hq (fun c hq => have hp := (hp c); (ob_k (and_t rfl (decide_eq_true hp.1)) (have hp := hp.2; (ob_k (decide_eq_true hp.1) (have hp := hp.2; (ob_k (decide_eq_true hp.1) (have hp := hp.2; (ob_k (decide_eq_true hp.1) (have hp := hp.2; (cB_b (Q := Q) hq (fun c hq => have hp := (hp c); (cB_b (Q := Q) hq (fun c hq => have hp := (hp c); (cB_b (Q := Q) hq (fun c hq => have hp := (hp c); (And.intro hp (let_0 (Q := Q) hq fun y_4 hq => hq))) (fun c hq => hq))) (fun c hq => hq))) (fun c hq => hq))))))))))) (fun c hq => hq))) (fun c hq => hq))) (fun c hq => hq))) (fun c hq => hq)))))))))))))))))))))))))
noncomputable def l16laid_S : FnS := ⟨.none, (.one Ty.bool), l16laid_pre, l16laid⟩
theorem l16laid_ok : SpecOk Try.prog 9 (fnSpec l16laid_S) := SpecOk.fnT' (fn := Try.f9) tt_ok sp_r1same_ok mixed (by kernel_rfl) (by kernel_rfl) .none (.one Ty.bool) l16laid_pre l16laid (by kernel_rfl) fun x hp => ⟨_, _, (ItsOk.nil _ _), LpsOk.nil, l16laid_fn x (fun y => y = l16laid x) hp rfl⟩
def sp_l16laid : List (Nat × Ev.Spec) := (9, fnSpec l16laid_S) :: sp_r1same
theorem sp_l16laid_ok : SpecsOk Try.prog sp_l16laid := SpecsOk.cons (Enters.of (fn := Try.f9) (by kernel_rfl) (by kernel_rfl) (by kernel_rfl)) l16laid_ok sp_r1same_ok
end Go.Proofs.Ytpbbnoggkbfkoaa
