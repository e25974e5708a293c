/- Models of functions of layers 10, 15, 16. -/
import Derived.Test.YtpbbnoggkbfkoaaFa
namespace Go.Proofs.Ytpbbnoggkbfkoaa
open Go Go.Ev Go.Proofs
set_option linter.unusedVariables false
noncomputable def indexV3_l0_tm (x : ((List (Int × (Int × Int))) × Bool)) (s : Int) : AS := ⟨[.v (.one (.full 0)), .v (.one (.clo (Fn.func 61) [] [])), D, D, D, D, D, vi (((List.length x.1) : Nat) : Int), vi s, D, D, D, D, D, D, D, D, D, D], [.row yy3 x.1 0]⟩
noncomputable def indexV3_l0_out (x : ((List (Int × (Int × Int))) × Bool)) (r : (Int ⊕ Unit)) (K : Exit → AS → Prop) : Prop := cS r (fun a0 => K .ret ⟨[D, D, D, D, vi a0, D, D, D, D, D, D, D, D, D, D, D, D, D, D], []⟩) (fun b0 => K .normal ⟨[D, D, D, D, D, D, D, D, D, D, D, D, D, D, D, D, D, D, D], []⟩)
noncomputable def indexV3_l0_step (x : ((List (Int × (Int × Int))) × Bool)) (s : Int) : Int ⊕ (Int ⊕ Unit) :=
 (if (s < (((List.length x.1) : Nat) : Int)) then
 (letV (far (List.getD x.1 (Int.toNat s) ((0 : Int), ((0 : Int), (0 : Int))))) fun y =>
 (if (y = true) then
 (Sum.inr (Sum.inl s)) else
 (Sum.inl (w64 (s + (1 : Int)))))) else
 (Sum.inr (Sum.inr (()))))
noncomputable def indexV3_l0_pre (x : ((List (Int × (Int × Int))) × Bool)) (s : Int) : Prop :=
 ((s < (((List.length x.1) : Nat) : Int)) →
 ((((0 : Int) ≤ s) ∧ (s < (((List.length x.1) : Nat) : Int))) ∧
 (((Int.toNat s) < (List.length x.1)) ∧
 ((Int.toNat s) < (List.length x.1)))))
noncomputable def indexV3_l0_sp (x : ((List (Int × (Int × Int))) × Bool)) : LSpec := loopSp (indexV3_l0_tm x) (indexV3_l0_step x) (indexV3_l0_pre x) (indexV3_l0_out x)
theorem indexV3_l0_vc (x : ((List (Int × (Int × Int))) × Bool)) (s : Int) (K : Exit → AS → Prop) (KN : AS → Prop) : codeE ⟨tt, sp_fsizes, noX, [], [], []⟩ (cI (blk 0 (bodyOf Try.f74))) (indexV3_l0_tm x s) (KB 0 K KN) =
 (cB (decide (s < (((List.length x.1) : Nat) : Int)))
 (ob ((decide ((0 : Int) ≤ s)) && (decide (s < (((List.length x.1) : Nat) : Int))))
 (ob (decide ((Int.toNat s) < (List.length x.1)))
 (ob (decide ((Int.toNat s) < (List.length x.1)))
 ((far_pre (List.getD x.1 (Int.toNat s) zz3)) ∧ ∀ y : Bool, y = (far (List.getD x.1 (Int.toNat s) zz3)) →
 (cB y
 (KB 0 K KN .ret ⟨[.v (.one (.full 0)), .v (.one (.clo (Fn.func 61) [] [])), D, D, vi s, vi s, D, vi (((List.length x.1) : Nat) : Int), vi s, vb (decide (s < (((List.length x.1) : Nat) : Int))), vi s, .v (.one (.clo (Fn.func 61) [] [])), .v (.one (.full 0)), vi s, .v (.one (.eptr 0 (Int.toNat s) 0)), .v (.agg [ci (List.getD x.1 (Int.toNat s) zz3).1, ci (List.getD x.1 (Int.toNat s) zz3).2.1, ci (List.getD x.1 (Int.toNat s) zz3).2.2]), vb y, vi s, D], [.row yy3 x.1 0]⟩)
 (KB 0 K KN .normal ⟨[.v (.one (.full 0)), .v (.one (.clo (Fn.func 61) [] [])), D, D, D, vi s, D, vi (((List.length x.1) : Nat) : Int), vi (w64 (s + (1 : Int))), vb (decide (s < (((List.length x.1) : Nat) : Int))), vi s, .v (.one (.clo (Fn.func 61) [] [])), .v (.one (.full 0)), vi s, .v (.one (.eptr 0 (Int.toNat s) 0)), .v (.agg [ci (List.getD x.1 (Int.toNat s) zz3).1, ci (List.getD x.1 (Int.toNat s) zz3).2.1, ci (List.getD x.1 (Int.toNat s) zz3).2.2]), vb y, D, vi (w64 (s + (1 : Int)))], [.row yy3 x.1 0]⟩))))))
 (KB 0 K KN (.exit 0) ⟨[.v (.one (.full 0)), .v (.one (.clo (Fn.func 61) [] [])), D, D, D, D, D, vi (((List.length x.1) : Nat) : Int), vi s, vb (decide (s < (((List.length x.1) : Nat) : Int))), D, D, D, D, D, D, D, D, D], [.row yy3 x.1 0]⟩)) := by kernel_rfl
theorem indexV3_l0_ok (x : ((List (Int × (Int × Int))) × Bool)) : ∀ st K, indexV3_l0_sp x st K → Vc (codeE ⟨tt, sp_fsizes, noX, [], [], []⟩ (.loop (cI (blk 0 (bodyOf Try.f74)))) st (wrapB 0 (orWeak K))) := loopSp_okV fun s K KN hp hq => .eq (indexV3_l0_vc x s K KN) (have hp := Eq.mp (indexV3_l0_pre.eq_1 x s) hp; have hq := Eq.mp (congrArg (stepQ (indexV3_l0_tm x) (indexV3_l0_out x) K KN) (indexV3_l0_step.eq_1 x s)) hq;
 (cB_d (Q := (stepQ (indexV3_l0_tm x) (indexV3_l0_out x) K KN)) hq (fun c hq => have hp := (hp c); (ob_k (and_t (decide_eq_true hp.1.1) (decide_eq_true hp.1.2)) (have hp := hp.2; (ob_k (decide_eq_true hp.1) (have hp := hp.2; (ob_k (decide_eq_true hp) (And.intro trivial (let_0 (Q := (stepQ (indexV3_l0_tm x) (indexV3_l0_out x) K KN)) hq fun y hq => (cB_b (Q := (stepQ (indexV3_l0_tm x) (indexV3_l0_out x) K KN)) hq (fun c hq => (Exists.intro ⟨[D, D, D, D, vi s, D, D, D, D, D, D, D, D, D, D, D, D, D, D], []⟩ (And.intro (ren_ok (π := []) (And.intro rfl trivial) trivial rfl) hq))) (fun c hq => (Exists.intro (indexV3_l0_tm x (w64 (s + (1 : Int)))) (And.intro (ren_ok (π := [.same 0]) (And.intro rfl (And.intro rfl (And.intro rfl (And.intro rfl trivial)))) (And.intro (ren_same rfl rfl) trivial) rfl) hq)))))))))))) (fun c hq => (Exists.intro ⟨[D, D, D, D, D, D, D, D, D, D, D, D, D, D, D, D, D, D, D], []⟩ (And.intro (ren_ok (π := []) trivial trivial rfl) hq)))))
noncomputable def indexV3 (x : ((List (Int × (Int × Int))) × Bool)) : Int :=
 (letV (run (indexV3_l0_step x) (0 : Int)) fun r =>
 (Sum.elim (fun a =>
 a) (fun b =>
 (-1 : Int)) r))
noncomputable def indexV3_pre (x : ((List (Int × (Int × Int))) × Bool)) : Prop :=
 (Term (indexV3_l0_step x) (indexV3_l0_pre x) (0 : Int))
theorem indexV3_vc (x : ((List (Int × (Int × Int))) × Bool)) (Q : Int → Prop) : fnE ⟨tt, sp_fsizes, noX, [(0, indexV3_l0_sp x)], [], []⟩ Try.f74 (argsE (.pair (.one (Ty.sl yy3)) (.clo 61 .none)) x) (heapE (.pair (.one (Ty.sl yy3)) (.clo 61 .none)) x) (retE (.one yi) Q) =
 (Exists fun s0 : Int => Weak ⟨[.v (.one (.full 0)), .v (.one (.clo (Fn.func 61) [] [])), und, und, vi (0 : Int), und, .v (.one (.full 0)), vi (((List.length x.1) : Nat) : Int), vi (0 : Int), und, und, und, und, und, und, und, und, und, und], [.row yy3 x.1 0]⟩ (indexV3_l0_tm x s0) ∧ Term (indexV3_l0_step x) (indexV3_l0_pre x) s0 ∧ ∀ r : (Int ⊕ Unit), r = run (indexV3_l0_step x) s0 →
 (cS r (fun a =>
 (Q a)) (fun b =>
 (Q (-1 : Int))))) := by kernel_rfl
theorem indexV3_fn (x : ((List (Int × (Int × Int))) × Bool)) (Q : Int → Prop) (hp : indexV3_pre x) (hq : Q (indexV3 x)) : Vc (fnE ⟨tt, sp_fsizes, noX, [(0, indexV3_l0_sp x)], [], []⟩ Try.f74 (argsE (.pair (.one (Ty.sl yy3)) (.clo 61 .none)) x) (heapE (.pair (.one (Ty.sl yy3)) (.clo 61 .none)) x) (retE (.one yi) Q)) := .eq (indexV3_vc x Q) (have hp := Eq.mp (indexV3_pre.eq_1 x) hp; have hq := Eq.mp (congrArg Q (indexV3.eq_1 x)) hq;
 (Exists.intro (0 : Int) (And.intro (ren_ok (π := [.same 0]) (And.intro rfl (And.intro rfl (And.intro rfl (And.intro rfl trivial)))) (And.intro (ren_same rfl rfl) trivial) rfl) (And.intro hp (let_0 (Q := Q) hq fun r hq => (cS_k (Q := Q) (P := fun _ => True) (P' := fun _ => True) (by cases r <;> trivial) hq (fun a _ hq => hq) (fun b _ hq => hq)))))))
noncomputable def indexV3_S : FnS := ⟨(.pair (.one (Ty.sl yy3)) (.clo 61 .none)), (.one yi), indexV3_pre, indexV3⟩
theorem indexV3_ok : SpecOk Try.prog 74 (fnSpec indexV3_S) := SpecOk.fnT' (fn := Try.f74) tt_ok sp_fsizes_ok mixed (by kernel_rfl) (by kernel_rfl) (.pair (.one (Ty.sl yy3)) (.clo 61 .none)) (.one yi) indexV3_pre indexV3 (by kernel_rfl) fun x hp => ⟨_, _, (ItsOk.nil _ _), (LpsOk.consV tt_ok (SpecsOk.ctxI sp_fsizes_ok (ItsOk.nil _ _)) mixed LpsOk.nil (by kernel_rfl) (by kernel_rfl) (indexV3_l0_ok x)), indexV3_fn x (fun y => y = indexV3 x) hp rfl⟩
def sp_indexV3 : List (Nat × Ev.Spec) := (74, fnSpec indexV3_S) :: sp_fsizes
theorem sp_indexV3_ok : SpecsOk Try.prog sp_indexV3 := SpecsOk.cons (Enters.of (fn := Try.f74) (by kernel_rfl) (by kernel_rfl) (by kernel_rfl)) indexV3_ok sp_fsizes_ok
noncomputable def containsV3 (x : ((List (Int × (Int × Int))) × Bool)) : Bool :=
 (letV (indexV3 (x.1, false)) fun y =>
 (decide (y ≥ (0 : Int))))
noncomputable def containsV3_pre (x : ((List (Int × (Int × Int))) × Bool)) : Prop :=
 (indexV3_pre (x.1, false))
theorem containsV3_vc (x : ((List (Int × (Int × Int))) × Bool)) (Q : Bool → Prop) : fnE ⟨tt, sp_indexV3, noX, [], [], []⟩ Try.f60 (argsE (.pair (.one (Ty.sl yy3)) (.clo 61 .none)) x) (heapE (.pair (.one (Ty.sl yy3)) (.clo 61 .none)) x) (retE (.one Ty.bool) Q) =
 ((indexV3_pre (x.1, false)) ∧ ∀ y : Int, y = (indexV3 (x.1, false)) →
 (Q (decide (y ≥ (0 : Int))))) := by kernel_rfl
theorem containsV3_fn (x : ((List (Int × (Int × Int))) × Bool)) (Q : Bool → Prop) (hp : containsV3_pre x) (hq : Q (containsV3 x)) : Vc (fnE ⟨tt, sp_indexV3, noX, [], [], []⟩ Try.f60 (argsE (.pair (.one (Ty.sl yy3)) (.clo 61 .none)) x) (heapE (.pair (.one (Ty.sl yy3)) (.clo 61 .none)) x) (retE (.one Ty.bool) Q)) := .eq (containsV3_vc x Q) (have hp := Eq.mp (containsV3_pre.eq_1 x) hp; have hq := Eq.mp (congrArg Q (containsV3.eq_1 x)) hq;
 (And.intro hp (let_0 (Q := Q) hq fun y hq => hq)))
noncomputable def containsV3_S : FnS := ⟨(.pair (.one (Ty.sl yy3)) (.clo 61 .none)), (.one Ty.bool), containsV3_pre, containsV3⟩
theorem containsV3_ok : SpecOk Try.prog 60 (fnSpec containsV3_S) := SpecOk.fnT' (fn := Try.f60) tt_ok sp_indexV3_ok mixed (by kernel_rfl) (by kernel_rfl) (.pair (.one (Ty.sl yy3)) (.clo 61 .none)) (.one Ty.bool) containsV3_pre containsV3 (by kernel_rfl) fun x hp => ⟨_, _, (ItsOk.nil _ _), LpsOk.nil, containsV3_fn x (fun y => y = containsV3 x) hp rfl⟩
def sp_containsV3 : List (Nat × Ev.Spec) := (60, fnSpec containsV3_S) :: sp_indexV3
theorem sp_containsV3_ok : SpecsOk Try.prog sp_containsV3 := SpecsOk.cons (Enters.of (fn := Try.f60) (by kernel_rfl) (by kernel_rfl) (by kernel_rfl)) containsV3_ok sp_indexV3_ok
noncomputable def tame (x : ((List (Int × (Int × Int))) × ((List (Int × Int)) × ((List (Int × (Int × Int))) × (List ((Int × (Int × Int)) × ((Int × (Int × Int)) × (Int × (Int × Int))))))))) : Bool :=
 (letV (meshis x) fun y =>
 (if (y = true) then
 (letV (containsV3 (x.1, false)) fun y_1 =>
 (!y_1)) else
 false))
noncomputable def tame_pre (x : ((List (Int × (Int × Int))) × ((List (Int × Int)) × ((List (Int × (Int × Int))) × (List ((Int × (Int × Int)) × ((Int × (Int × Int)) × (Int × (Int × Int))))))))) : Prop :=
 ((meshis_pre x) ∧
 letP (meshis x) fun y =>
 ((y = true) →
 (containsV3_pre (x.1, false))))
theorem tame_vc (x : ((List (Int × (Int × Int))) × ((List (Int × Int)) × ((List (Int × (Int × Int))) × (List ((Int × (Int × Int)) × ((Int × (Int × Int)) × (Int × (Int × Int))))))))) (Q : Bool → Prop) : fnE ⟨tt, sp_containsV3, noX, [], [], []⟩ Try.f44 (argsE (.agg (Ty.prod (Ty.sl yy3) (Ty.prod (Ty.sl yy2) (Ty.prod (Ty.sl yy3) (Ty.sl yy9))))) x) (heapE (.agg (Ty.prod (Ty.sl yy3) (Ty.prod (Ty.sl yy2) (Ty.prod (Ty.sl yy3) (Ty.sl yy9))))) x) (retE (.one Ty.bool) Q) =
 ((meshis_pre x) ∧ ∀ y : Bool, y = (meshis x) →
 (cB y
 ((containsV3_pre (x.1, false)) ∧ ∀ y_1 : Bool, y_1 = (containsV3 (x.1, false)) →
 (Q (!y_1)))
 (Q false))) := by kernel_rfl
theorem tame_fn (x : ((List (Int × (Int × Int))) × ((List (Int × Int)) × ((List (Int × (Int × Int))) × (List ((Int × (Int × Int)) × ((Int × (Int × Int)) × (Int × (Int × Int))))))))) (Q : Bool → Prop) (hp : tame_pre x) (hq : Q (tame x)) : Vc (fnE ⟨tt, sp_containsV3, noX, [], [], []⟩ Try.f44 (argsE (.agg (Ty.prod (Ty.sl yy3) (Ty.prod (Ty.sl yy2) (Ty.prod (Ty.sl yy3) (Ty.sl yy9))))) x) (heapE (.agg (Ty.prod (Ty.sl yy3) (Ty.prod (Ty.sl yy2) (Ty.prod (Ty.sl yy3) (Ty.sl yy9))))) x) (retE (.one Ty.bool) Q)) := .eq (tame_vc x Q) (have hp := Eq.mp (tame_pre.eq_1 x) hp; have hq := Eq.mp (congrArg Q (tame.eq_1 x)) hq;
 (And.intro hp.1 (let_k (Q := Q) hp.2 hq fun y hp hq => (cB_b (Q := Q) hq (fun c hq => have hp := (hp c); (And.intro hp (let_0 (Q := Q) hq fun y_1 hq => hq))) (fun c hq => hq)))))
noncomputable def tame_S : FnS := ⟨(.agg (Ty.prod (Ty.sl yy3) (Ty.prod (Ty.sl yy2) (Ty.prod (Ty.sl yy3) (Ty.sl yy9))))), (.one Ty.bool), tame_pre, tame⟩
theorem tame_ok : SpecOk Try.prog 44 (fnSpec tame_S) := SpecOk.fnT' (fn := Try.f44) tt_ok sp_containsV3_ok mixed (by kernel_rfl) (by kernel_rfl) (.agg (Ty.prod (Ty.sl yy3) (Ty.prod (Ty.sl yy2) (Ty.prod (Ty.sl yy3) (Ty.sl yy9))))) (.one Ty.bool) tame_pre tame (by kernel_rfl) fun x hp => ⟨_, _, (ItsOk.nil _ _), LpsOk.nil, tame_fn x (fun y => y = tame x) hp rfl⟩
def sp_tame : List (Nat × Ev.Spec) := (44, fnSpec tame_S) :: sp_containsV3
theorem sp_tame_ok : SpecsOk Try.prog sp_tame := SpecsOk.cons (Enters.of (fn := Try.f44) (by kernel_rfl) (by kernel_rfl) (by kernel_rfl)) tame_ok sp_containsV3_ok
noncomputable def bhas (x : (((List (Int × (Int × Int))) × ((List (Int × Int)) × ((List (Int × (Int × Int))) × (List ((Int × (Int × Int)) × ((Int × (Int × Int)) × (Int × (Int × Int)))))))) × Int)) : Bool :=
 (if (x.2 ≥ (0 : Int)) then
 (decide (x.2 < (((List.length x.1.2.2.2) : Nat) : Int))) else
 false)
noncomputable def bhas_pre (_ : (((List (Int × (Int × Int))) × ((List (Int × Int)) × ((List (Int × (Int × Int))) × (List ((Int × (Int × Int)) × ((Int × (Int × Int)) × (Int × (Int × Int)))))))) × Int)) : Prop := True
theorem bhas_vc (x : (((List (Int × (Int × Int))) × ((List (Int × Int)) × ((List (Int × (Int × Int))) × (List ((Int × (Int × Int)) × ((Int × (Int × Int)) × (Int × (Int × Int)))))))) × Int)) (Q : Bool → Prop) : fnE ⟨tt, sp_tame, noX, [], [], []⟩ Try.f31 (argsE (.pair (.ptr (Ty.prod (Ty.sl yy3) (Ty.prod (Ty.sl yy2) (Ty.prod (Ty.sl yy3) (Ty.sl yy9))))) (.one yi)) x) (heapE (.pair (.ptr (Ty.prod (Ty.sl yy3) (Ty.prod (Ty.sl yy2) (Ty.prod (Ty.sl yy3) (Ty.sl yy9))))) (.one yi)) x) (retE (.one Ty.bool) Q) =
 (cB (decide (x.2 ≥ (0 : Int)))
 (Q (decide (x.2 < (((List.length x.1.2.2.2) : Nat) : Int))))
 (Q false)) := by kernel_rfl
theorem bhas_fn (x : (((List (Int × (Int × Int))) × ((List (Int × Int)) × ((List (Int × (Int × Int))) × (List ((Int × (Int × Int)) × ((Int × (Int × Int)) × (Int × (Int × Int)))))))) × Int)) (Q : Bool → Prop) (hp : bhas_pre x) (hq : Q (bhas x)) : Vc (fnE ⟨tt, sp_tame, noX, [], [], []⟩ Try.f31 (argsE (.pair (.ptr (Ty.prod (Ty.sl yy3) (Ty.prod (Ty.sl yy2) (Ty.prod (Ty.sl yy3) (Ty.sl yy9))))) (.one yi)) x) (heapE (.pair (.ptr (Ty.prod (Ty.sl yy3) (Ty.prod (Ty.sl yy2) (Ty.prod (Ty.sl yy3) (Ty.sl yy9))))) (.one yi)) x) (retE (.one Ty.bool) Q)) := .eq (bhas_vc x Q) (have hp := Eq.mp (bhas_pre.eq_1 x) hp; have hq := Eq.mp (congrArg Q (bhas.eq_1 x)) hq;
 (cB_d (Q := Q) hq (fun c hq => hq) (fun c hq => hq)))
noncomputable def bhas_S : FnS := ⟨(.pair (.ptr (Ty.prod (Ty.sl yy3) (Ty.prod (Ty.sl yy2) (Ty.prod (Ty.sl yy3) (Ty.sl yy9))))) (.one yi)), (.one Ty.bool), bhas_pre, bhas⟩
theorem bhas_ok : SpecOk Try.prog 31 (fnSpec bhas_S) := SpecOk.fnT' (fn := Try.f31) tt_ok sp_tame_ok mixed (by kernel_rfl) (by kernel_rfl) (.pair (.ptr (Ty.prod (Ty.sl yy3) (Ty.prod (Ty.sl yy2) (Ty.prod (Ty.sl yy3) (Ty.sl yy9))))) (.one yi)) (.one Ty.bool) bhas_pre bhas (by kernel_rfl) fun x hp => ⟨_, _, (ItsOk.nil _ _), LpsOk.nil, bhas_fn x (fun y => y = bhas x) hp rfl⟩
def sp_bhas : List (Nat × Ev.Spec) := (31, fnSpec bhas_S) :: sp_tame
theorem sp_bhas_ok : SpecsOk Try.prog sp_bhas := SpecsOk.cons (Enters.of (fn := Try.f31) (by kernel_rfl) (by kernel_rfl) (by kernel_rfl)) bhas_ok sp_tame_ok
noncomputable def bpoints (x : (((List (Int × (Int × Int))) × ((List (Int × Int)) × ((List (Int × (Int × Int))) × (List ((Int × (Int × Int)) × ((Int × (Int × Int)) × (Int × (Int × Int)))))))) × Int)) : ((Int × (Int × Int)) × ((Int × (Int × Int)) × (Int × (Int × Int)))) :=
 ((List.getD x.1.1 (Int.toNat (List.getD x.1.2.2.2 (Int.toNat x.2) (((0 : Int), ((0 : Int), (0 : Int))), (((0 : Int), ((0 : Int), (0 : Int))), ((0 : Int), ((0 : Int), (0 : Int)))))).1.1) ((0 : Int), ((0 : Int), (0 : Int)))), ((List.getD x.1.1 (Int.toNat (List.getD x.1.2.2.2 (Int.toNat x.2) (((0 : Int), ((0 : Int), (0 : Int))), (((0 : Int), ((0 : Int), (0 : Int))), ((0 : Int), ((0 : Int), (0 : Int)))))).2.1.1) ((0 : Int), ((0 : Int), (0 : Int)))), (List.getD x.1.1 (Int.toNat (List.getD x.1.2.2.2 (Int.toNat x.2) (((0 : Int), ((0 : Int), (0 : Int))), (((0 : Int), ((0 : Int), (0 : Int))), ((0 : Int), ((0 : Int), (0 : Int)))))).2.2.1) ((0 : Int), ((0 : Int), (0 : Int))))))
noncomputable def bpoints_pre (x : (((List (Int × (Int × Int))) × ((List (Int × Int)) × ((List (Int × (Int × Int))) × (List ((Int × (Int × Int)) × ((Int × (Int × Int)) × (Int × (Int × Int)))))))) × Int)) : Prop :=
 ((((0 : Int) ≤ x.2) ∧ (x.2 < (((List.length x.1.2.2.2) : Nat) : Int))) ∧
 (((Int.toNat x.2) < (List.length x.1.2.2.2)) ∧
 (((Int.toNat x.2) < (List.length x.1.2.2.2)) ∧
 ((((0 : Int) ≤ (List.getD x.1.2.2.2 (Int.toNat x.2) (((0 : Int), ((0 : Int), (0 : Int))), (((0 : Int), ((0 : Int), (0 : Int))), ((0 : Int), ((0 : Int), (0 : Int)))))).1.1) ∧ ((List.getD x.1.2.2.2 (Int.toNat x.2) (((0 : Int), ((0 : Int), (0 : Int))), (((0 : Int), ((0 : Int), (0 : Int))), ((0 : Int), ((0 : Int), (0 : Int)))))).1.1 < (((List.length x.1.1) : Nat) : Int))) ∧
 (((Int.toNat (List.getD x.1.2.2.2 (Int.toNat x.2) (((0 : Int), ((0 : Int), (0 : Int))), (((0 : Int), ((0 : Int), (0 : Int))), ((0 : Int), ((0 : Int), (0 : Int)))))).1.1) < (List.length x.1.1)) ∧
 (((Int.toNat (List.getD x.1.2.2.2 (Int.toNat x.2) (((0 : Int), ((0 : Int), (0 : Int))), (((0 : Int), ((0 : Int), (0 : Int))), ((0 : Int), ((0 : Int), (0 : Int)))))).1.1) < (List.length x.1.1)) ∧
 ((((0 : Int) ≤ (List.getD x.1.2.2.2 (Int.toNat x.2) (((0 : Int), ((0 : Int), (0 : Int))), (((0 : Int), ((0 : Int), (0 : Int))), ((0 : Int), ((0 : Int), (0 : Int)))))).2.1.1) ∧ ((List.getD x.1.2.2.2 (Int.toNat x.2) (((0 : Int), ((0 : Int), (0 : Int))), (((0 : Int), ((0 : Int), (0 : Int))), ((0 : Int), ((0 : Int), (0 : Int)))))).2.1.1 < (((List.length x.1.1) : Nat) : Int))) ∧
 (((Int.toNat (List.getD x.1.2.2.2 (Int.toNat x.2) (((0 : Int), ((0 : Int), (0 : Int))), (((0 : Int), ((0 : Int), (0 : Int))), ((0 : Int), ((0 : Int), (0 : Int)))))).2.1.1) < (List.length x.1.1)) ∧
 (((Int.toNat (List.getD x.1.2.2.2 (Int.toNat x.2) (((0 : Int), ((0 : Int), (0 : Int))), (((0 : Int), ((0 : Int), (0 : Int))), ((0 : Int), ((0 : Int), (0 : Int)))))).2.1.1) < (List.length x.1.1)) ∧
 ((((0 : Int) ≤ (List.getD x.1.2.2.2 (Int.toNat x.2) (((0 : Int), ((0 : Int), (0 : Int))), (((0 : Int), ((0 : Int), (0 : Int))), ((0 : Int), ((0 : Int), (0 : Int)))))).2.2.1) ∧ ((List.getD x.1.2.2.2 (Int.toNat x.2) (((0 : Int), ((0 : Int), (0 : Int))), (((0 : Int), ((0 : Int), (0 : Int))), ((0 : Int), ((0 : Int), (0 : Int)))))).2.2.1 < (((List.length x.1.1) : Nat) : Int))) ∧
 (((Int.toNat (List.getD x.1.2.2.2 (Int.toNat x.2) (((0 : Int), ((0 : Int), (0 : Int))), (((0 : Int), ((0 : Int), (0 : Int))), ((0 : Int), ((0 : Int), (0 : Int)))))).2.2.1) < (List.length x.1.1)) ∧
 ((Int.toNat (List.getD x.1.2.2.2 (Int.toNat x.2) (((0 : Int), ((0 : Int), (0 : Int))), (((0 : Int), ((0 : Int), (0 : Int))), ((0 : Int), ((0 : Int), (0 : Int)))))).2.2.1) < (List.length x.1.1)))))))))))))
theorem bpoints_vc (x : (((List (Int × (Int × Int))) × ((List (Int × Int)) × ((List (Int × (Int × Int))) × (List ((Int × (Int × Int)) × ((Int × (Int × Int)) × (Int × (Int × Int)))))))) × Int)) (Q : ((Int × (Int × Int)) × ((Int × (Int × Int)) × (Int × (Int × Int)))) → Prop) : fnE ⟨tt, sp_bhas, noX, ((0, unrolled tt sp_bhas noX [] [] [] 0 (cI (blk 0 (bodyOf Try.f45))) 4) :: []), [], []⟩ Try.f45 (argsE (.pair (.ptr (Ty.prod (Ty.sl yy3) (Ty.prod (Ty.sl yy2) (Ty.prod (Ty.sl yy3) (Ty.sl yy9))))) (.one yi)) x) (heapE (.pair (.ptr (Ty.prod (Ty.sl yy3) (Ty.prod (Ty.sl yy2) (Ty.prod (Ty.sl yy3) (Ty.sl yy9))))) (.one yi)) x) (retE (.agg yy9) Q) =
 (ob ((decide ((0 : Int) ≤ x.2)) && (decide (x.2 < (((List.length x.1.2.2.2) : Nat) : Int))))
 (ob (decide ((Int.toNat x.2) < (List.length x.1.2.2.2)))
 (ob (decide ((Int.toNat x.2) < (List.length x.1.2.2.2)))
 (ob ((decide ((0 : Int) ≤ (List.getD x.1.2.2.2 (Int.toNat x.2) zz9).1.1)) && (decide ((List.getD x.1.2.2.2 (Int.toNat x.2) zz9).1.1 < (((List.length x.1.1) : Nat) : Int))))
 (ob (decide ((Int.toNat (List.getD x.1.2.2.2 (Int.toNat x.2) zz9).1.1) < (List.length x.1.1)))
 (ob (decide ((Int.toNat (List.getD x.1.2.2.2 (Int.toNat x.2) zz9).1.1) < (List.length x.1.1)))
 (ob ((decide ((0 : Int) ≤ (List.getD x.1.2.2.2 (Int.toNat x.2) zz9).2.1.1)) && (decide ((List.getD x.1.2.2.2 (Int.toNat x.2) zz9).2.1.1 < (((List.length x.1.1) : Nat) : Int))))
 (ob (decide ((Int.toNat (List.getD x.1.2.2.2 (Int.toNat x.2) zz9).2.1.1) < (List.length x.1.1)))
 (ob (decide ((Int.toNat (List.getD x.1.2.2.2 (Int.toNat x.2) zz9).2.1.1) < (List.length x.1.1)))
 (ob ((decide ((0 : Int) ≤ (List.getD x.1.2.2.2 (Int.toNat x.2) zz9).2.2.1)) && (decide ((List.getD x.1.2.2.2 (Int.toNat x.2) zz9).2.2.1 < (((List.length x.1.1) : Nat) : Int))))
 (ob (decide ((Int.toNat (List.getD x.1.2.2.2 (Int.toNat x.2) zz9).2.2.1) < (List.length x.1.1)))
 (ob (decide ((Int.toNat (List.getD x.1.2.2.2 (Int.toNat x.2) zz9).2.2.1) < (List.length x.1.1)))
 (Q ((List.getD x.1.1 (Int.toNat (List.getD x.1.2.2.2 (Int.toNat x.2) zz9).1.1) zz3), ((List.getD x.1.1 (Int.toNat (List.getD x.1.2.2.2 (Int.toNat x.2) zz9).2.1.1) zz3), (List.getD x.1.1 (Int.toNat (List.getD x.1.2.2.2 (Int.toNat x.2) zz9).2.2.1) zz3)))))))))))))))) := by kernel_rfl
theorem bpoints_fn (x : (((List (Int × (Int × Int))) × ((List (Int × Int)) × ((List (Int × (Int × Int))) × (List ((Int × (Int × Int)) × ((Int × (Int × Int)) × (Int × (Int × Int)))))))) × Int)) (Q : ((Int × (Int × Int)) × ((Int × (Int × Int)) × (Int × (Int × Int)))) → Prop) (hp : bpoints_pre x) (hq : Q (bpoints x)) : Vc (fnE ⟨tt, sp_bhas, noX, ((0, unrolled tt sp_bhas noX [] [] [] 0 (cI (blk 0 (bodyOf Try.f45))) 4) :: []), [], []⟩ Try.f45 (argsE (.pair (.ptr (Ty.prod (Ty.sl yy3) (Ty.prod (Ty.sl yy2) (Ty.prod (Ty.sl yy3) (Ty.sl yy9))))) (.one yi)) x) (heapE (.pair (.ptr (Ty.prod (Ty.sl yy3) (Ty.prod (Ty.sl yy2) (Ty.prod (Ty.sl yy3) (Ty.sl yy9))))) (.one yi)) x) (retE (.agg yy9) Q)) := .eq (bpoints_vc x Q) (have hp := Eq.mp (bpoints_pre.eq_1 x) hp; have hq := Eq.mp (congrArg Q (bpoints.eq_1 x)) hq;
 (ob_k (and_t (decide_eq_true hp.1.1) (decide_eq_true hp.1.2)) (have hp := hp.2; (ob_k (decide_eq_true hp.1) (have hp := hp.2; (ob_k (decide_eq_true hp.1) (have hp := hp.2; (ob_k (and_t (decide_eq_true hp.1.1) (decide_eq_true hp.1.2)) (have hp := hp.2; (ob_k (decide_eq_true hp.1) (have hp := hp.2; (ob_k (decide_eq_true hp.1) (have hp := hp.2; (ob_k (and_t (decide_eq_true hp.1.1) (decide_eq_true hp.1.2)) (have hp := hp.2; (ob_k (decide_eq_true hp.1) (have hp := hp.2; (ob_k (decide_eq_true hp.1) (have hp := hp.2; (ob_k (and_t (decide_eq_true hp.1.1) (decide_eq_true hp.1.2)) (have hp := hp.2; (ob_k (decide_eq_true hp.1) (have hp := hp.2; (ob_k (decide_eq_true hp) hq))))))))))))))))))))))))
noncomputable def bpoints_S : FnS := ⟨(.pair (.ptr (Ty.prod (Ty.sl yy3) (Ty.prod (Ty.sl yy2) (Ty.prod (Ty.sl yy3) (Ty.sl yy9))))) (.one yi)), (.agg yy9), bpoints_pre, bpoints⟩
theorem bpoints_ok : SpecOk Try.prog 45 (fnSpec bpoints_S) := SpecOk.fnT' (fn := Try.f45) tt_ok sp_bhas_ok mixed (by kernel_rfl) (by kernel_rfl) (.pair (.ptr (Ty.prod (Ty.sl yy3) (Ty.prod (Ty.sl yy2) (Ty.prod (Ty.sl yy3) (Ty.sl yy9))))) (.one yi)) (.agg yy9) bpoints_pre bpoints (by kernel_rfl) fun x hp => ⟨_, _, (ItsOk.nil _ _), (LpsOk.unroll tt_ok (SpecsOk.ctxI sp_bhas_ok (ItsOk.nil _ _)) mixed _ LpsOk.nil (by kernel_rfl) (by kernel_rfl)), bpoints_fn x (fun y => y = bpoints x) hp rfl⟩
def sp_bpoints : List (Nat × Ev.Spec) := (45, fnSpec bpoints_S) :: sp_bhas
theorem sp_bpoints_ok : SpecsOk Try.prog sp_bpoints := SpecsOk.cons (Enters.of (fn := Try.f45) (by kernel_rfl) (by kernel_rfl) (by kernel_rfl)) bpoints_ok sp_bhas_ok
noncomputable def bway (x : (((List (Int × (Int × Int))) × ((List (Int × Int)) × ((List (Int × (Int × Int))) × (List ((Int × (Int × Int)) × ((Int × (Int × Int)) × (Int × (Int × Int)))))))) × Int)) : ((Int × Int) × Bool) :=
 (letV (bhas x) fun y =>
 (if ((!y) = true) then
 (((0 : Int), (0 : Int)), false) else
 (letV (bpoints x) fun y_1 =>
 (letV (sfacing y_1) fun y_2 =>
 ((y_2.1, y_2.2.1), (y_2.2.2 == (0 : Int)))))))
noncomputable def bway_pre (x : (((List (Int × (Int × Int))) × ((List (Int × Int)) × ((List (Int × (Int × Int))) × (List ((Int × (Int × Int)) × ((Int × (Int × Int)) × (Int × (Int × Int)))))))) × Int)) : Prop :=
 (letP (bhas x) fun y =>
 (¬ ((!y) = true) →
 ((bpoints_pre x) ∧
 letP (bpoints x) fun y_1 =>
 (sfacing_pre y_1))))
theorem bway_vc (x : (((List (Int × (Int × Int))) × ((List (Int × Int)) × ((List (Int × (Int × Int))) × (List ((Int × (Int × Int)) × ((Int × (Int × Int)) × (Int × (Int × Int)))))))) × Int)) (Q : ((Int × Int) × Bool) → Prop) : fnE ⟨tt, sp_bpoints, noX, [], [], []⟩ Try.f38 (argsE (.pair (.ptr (Ty.prod (Ty.sl yy3) (Ty.prod (Ty.sl yy2) (Ty.prod (Ty.sl yy3) (Ty.sl yy9))))) (.one yi)) x) (heapE (.pair (.ptr (Ty.prod (Ty.sl yy3) (Ty.prod (Ty.sl yy2) (Ty.prod (Ty.sl yy3) (Ty.sl yy9))))) (.one yi)) x) (retE (.pair (.agg yy2) (.one Ty.bool)) Q) =
 ((bhas_pre x) ∧ ∀ y : Bool, y = (bhas x) →
 (cB (!y)
 (Q (zz2, false))
 ((bpoints_pre x) ∧ ∀ y_1 : ((Int × (Int × Int)) × ((Int × (Int × Int)) × (Int × (Int × Int)))), y_1 = (bpoints x) →
 ((sfacing_pre y_1) ∧ ∀ y_2 : (Int × (Int × Int)), y_2 = (sfacing y_1) →
 (Q ((y_2.1, y_2.2.1), (y_2.2.2 == (0 : Int)))))))) := by kernel_rfl
theorem bway_fn (x : (((List (Int × (Int × Int))) × ((List (Int × Int)) × ((List (Int × (Int × Int))) × (List ((Int × (Int × Int)) × ((Int × (Int × Int)) × (Int × (Int × Int)))))))) × Int)) (Q : ((Int × Int) × Bool) → Prop) (hp : bway_pre x) (hq : Q (bway x)) : Vc (fnE ⟨tt, sp_bpoints, noX, [], [], []⟩ Try.f38 (argsE (.pair (.ptr (Ty.prod (Ty.sl yy3) (Ty.prod (Ty.sl yy2) (Ty.prod (Ty.sl yy3) (Ty.sl yy9))))) (.one yi)) x) (heapE (.pair (.ptr (Ty.prod (Ty.sl yy3) (Ty.prod (Ty.sl yy2) (Ty.prod (Ty.sl yy3) (Ty.sl yy9))))) (.one yi)) x) (retE (.pair (.agg yy2) (.one Ty.bool)) Q)) := .eq (bway_vc x Q) (have hp := Eq.mp (bway_pre.eq_1 x) hp; have hq := Eq.mp (congrArg Q (bway.eq_1 x)) hq;
 (And.intro trivial (let_k (Q := Q) hp hq fun y hp hq => (cB_b (Q := Q) hq (fun c hq => hq) (fun c hq => have hp := (hp c); (And.intro hp.1 (let_k (Q := Q) hp.2 hq fun y_1 hp hq => (And.intro hp (let_0 (Q := Q) hq fun y_2 hq => hq)))))))))
noncomputable def bway_S : FnS := ⟨(.pair (.ptr (Ty.prod (Ty.sl yy3) (Ty.prod (Ty.sl yy2) (Ty.prod (Ty.sl yy3) (Ty.sl yy9))))) (.one yi)), (.pair (.agg yy2) (.one Ty.bool)), bway_pre, bway⟩
theorem bway_ok : SpecOk Try.prog 38 (fnSpec bway_S) := SpecOk.fnT' (fn := Try.f38) tt_ok sp_bpoints_ok mixed (by kernel_rfl) (by kernel_rfl) (.pair (.ptr (Ty.prod (Ty.sl yy3) (Ty.prod (Ty.sl yy2) (Ty.prod (Ty.sl yy3) (Ty.sl yy9))))) (.one yi)) (.pair (.agg yy2) (.one Ty.bool)) bway_pre bway (by kernel_rfl) fun x hp => ⟨_, _, (ItsOk.nil _ _), LpsOk.nil, bway_fn x (fun y => y = bway x) hp rfl⟩
def sp_bway : List (Nat × Ev.Spec) := (38, fnSpec bway_S) :: sp_bpoints
theorem sp_bway_ok : SpecsOk Try.prog sp_bway := SpecsOk.cons (Enters.of (fn := Try.f38) (by kernel_rfl) (by kernel_rfl) (by kernel_rfl)) bway_ok sp_bpoints_ok
noncomputable def bshadow (x : (((List (Int × (Int × Int))) × ((List (Int × Int)) × ((List (Int × (Int × Int))) × (List ((Int × (Int × Int)) × ((Int × (Int × Int)) × (Int × (Int × Int)))))))) × (Int × Int))) : ((Int × Int) × ((Int × Int) × (Int × Int))) :=
 (letV (bpoints (x.1, x.2.1)) fun y =>
 (letV (vdrop (y.1, x.2.2)) fun y_1 =>
 (letV (vdrop (y.2.1, x.2.2)) fun y_2 =>
 (letV (vdrop (y.2.2, x.2.2)) fun y_3 =>
 (y_1.1, (y_2.1, y_3.1))))))
noncomputable def bshadow_pre (x : (((List (Int × (Int × Int))) × ((List (Int × Int)) × ((List (Int × (Int × Int))) × (List ((Int × (Int × Int)) × ((Int × (Int × Int)) × (Int × (Int × Int)))))))) × (Int × Int))) : Prop :=
 ((bpoints_pre (x.1, x.2.1)) ∧
 letP (bpoints (x.1, x.2.1)) fun y =>
 ((vdrop_pre (y.1, x.2.2)) ∧
 letP (vdrop (y.1, x.2.2)) fun y_1 =>
 ((vdrop_pre (y.2.1, x.2.2)) ∧
 letP (vdrop (y.2.1, x.2.2)) fun y_2 =>
 (vdrop_pre (y.2.2, x.2.2)))))
theorem bshadow_vc (x : (((List (Int × (Int × Int))) × ((List (Int × Int)) × ((List (Int × (Int × Int))) × (List ((Int × (Int × Int)) × ((Int × (Int × Int)) × (Int × (Int × Int)))))))) × (Int × Int))) (Q : ((Int × Int) × ((Int × Int) × (Int × Int))) → Prop) : fnE ⟨tt, sp_bway, noX, ((0, unrolled tt sp_bway noX [] [] [] 0 (cI (blk 0 (bodyOf Try.f32))) 4) :: []), [], []⟩ Try.f32 (argsE (.pair (.ptr (Ty.prod (Ty.sl yy3) (Ty.prod (Ty.sl yy2) (Ty.prod (Ty.sl yy3) (Ty.sl yy9))))) (.pair (.one yi) (.one yi))) x) (heapE (.pair (.ptr (Ty.prod (Ty.sl yy3) (Ty.prod (Ty.sl yy2) (Ty.prod (Ty.sl yy3) (Ty.sl yy9))))) (.pair (.one yi) (.one yi))) x) (retE (.agg yy6) Q) =
 ((bpoints_pre (x.1, x.2.1)) ∧ ∀ y : ((Int × (Int × Int)) × ((Int × (Int × Int)) × (Int × (Int × Int)))), y = (bpoints (x.1, x.2.1)) →
 ((vdrop_pre (y.1, x.2.2)) ∧ ∀ y_1 : ((Int × Int) × Int), y_1 = (vdrop (y.1, x.2.2)) →
 ((vdrop_pre (y.2.1, x.2.2)) ∧ ∀ y_2 : ((Int × Int) × Int), y_2 = (vdrop (y.2.1, x.2.2)) →
 ((vdrop_pre (y.2.2, x.2.2)) ∧ ∀ y_3 : ((Int × Int) × Int), y_3 = (vdrop (y.2.2, x.2.2)) →
 (Q (y_1.1, (y_2.1, y_3.1))))))) := by kernel_rfl
theorem bshadow_fn (x : (((List (Int × (Int × Int))) × ((List (Int × Int)) × ((List (Int × (Int × Int))) × (List ((Int × (Int × Int)) × ((Int × (Int × Int)) × (Int × (Int × Int)))))))) × (Int × Int))) (Q : ((Int × Int) × ((Int × Int) × (Int × Int))) → Prop) (hp : bshadow_pre x) (hq : Q (bshadow x)) : Vc (fnE ⟨tt, sp_bway, noX, ((0, unrolled tt sp_bway noX [] [] [] 0 (cI (blk 0 (bodyOf Try.f32))) 4) :: []), [], []⟩ Try.f32 (argsE (.pair (.ptr (Ty.prod (Ty.sl yy3) (Ty.prod (Ty.sl yy2) (Ty.prod (Ty.sl yy3) (Ty.sl yy9))))) (.pair (.one yi) (.one yi))) x) (heapE (.pair (.ptr (Ty.prod (Ty.sl yy3) (Ty.prod (Ty.sl yy2) (Ty.prod (Ty.sl yy3) (Ty.sl yy9))))) (.pair (.one yi) (.one yi))) x) (retE (.agg yy6) Q)) := .eq (bshadow_vc x Q) (have hp := Eq.mp (bshadow_pre.eq_1 x) hp; have hq := Eq.mp (congrArg Q (bshadow.eq_1 x)) hq;
 (And.intro hp.1 (let_k (Q := Q) hp.2 hq fun y hp hq => (And.intro hp.1 (let_k (Q := Q) hp.2 hq fun y_1 hp hq => (And.intro hp.1 (let_k (Q := Q) hp.2 hq fun y_2 hp hq => (And.intro hp (let_0 (Q := Q) hq fun y_3 hq => hq)))))))))
noncomputable def bshadow_S : FnS := ⟨(.pair (.ptr (Ty.prod (Ty.sl yy3) (Ty.prod (Ty.sl yy2) (Ty.prod (Ty.sl yy3) (Ty.sl yy9))))) (.pair (.one yi) (.one yi))), (.agg yy6), bshadow_pre, bshadow⟩
theorem bshadow_ok : SpecOk Try.prog 32 (fnSpec bshadow_S) := SpecOk.fnT' (fn := Try.f32) tt_ok sp_bway_ok mixed (by kernel_rfl) (by kernel_rfl) (.pair (.ptr (Ty.prod (Ty.sl yy3) (Ty.prod (Ty.sl yy2) (Ty.prod (Ty.sl yy3) (Ty.sl yy9))))) (.pair (.one yi) (.one yi))) (.agg yy6) bshadow_pre bshadow (by kernel_rfl) fun x hp => ⟨_, _, (ItsOk.nil _ _), (LpsOk.unroll tt_ok (SpecsOk.ctxI sp_bway_ok (ItsOk.nil _ _)) mixed _ LpsOk.nil (by kernel_rfl) (by kernel_rfl)), bshadow_fn x (fun y => y = bshadow x) hp rfl⟩
def sp_bshadow : List (Nat × Ev.Spec) := (32, fnSpec bshadow_S) :: sp_bway
theorem sp_bshadow_ok : SpecsOk Try.prog sp_bshadow := SpecsOk.cons (Enters.of (fn := Try.f32) (by kernel_rfl) (by kernel_rfl) (by kernel_rfl)) bshadow_ok sp_bway_ok
noncomputable def facing (x : (((List (Int × (Int × Int))) × ((List (Int × Int)) × ((List (Int × (Int × Int))) × (List ((Int × (Int × Int)) × ((Int × (Int × Int)) × (Int × (Int × Int)))))))) × Int)) : (Int × (Int × Bool)) :=
 (letV (tame x.1) fun y =>
 (if ((!y) = true) then
 ((0 : Int), ((0 : Int), false)) else
 (letV (bway x) fun y_1 =>
 (y_1.1.1, (y_1.1.2, y_1.2)))))
noncomputable def facing_pre (x : (((List (Int × (Int × Int))) × ((List (Int × Int)) × ((List (Int × (Int × Int))) × (List ((Int × (Int × Int)) × ((Int × (Int × Int)) × (Int × (Int × Int)))))))) × Int)) : Prop :=
 ((tame_pre x.1) ∧
 letP (tame x.1) fun y =>
 (¬ ((!y) = true) →
 (bway_pre x)))
theorem facing_vc (x : (((List (Int × (Int × Int))) × ((List (Int × Int)) × ((List (Int × (Int × Int))) × (List ((Int × (Int × Int)) × ((Int × (Int × Int)) × (Int × (Int × Int)))))))) × Int)) (Q : (Int × (Int × Bool)) → Prop) : fnE ⟨tt, sp_bshadow, noX, [], [], ((30, itFn tt sp_bshadow noX (fun ys => []) [] Try.f30) :: [])⟩ Try.f20 (argsE (.pair (.agg (Ty.prod (Ty.sl yy3) (Ty.prod (Ty.sl yy2) (Ty.prod (Ty.sl yy3) (Ty.sl yy9))))) (.one yi)) x) (heapE (.pair (.agg (Ty.prod (Ty.sl yy3) (Ty.prod (Ty.sl yy2) (Ty.prod (Ty.sl yy3) (Ty.sl yy9))))) (.one yi)) x) (retE (.pair (.one yi) (.pair (.one yi) (.one Ty.bool))) Q) =
 (∀ ρ1 : Env,
 ((tame_pre x.1) ∧ ∀ y : Bool, y = (tame x.1) →
 ((ρ1 = ρ1) ∧
 ((5 = 5) ∧
 (cB (!y)
 (Q ((0 : Int), ((0 : Int), false)))
 ((bway_pre x) ∧ ∀ y_1 : ((Int × Int) × Bool), y_1 = (bway x) →
 (Q (y_1.1.1, (y_1.1.2, y_1.2))))))))) := by kernel_rfl
theorem facing_fn (x : (((List (Int × (Int × Int))) × ((List (Int × Int)) × ((List (Int × (Int × Int))) × (List ((Int × (Int × Int)) × ((Int × (Int × Int)) × (Int × (Int × Int)))))))) × Int)) (Q : (Int × (Int × Bool)) → Prop) (hp : facing_pre x) (hq : Q (facing x)) : Vc (fnE ⟨tt, sp_bshadow, noX, [], [], ((30, itFn tt sp_bshadow noX (fun ys => []) [] Try.f30) :: [])⟩ Try.f20 (argsE (.pair (.agg (Ty.prod (Ty.sl yy3) (Ty.prod (Ty.sl yy2) (Ty.prod (Ty.sl yy3) (Ty.sl yy9))))) (.one yi)) x) (heapE (.pair (.agg (Ty.prod (Ty.sl yy3) (Ty.prod (Ty.sl yy2) (Ty.prod (Ty.sl yy3) (Ty.sl yy9))))) (.one yi)) x) (retE (.pair (.one yi) (.pair (.one yi) (.one Ty.bool))) Q)) := .eq (facing_vc x Q) (have hp := Eq.mp (facing_pre.eq_1 x) hp; have hq := Eq.mp (congrArg Q (facing.eq_1 x)) hq;
 (fun ρ1 => (And.intro hp.1 (let_k (Q := Q) hp.2 hq fun y hp hq => (And.intro rfl (And.intro rfl (cB_b (Q := Q) hq (fun c hq => hq) (fun c hq => have hp := (hp c); (And.intro hp (let_0 (Q := Q) hq fun y_1 hq => hq))))))))))
noncomputable def facing_S : FnS := ⟨(.pair (.agg (Ty.prod (Ty.sl yy3) (Ty.prod (Ty.sl yy2) (Ty.prod (Ty.sl yy3) (Ty.sl yy9))))) (.one yi)), (.pair (.one yi) (.pair (.one yi) (.one Ty.bool))), facing_pre, facing⟩
theorem facing_ok : SpecOk Try.prog 20 (fnSpec facing_S) := SpecOk.fnT' (fn := Try.f20) tt_ok sp_bshadow_ok mixed (by kernel_rfl) (by kernel_rfl) (.pair (.agg (Ty.prod (Ty.sl yy3) (Ty.prod (Ty.sl yy2) (Ty.prod (Ty.sl yy3) (Ty.sl yy9))))) (.one yi)) (.pair (.one yi) (.pair (.one yi) (.one Ty.bool))) facing_pre facing (by kernel_rfl) fun x hp => ⟨_, _, (ItsOk.cons (Enters.of (fn := Try.f30) (by kernel_rfl) (by kernel_rfl) (by kernel_rfl)) (ISpecOk.fn tt_ok sp_bshadow_ok mixed (fn := Try.f30) (by kernel_rfl) (by kernel_rfl) (ItsOk.nil _ _) (fun ys hy => LpsOk.nil)) (ItsOk.nil _ _)), LpsOk.nil, facing_fn x (fun y => y = facing x) hp rfl⟩
def sp_facing : List (Nat × Ev.Spec) := (20, fnSpec facing_S) :: sp_bshadow
theorem sp_facing_ok : SpecsOk Try.prog sp_facing := SpecsOk.cons (Enters.of (fn := Try.f20) (by kernel_rfl) (by kernel_rfl) (by kernel_rfl)) facing_ok sp_bshadow_ok
noncomputable def shadow (x : (((List (Int × (Int × Int))) × ((List (Int × Int)) × ((List (Int × (Int × Int))) × (List ((Int × (Int × Int)) × ((Int × (Int × Int)) × (Int × (Int × Int)))))))) × (Int × Int))) : (((Int × Int) × ((Int × Int) × (Int × Int))) × Int) :=
 (letV (tame x.1) fun y =>
 (if ((!y) = true) then
 ((((0 : Int), (0 : Int)), (((0 : Int), (0 : Int)), ((0 : Int), (0 : Int)))), (1 : Int)) else
 (letV (bhas (x.1, x.2.1)) fun y_1 =>
 (if ((!y_1) = true) then
 ((((0 : Int), (0 : Int)), (((0 : Int), (0 : Int)), ((0 : Int), (0 : Int)))), (1 : Int)) else
 (if (x.2.2 < (0 : Int)) then
 ((((0 : Int), (0 : Int)), (((0 : Int), (0 : Int)), ((0 : Int), (0 : Int)))), (1 : Int)) else
 (if (x.2.2 ≥ (3 : Int)) then
 ((((0 : Int), (0 : Int)), (((0 : Int), (0 : Int)), ((0 : Int), (0 : Int)))), (1 : Int)) else
 (letV (bshadow x) fun y_2 =>
 (y_2, (0 : Int)))))))))
noncomputable def shadow_pre (x : (((List (Int × (Int × Int))) × ((List (Int × Int)) × ((List (Int × (Int × Int))) × (List ((Int × (Int × Int)) × ((Int × (Int × Int)) × (Int × (Int × Int)))))))) × (Int × Int))) : Prop :=
 ((tame_pre x.1) ∧
 letP (tame x.1) fun y =>
 (¬ ((!y) = true) →
 (letP (bhas (x.1, x.2.1)) fun y_1 =>
 (¬ ((!y_1) = true) →
 (¬ (x.2.2 < (0 : Int)) →
 (¬ (x.2.2 ≥ (3 : Int)) →
 (bshadow_pre x)))))))
theorem shadow_vc (x : (((List (Int × (Int × Int))) × ((List (Int × Int)) × ((List (Int × (Int × Int))) × (List ((Int × (Int × Int)) × ((Int × (Int × Int)) × (Int × (Int × Int)))))))) × (Int × Int))) (Q : (((Int × Int) × ((Int × Int) × (Int × Int))) × Int) → Prop) : fnE ⟨tt, sp_facing, noX, [], [], ((30, itFn tt sp_facing noX (fun ys => []) [] Try.f30) :: [])⟩ Try.f12 (argsE (.pair (.agg (Ty.prod (Ty.sl yy3) (Ty.prod (Ty.sl yy2) (Ty.prod (Ty.sl yy3) (Ty.sl yy9))))) (.pair (.one yi) (.one yi))) x) (heapE (.pair (.agg (Ty.prod (Ty.sl yy3) (Ty.prod (Ty.sl yy2) (Ty.prod (Ty.sl yy3) (Ty.sl yy9))))) (.pair (.one yi) (.one yi))) x) (retE (.pair (.agg yy6) (.one yi)) Q) =
 (∀ ρ1 : Env,
 ((tame_pre x.1) ∧ ∀ y : Bool, y = (tame x.1) →
 ((ρ1 = ρ1) ∧
 ((6 = 6) ∧
 (cB (!y)
 (Q (zz6, (1 : Int)))
 ((bhas_pre (x.1, x.2.1)) ∧ ∀ y_1 : Bool, y_1 = (bhas (x.1, x.2.1)) →
 (cB (!y_1)
 (Q (zz6, (1 : Int)))
 (cB (decide (x.2.2 < (0 : Int)))
 (Q (zz6, (1 : Int)))
 (cB (decide (x.2.2 ≥ (3 : Int)))
 (Q (zz6, (1 : Int)))
 ((bshadow_pre x) ∧ ∀ y_2 : ((Int × Int) × ((Int × Int) × (Int × Int))), y_2 = (bshadow x) →
 (Q (y_2, (0 : Int))))))))))))) := by kernel_rfl
theorem shadow_fn (x : (((List (Int × (Int × Int))) × ((List (Int × Int)) × ((List (Int × (Int × Int))) × (List ((Int × (Int × Int)) × ((Int × (Int × Int)) × (Int × (Int × Int)))))))) × (Int × Int))) (Q : (((Int × Int) × ((Int × Int) × (Int × Int))) × Int) → Prop) (hp : shadow_pre x) (hq : Q (shadow x)) : Vc (fnE ⟨tt, sp_facing, noX, [], [], ((30, itFn tt sp_facing noX (fun ys => []) [] Try.f30) :: [])⟩ Try.f12 (argsE (.pair (.agg (Ty.prod (Ty.sl yy3) (Ty.prod (Ty.sl yy2) (Ty.prod (Ty.sl yy3) (Ty.sl yy9))))) (.pair (.one yi) (.one yi))) x) (heapE (.pair (.agg (Ty.prod (Ty.sl yy3) (Ty.prod (Ty.sl yy2) (Ty.prod (Ty.sl yy3) (Ty.sl yy9))))) (.pair (.one yi) (.one yi))) x) (retE (.pair (.agg yy6) (.one yi)) Q)) := .eq (shadow_vc x Q) (have hp := Eq.mp (shadow_pre.eq_1 x) hp; have hq := Eq.mp (congrArg Q (shadow.eq_1 x)) hq;
 (fun ρ1 => (And.intro hp.1 (let_k (Q := Q) hp.2 hq fun y hp hq => (And.intro rfl (And.intro rfl (cB_b (Q := Q) hq (fun c hq => hq) (fun c hq => have hp := (hp c); (And.intro trivial (let_k (Q := Q) hp hq fun y_1 hp hq => (cB_b (Q := Q) hq (fun c hq => hq) (fun c hq => have hp := (hp c); (cB_d (Q := Q) hq (fun c hq => hq) (fun c hq => have hp := (hp c); (cB_d (Q := Q) hq (fun c hq => hq) (fun c hq => have hp := (hp c); (And.intro hp (let_0 (Q := Q) hq fun y_2 hq => hq))))))))))))))))))
noncomputable def shadow_S : FnS := ⟨(.pair (.agg (Ty.prod (Ty.sl yy3) (Ty.prod (Ty.sl yy2) (Ty.prod (Ty.sl yy3) (Ty.sl yy9))))) (.pair (.one yi) (.one yi))), (.pair (.agg yy6) (.one yi)), shadow_pre, shadow⟩
theorem shadow_ok : SpecOk Try.prog 12 (fnSpec shadow_S) := SpecOk.fnT' (fn := Try.f12) tt_ok sp_facing_ok mixed (by kernel_rfl) (by kernel_rfl) (.pair (.agg (Ty.prod (Ty.sl yy3) (Ty.prod (Ty.sl yy2) (Ty.prod (Ty.sl yy3) (Ty.sl yy9))))) (.pair (.one yi) (.one yi))) (.pair (.agg yy6) (.one yi)) shadow_pre shadow (by kernel_rfl) fun x hp => ⟨_, _, (ItsOk.cons (Enters.of (fn := Try.f30) (by kernel_rfl) (by kernel_rfl) (by kernel_rfl)) (ISpecOk.fn tt_ok sp_facing_ok mixed (fn := Try.f30) (by kernel_rfl) (by kernel_rfl) (ItsOk.nil _ _) (fun ys hy => LpsOk.nil)) (ItsOk.nil _ _)), LpsOk.nil, shadow_fn x (fun y => y = shadow x) hp rfl⟩
def sp_shadow : List (Nat × Ev.Spec) := (12, fnSpec shadow_S) :: sp_facing
theorem sp_shadow_ok : SpecsOk Try.prog sp_shadow := SpecsOk.cons (Enters.of (fn := Try.f12) (by kernel_rfl) (by kernel_rfl) (by kernel_rfl)) shadow_ok sp_facing_ok
noncomputable def odd (x : ((Int × Int) × ((Int × Int) × (Int × Int)))) : Bool :=
 (letV (mright x) fun y =>
 (!y))
noncomputable def odd_pre (x : ((Int × Int) × ((Int × Int) × (Int × Int)))) : Prop :=
 (mright_pre x)
theorem odd_vc (x : ((Int × Int) × ((Int × Int) × (Int × Int)))) (Q : Bool → Prop) : fnE ⟨tt, sp_shadow, noX, [], [], []⟩ Try.f27 (argsE (.agg yy6) x) (heapE (.agg yy6) x) (retE (.one Ty.bool) Q) =
 ((mright_pre x) ∧ ∀ y : Bool, y = (mright x) →
 (Q (!y))) := by kernel_rfl
theorem odd_fn (x : ((Int × Int) × ((Int × Int) × (Int × Int)))) (Q : Bool → Prop) (hp : odd_pre x) (hq : Q (odd x)) : Vc (fnE ⟨tt, sp_shadow, noX, [], [], []⟩ Try.f27 (argsE (.agg yy6) x) (heapE (.agg yy6) x) (retE (.one Ty.bool) Q)) := .eq (odd_vc x Q) (have hp := Eq.mp (odd_pre.eq_1 x) hp; have hq := Eq.mp (congrArg Q (odd.eq_1 x)) hq;
 (And.intro hp (let_0 (Q := Q) hq fun y hq => hq)))
noncomputable def odd_S : FnS := ⟨(.agg yy6), (.one Ty.bool), odd_pre, odd⟩
theorem odd_ok : SpecOk Try.prog 27 (fnSpec odd_S) := SpecOk.fnT' (fn := Try.f27) tt_ok sp_shadow_ok mixed (by kernel_rfl) (by kernel_rfl) (.agg yy6) (.one Ty.bool) odd_pre odd (by kernel_rfl) fun x hp => ⟨_, _, (ItsOk.nil _ _), LpsOk.nil, odd_fn x (fun y => y = odd x) hp rfl⟩
def sp_odd : List (Nat × Ev.Spec) := (27, fnSpec odd_S) :: sp_shadow
theorem sp_odd_ok : SpecsOk Try.prog sp_odd := SpecsOk.cons (Enters.of (fn := Try.f27) (by kernel_rfl) (by kernel_rfl) (by kernel_rfl)) odd_ok sp_shadow_ok
noncomputable def indexT_l0_tm (x : ((List ((Int × Int) × ((Int × Int) × (Int × Int)))) × Bool)) (s : Int) : AS := ⟨[.v (.one (.full 0)), .v (.one (.clo (Fn.func 27) [] [])), D, D, D, D, D, vi (((List.length x.1) : Nat) : Int), vi s, D, D, D, D, D, D, D, D, D, D], [.row yy6 x.1 0]⟩
noncomputable def indexT_l0_out (x : ((List ((Int × Int) × ((Int × Int) × (Int × Int)))) × Bool)) (r : (Int ⊕ Unit)) (K : Exit → AS → Prop) : Prop := cS r (fun a0 => K .ret ⟨[D, D, D, D, vi a0, D, D, D, D, D, D, D, D, D, D, D, D, D, D], []⟩) (fun b0 => K .normal ⟨[D, D, D, D, D, D, D, D, D, D, D, D, D, D, D, D, D, D, D], []⟩)
noncomputable def indexT_l0_step (x : ((List ((Int × Int) × ((Int × Int) × (Int × Int)))) × Bool)) (s : Int) : Int ⊕ (Int ⊕ Unit) :=
 (if (s < (((List.length x.1) : Nat) : Int)) then
 (letV (odd (List.getD x.1 (Int.toNat s) (((0 : Int), (0 : Int)), (((0 : Int), (0 : Int)), ((0 : Int), (0 : Int)))))) fun y =>
 (if (y = true) then
 (Sum.inr (Sum.inl s)) else
 (Sum.inl (w64 (s + (1 : Int)))))) else
 (Sum.inr (Sum.inr (()))))
noncomputable def indexT_l0_pre (x : ((List ((Int × Int) × ((Int × Int) × (Int × Int)))) × Bool)) (s : Int) : Prop :=
 ((s < (((List.length x.1) : Nat) : Int)) →
 ((((0 : Int) ≤ s) ∧ (s < (((List.length x.1) : Nat) : Int))) ∧
 (((Int.toNat s) < (List.length x.1)) ∧
 (((Int.toNat s) < (List.length x.1)) ∧
 (odd_pre (List.getD x.1 (Int.toNat s) (((0 : Int), (0 : Int)), (((0 : Int), (0 : Int)), ((0 : Int), (0 : Int))))))))))
noncomputable def indexT_l0_sp (x : ((List ((Int × Int) × ((Int × Int) × (Int × Int)))) × Bool)) : LSpec := loopSp (indexT_l0_tm x) (indexT_l0_step x) (indexT_l0_pre x) (indexT_l0_out x)
theorem indexT_l0_vc (x : ((List ((Int × Int) × ((Int × Int) × (Int × Int)))) × Bool)) (s : Int) (K : Exit → AS → Prop) (KN : AS → Prop) : codeE ⟨tt, sp_odd, noX, [], [], []⟩ (cI (blk 0 (bodyOf Try.f43))) (indexT_l0_tm x s) (KB 0 K KN) =
 (cB (decide (s < (((List.length x.1) : Nat) : Int)))
 (ob ((decide ((0 : Int) ≤ s)) && (decide (s < (((List.length x.1) : Nat) : Int))))
 (ob (decide ((Int.toNat s) < (List.length x.1)))
 (ob (decide ((Int.toNat s) < (List.length x.1)))
 ((odd_pre (List.getD x.1 (Int.toNat s) zz6)) ∧ ∀ y : Bool, y = (odd (List.getD x.1 (Int.toNat s) zz6)) →
 (cB y
 (KB 0 K KN .ret ⟨[.v (.one (.full 0)), .v (.one (.clo (Fn.func 27) [] [])), D, D, vi s, vi s, D, vi (((List.length x.1) : Nat) : Int), vi s, vb (decide (s < (((List.length x.1) : Nat) : Int))), vi s, .v (.one (.clo (Fn.func 27) [] [])), .v (.one (.full 0)), vi s, .v (.one (.eptr 0 (Int.toNat s) 0)), .v (.agg [ci (List.getD x.1 (Int.toNat s) zz6).1.1, ci (List.getD x.1 (Int.toNat s) zz6).1.2, ci (List.getD x.1 (Int.toNat s) zz6).2.1.1, ci (List.getD x.1 (Int.toNat s) zz6).2.1.2, ci (List.getD x.1 (Int.toNat s) zz6).2.2.1, ci (List.getD x.1 (Int.toNat s) zz6).2.2.2]), vb y, vi s, D], [.row yy6 x.1 0]⟩)
 (KB 0 K KN .normal ⟨[.v (.one (.full 0)), .v (.one (.clo (Fn.func 27) [] [])), D, D, D, vi s, D, vi (((List.length x.1) : Nat) : Int), vi (w64 (s + (1 : Int))), vb (decide (s < (((List.length x.1) : Nat) : Int))), vi s, .v (.one (.clo (Fn.func 27) [] [])), .v (.one (.full 0)), vi s, .v (.one (.eptr 0 (Int.toNat s) 0)), .v (.agg [ci (List.getD x.1 (Int.toNat s) zz6).1.1, ci (List.getD x.1 (Int.toNat s) zz6).1.2, ci (List.getD x.1 (Int.toNat s) zz6).2.1.1, ci (List.getD x.1 (Int.toNat s) zz6).2.1.2, ci (List.getD x.1 (Int.toNat s) zz6).2.2.1, ci (List.getD x.1 (Int.toNat s) zz6).2.2.2]), vb y, D, vi (w64 (s + (1 : Int)))], [.row yy6 x.1 0]⟩))))))
 (KB 0 K KN (.exit 0) ⟨[.v (.one (.full 0)), .v (.one (.clo (Fn.func 27) [] [])), D, D, D, D, D, vi (((List.length x.1) : Nat) : Int), vi s, vb (decide (s < (((List.length x.1) : Nat) : Int))), D, D, D, D, D, D, D, D, D], [.row yy6 x.1 0]⟩)) := by kernel_rfl
theorem indexT_l0_ok (x : ((List ((Int × Int) × ((Int × Int) × (Int × Int)))) × Bool)) : ∀ st K, indexT_l0_sp x st K → Vc (codeE ⟨tt, sp_odd, noX, [], [], []⟩ (.loop (cI (blk 0 (bodyOf Try.f43)))) st (wrapB 0 (orWeak K))) := loopSp_okV fun s K KN hp hq => .eq (indexT_l0_vc x s K KN) (have hp := Eq.mp (indexT_l0_pre.eq_1 x s) hp; have hq := Eq.mp (congrArg (stepQ (indexT_l0_tm x) (indexT_l0_out x) K KN) (indexT_l0_step.eq_1 x s)) hq;
 (cB_d (Q := (stepQ (indexT_l0_tm x) (indexT_l0_out x) K KN)) hq (fun c hq => have hp := (hp c); (ob_k (and_t (decide_eq_true hp.1.1) (decide_eq_true hp.1.2)) (have hp := hp.2; (ob_k (decide_eq_true hp.1) (have hp := hp.2; (ob_k (decide_eq_true hp.1) (have hp := hp.2; (And.intro hp (let_0 (Q := (stepQ (indexT_l0_tm x) (indexT_l0_out x) K KN)) hq fun y hq => (cB_b (Q := (stepQ (indexT_l0_tm x) (indexT_l0_out x) K KN)) hq (fun c hq => (Exists.intro ⟨[D, D, D, D, vi s, D, D, D, D, D, D, D, D, D, D, D, D, D, D], []⟩ (And.intro (ren_ok (π := []) (And.intro rfl trivial) trivial rfl) hq))) (fun c hq => (Exists.intro (indexT_l0_tm x (w64 (s + (1 : Int)))) (And.intro (ren_ok (π := [.same 0]) (And.intro rfl (And.intro rfl (And.intro rfl (And.intro rfl trivial)))) (And.intro (ren_same rfl rfl) trivial) rfl) hq))))))))))))) (fun c hq => (Exists.intro ⟨[D, D, D, D, D, D, D, D, D, D, D, D, D, D, D, D, D, D, D], []⟩ (And.intro (ren_ok (π := []) trivial trivial rfl) hq)))))
noncomputable def indexT (x : ((List ((Int × Int) × ((Int × Int) × (Int × Int)))) × Bool)) : Int :=
 (letV (run (indexT_l0_step x) (0 : Int)) fun r =>
 (Sum.elim (fun a =>
 a) (fun b =>
 (-1 : Int)) r))
noncomputable def indexT_pre (x : ((List ((Int × Int) × ((Int × Int) × (Int × Int)))) × Bool)) : Prop :=
 (Term (indexT_l0_step x) (indexT_l0_pre x) (0 : Int))
theorem indexT_vc (x : ((List ((Int × Int) × ((Int × Int) × (Int × Int)))) × Bool)) (Q : Int → Prop) : fnE ⟨tt, sp_odd, noX, [(0, indexT_l0_sp x)], [], []⟩ Try.f43 (argsE (.pair (.one (Ty.sl yy6)) (.clo 27 .none)) x) (heapE (.pair (.one (Ty.sl yy6)) (.clo 27 .none)) x) (retE (.one yi) Q) =
 (Exists fun s0 : Int => Weak ⟨[.v (.one (.full 0)), .v (.one (.clo (Fn.func 27) [] [])), und, und, vi (0 : Int), und, .v (.one (.full 0)), vi (((List.length x.1) : Nat) : Int), vi (0 : Int), und, und, und, und, und, und, und, und, und, und], [.row yy6 x.1 0]⟩ (indexT_l0_tm x s0) ∧ Term (indexT_l0_step x) (indexT_l0_pre x) s0 ∧ ∀ r : (Int ⊕ Unit), r = run (indexT_l0_step x) s0 →
 (cS r (fun a =>
 (Q a)) (fun b =>
 (Q (-1 : Int))))) := by kernel_rfl
theorem indexT_fn (x : ((List ((Int × Int) × ((Int × Int) × (Int × Int)))) × Bool)) (Q : Int → Prop) (hp : indexT_pre x) (hq : Q (indexT x)) : Vc (fnE ⟨tt, sp_odd, noX, [(0, indexT_l0_sp x)], [], []⟩ Try.f43 (argsE (.pair (.one (Ty.sl yy6)) (.clo 27 .none)) x) (heapE (.pair (.one (Ty.sl yy6)) (.clo 27 .none)) x) (retE (.one yi) Q)) := .eq (indexT_vc x Q) (have hp := Eq.mp (indexT_pre.eq_1 x) hp; have hq := Eq.mp (congrArg Q (indexT.eq_1 x)) hq;
 (Exists.intro (0 : Int) (And.intro (ren_ok (π := [.same 0]) (And.intro rfl (And.intro rfl (And.intro rfl (And.intro rfl trivial)))) (And.intro (ren_same rfl rfl) trivial) rfl) (And.intro hp (let_0 (Q := Q) hq fun r hq => (cS_k (Q := Q) (P := fun _ => True) (P' := fun _ => True) (by cases r <;> trivial) hq (fun a _ hq => hq) (fun b _ hq => hq)))))))
noncomputable def indexT_S : FnS := ⟨(.pair (.one (Ty.sl yy6)) (.clo 27 .none)), (.one yi), indexT_pre, indexT⟩
theorem indexT_ok : SpecOk Try.prog 43 (fnSpec indexT_S) := SpecOk.fnT' (fn := Try.f43) tt_ok sp_odd_ok mixed (by kernel_rfl) (by kernel_rfl) (.pair (.one (Ty.sl yy6)) (.clo 27 .none)) (.one yi) indexT_pre indexT (by kernel_rfl) fun x hp => ⟨_, _, (ItsOk.nil _ _), (LpsOk.consV tt_ok (SpecsOk.ctxI sp_odd_ok (ItsOk.nil _ _)) mixed LpsOk.nil (by kernel_rfl) (by kernel_rfl) (indexT_l0_ok x)), indexT_fn x (fun y => y = indexT x) hp rfl⟩
def sp_indexT : List (Nat × Ev.Spec) := (43, fnSpec indexT_S) :: sp_odd
theorem sp_indexT_ok : SpecsOk Try.prog sp_indexT := SpecsOk.cons (Enters.of (fn := Try.f43) (by kernel_rfl) (by kernel_rfl) (by kernel_rfl)) indexT_ok sp_odd_ok
noncomputable def containsT (x : ((List ((Int × Int) × ((Int × Int) × (Int × Int)))) × Bool)) : Bool :=
 (letV (indexT (x.1, false)) fun y =>
 (decide (y ≥ (0 : Int))))
noncomputable def containsT_pre (x : ((List ((Int × Int) × ((Int × Int) × (Int × Int)))) × Bool)) : Prop :=
 (indexT_pre (x.1, false))
theorem containsT_vc (x : ((List ((Int × Int) × ((Int × Int) × (Int × Int)))) × Bool)) (Q : Bool → Prop) : fnE ⟨tt, sp_indexT, noX, [], [], []⟩ Try.f29 (argsE (.pair (.one (Ty.sl yy6)) (.clo 27 .none)) x) (heapE (.pair (.one (Ty.sl yy6)) (.clo 27 .none)) x) (retE (.one Ty.bool) Q) =
 ((indexT_pre (x.1, false)) ∧ ∀ y : Int, y = (indexT (x.1, false)) →
 (Q (decide (y ≥ (0 : Int))))) := by kernel_rfl
theorem containsT_fn (x : ((List ((Int × Int) × ((Int × Int) × (Int × Int)))) × Bool)) (Q : Bool → Prop) (hp : containsT_pre x) (hq : Q (containsT x)) : Vc (fnE ⟨tt, sp_indexT, noX, [], [], []⟩ Try.f29 (argsE (.pair (.one (Ty.sl yy6)) (.clo 27 .none)) x) (heapE (.pair (.one (Ty.sl yy6)) (.clo 27 .none)) x) (retE (.one Ty.bool) Q)) := .eq (containsT_vc x Q) (have hp := Eq.mp (containsT_pre.eq_1 x) hp; have hq := Eq.mp (congrArg Q (containsT.eq_1 x)) hq;
 (And.intro hp (let_0 (Q := Q) hq fun y hq => hq)))
noncomputable def containsT_S : FnS := ⟨(.pair (.one (Ty.sl yy6)) (.clo 27 .none)), (.one Ty.bool), containsT_pre, containsT⟩
theorem containsT_ok : SpecOk Try.prog 29 (fnSpec containsT_S) := SpecOk.fnT' (fn := Try.f29) tt_ok sp_indexT_ok mixed (by kernel_rfl) (by kernel_rfl) (.pair (.one (Ty.sl yy6)) (.clo 27 .none)) (.one Ty.bool) containsT_pre containsT (by kernel_rfl) fun x hp => ⟨_, _, (ItsOk.nil _ _), LpsOk.nil, containsT_fn x (fun y => y = containsT x) hp rfl⟩
def sp_containsT : List (Nat × Ev.Spec) := (29, fnSpec containsT_S) :: sp_indexT
theorem sp_containsT_ok : SpecsOk Try.prog sp_containsT := SpecsOk.cons (Enters.of (fn := Try.f29) (by kernel_rfl) (by kernel_rfl) (by kernel_rfl)) containsT_ok sp_indexT_ok
noncomputable def mside (x : ((Int × Int) × ((Int × Int) × ((Int × Int) × Int)))) : Int :=
 (letV (sside (x.2.1, (x.2.2.1, x.1))) fun y =>
 (w64 (x.2.2.2 * y.1)))
noncomputable def mside_pre (x : ((Int × Int) × ((Int × Int) × ((Int × Int) × Int)))) : Prop :=
 (sside_pre (x.2.1, (x.2.2.1, x.1)))
theorem mside_vc (x : ((Int × Int) × ((Int × Int) × ((Int × Int) × Int)))) (Q : Int → Prop) : fnE ⟨tt, sp_containsT, noX, [], [], []⟩ Try.f78 (argsE (.pair (.agg yy2) (.pair (.ptr (.prod (.int .i64) (.int .i64))) (.pair (.ptr (.prod (.int .i64) (.int .i64))) (.ptr (.int .i64))))) x) (heapE (.pair (.agg yy2) (.pair (.ptr (.prod (.int .i64) (.int .i64))) (.pair (.ptr (.prod (.int .i64) (.int .i64))) (.ptr (.int .i64))))) x) (retE (.one yi) Q) =
 ((sside_pre (x.2.1, (x.2.2.1, x.1))) ∧ ∀ y : (Int × Int), y = (sside (x.2.1, (x.2.2.1, x.1))) →
 (Q (w64 (x.2.2.2 * y.1)))) := by kernel_rfl
theorem mside_fn (x : ((Int × Int) × ((Int × Int) × ((Int × Int) × Int)))) (Q : Int → Prop) (hp : mside_pre x) (hq : Q (mside x)) : Vc (fnE ⟨tt, sp_containsT, noX, [], [], []⟩ Try.f78 (argsE (.pair (.agg yy2) (.pair (.ptr (.prod (.int .i64) (.int .i64))) (.pair (.ptr (.prod (.int .i64) (.int .i64))) (.ptr (.int .i64))))) x) (heapE (.pair (.agg yy2) (.pair (.ptr (.prod (.int .i64) (.int .i64))) (.pair (.ptr (.prod (.int .i64) (.int .i64))) (.ptr (.int .i64))))) x) (retE (.one yi) Q)) := .eq (mside_vc x Q) (have hp := Eq.mp (mside_pre.eq_1 x) hp; have hq := Eq.mp (congrArg Q (mside.eq_1 x)) hq;
 (And.intro hp (let_0 (Q := Q) hq fun y hq => hq)))
noncomputable def mside_S : FnS := ⟨(.pair (.agg yy2) (.pair (.ptr (.prod (.int .i64) (.int .i64))) (.pair (.ptr (.prod (.int .i64) (.int .i64))) (.ptr (.int .i64))))), (.one yi), mside_pre, mside⟩
theorem mside_ok : SpecOk Try.prog 78 (fnSpec mside_S) := SpecOk.fnT' (fn := Try.f78) tt_ok sp_containsT_ok mixed (by kernel_rfl) (by kernel_rfl) (.pair (.agg yy2) (.pair (.ptr (.prod (.int .i64) (.int .i64))) (.pair (.ptr (.prod (.int .i64) (.int .i64))) (.ptr (.int .i64))))) (.one yi) mside_pre mside (by kernel_rfl) fun x hp => ⟨_, _, (ItsOk.nil _ _), LpsOk.nil, mside_fn x (fun y => y = mside x) hp rfl⟩
def sp_mside : List (Nat × Ev.Spec) := (78, fnSpec mside_S) :: sp_containsT
theorem sp_mside_ok : SpecsOk Try.prog sp_mside := SpecsOk.cons (Enters.of (fn := Try.f78) (by kernel_rfl) (by kernel_rfl) (by kernel_rfl)) mside_ok sp_containsT_ok
end Go.Proofs.Ytpbbnoggkbfkoaa
