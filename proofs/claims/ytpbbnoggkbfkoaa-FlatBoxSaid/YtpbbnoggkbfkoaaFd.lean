/- Models of functions of layer 16: copies, turned triangles. -/
import Derived.Test.YtpbbnoggkbfkoaaFb
namespace Go.Proofs.Ytpbbnoggkbfkoaa
open Go Go.Ev Go.Proofs
set_option linter.unusedVariables false
noncomputable def cloneI (x : (List Int)) : (List Int) :=
 x
noncomputable def cloneI_pre (x : (List Int)) : Prop :=
 (∀ b : Bool, ((0 < (List.length x)) → (b = false)) → (((if (b = true) then
 [] else
 x) = x) ∧ (¬ (b = true) →
 ((0 + (List.length x)) < 1099511627776))))
theorem cloneI_vc (x : (List Int)) (Q : (List Int) → Prop) : fnE ⟨tt, sp_mside, noX, [], [], [(25, deadIt)]⟩ Try.f25 (argsE (.one (Ty.sl yi)) x) (heapE (.one (Ty.sl yi)) x) (retE (.one (Ty.sl yi)) Q) =
 (∀ b : Bool, ((0 < (List.length x)) → (b = false)) →
 (cB b
 (Q [])
 (ob (decide ((0 + (List.length x)) < 1099511627776))
 (Q x)))) := by kernel_rfl
theorem cloneI_fn (x : (List Int)) (Q : (List Int) → Prop) (hp : cloneI_pre x) (hq : Q (cloneI x)) : Vc (fnE ⟨tt, sp_mside, noX, [], [], [(25, deadIt)]⟩ Try.f25 (argsE (.one (Ty.sl yi)) x) (heapE (.one (Ty.sl yi)) x) (retE (.one (Ty.sl yi)) Q)) := .eq (cloneI_vc x Q) (have hp := Eq.mp (cloneI_pre.eq_1 x) hp; have hq := Eq.mp (congrArg Q (cloneI.eq_1 x)) hq;
 (fun b hb => (have hn := hp b hb; have hq := Eq.mpr (congrArg Q hn.1) hq; have hp := hn.2; (cB_b (Q := Q) hq (fun c hq => hq) (fun c hq => have hp := (hp c); (ob_k (decide_eq_true hp) hq))))))
noncomputable def cloneI_S : FnS := ⟨(.one (Ty.sl yi)), (.one (Ty.sl yi)), cloneI_pre, cloneI⟩
theorem cloneI_ok : SpecOk Try.prog 25 (fnSpec cloneI_S) := SpecOk.fnT' (fn := Try.f25) tt_ok sp_mside_ok mixed (by kernel_rfl) (by kernel_rfl) (.one (Ty.sl yi)) (.one (Ty.sl yi)) cloneI_pre cloneI (by kernel_rfl) fun x hp => ⟨_, _, (ItsOk.cons (Enters.of (fn := Try.f25) (by kernel_rfl) (by kernel_rfl) (by kernel_rfl)) deadIt_ok (ItsOk.nil _ _)), LpsOk.nil, cloneI_fn x (fun y => y = cloneI x) hp rfl⟩
def sp_cloneI : List (Nat × Ev.Spec) := (25, fnSpec cloneI_S) :: sp_mside
theorem sp_cloneI_ok : SpecsOk Try.prog sp_cloneI := SpecsOk.cons (Enters.of (fn := Try.f25) (by kernel_rfl) (by kernel_rfl) (by kernel_rfl)) cloneI_ok sp_mside_ok
noncomputable def cloneT (x : (List ((Int × Int) × ((Int × Int) × (Int × Int))))) : (List ((Int × Int) × ((Int × Int) × (Int × Int)))) :=
 x
noncomputable def cloneT_pre (x : (List ((Int × Int) × ((Int × Int) × (Int × Int))))) : Prop :=
 (∀ b : Bool, ((0 < (List.length x)) → (b = false)) → (((if (b = true) then
 [] else
 x) = x) ∧ (¬ (b = true) →
 ((0 + (List.length x)) < 1099511627776))))
theorem cloneT_vc (x : (List ((Int × Int) × ((Int × Int) × (Int × Int))))) (Q : (List ((Int × Int) × ((Int × Int) × (Int × Int)))) → Prop) : fnE ⟨tt, sp_cloneI, noX, [], [], [(42, deadIt)]⟩ Try.f42 (argsE (.one (Ty.sl yy6)) x) (heapE (.one (Ty.sl yy6)) x) (retE (.one (Ty.sl yy6)) Q) =
 (∀ b : Bool, ((0 < (List.length x)) → (b = false)) →
 (cB b
 (Q [])
 (ob (decide ((0 + (List.length x)) < 1099511627776))
 (Q x)))) := by kernel_rfl
theorem cloneT_fn (x : (List ((Int × Int) × ((Int × Int) × (Int × Int))))) (Q : (List ((Int × Int) × ((Int × Int) × (Int × Int)))) → Prop) (hp : cloneT_pre x) (hq : Q (cloneT x)) : Vc (fnE ⟨tt, sp_cloneI, noX, [], [], [(42, deadIt)]⟩ Try.f42 (argsE (.one (Ty.sl yy6)) x) (heapE (.one (Ty.sl yy6)) x) (retE (.one (Ty.sl yy6)) Q)) := .eq (cloneT_vc x Q) (have hp := Eq.mp (cloneT_pre.eq_1 x) hp; have hq := Eq.mp (congrArg Q (cloneT.eq_1 x)) hq;
 (fun b hb => (have hn := hp b hb; have hq := Eq.mpr (congrArg Q hn.1) hq; have hp := hn.2; (cB_b (Q := Q) hq (fun c hq => hq) (fun c hq => have hp := (hp c); (ob_k (decide_eq_true hp) hq))))))
noncomputable def cloneT_S : FnS := ⟨(.one (Ty.sl yy6)), (.one (Ty.sl yy6)), cloneT_pre, cloneT⟩
theorem cloneT_ok : SpecOk Try.prog 42 (fnSpec cloneT_S) := SpecOk.fnT' (fn := Try.f42) tt_ok sp_cloneI_ok mixed (by kernel_rfl) (by kernel_rfl) (.one (Ty.sl yy6)) (.one (Ty.sl yy6)) cloneT_pre cloneT (by kernel_rfl) fun x hp => ⟨_, _, (ItsOk.cons (Enters.of (fn := Try.f42) (by kernel_rfl) (by kernel_rfl) (by kernel_rfl)) deadIt_ok (ItsOk.nil _ _)), LpsOk.nil, cloneT_fn x (fun y => y = cloneT x) hp rfl⟩
def sp_cloneT : List (Nat × Ev.Spec) := (42, fnSpec cloneT_S) :: sp_cloneI
theorem sp_cloneT_ok : SpecsOk Try.prog sp_cloneT := SpecsOk.cons (Enters.of (fn := Try.f42) (by kernel_rfl) (by kernel_rfl) (by kernel_rfl)) cloneT_ok sp_cloneI_ok
noncomputable def layc (x : ((Int × Int) × ((Int × Int) × Int))) : (Int × Int) :=
 ((w64 ((w64 (x.1.1 - x.2.1.1)) * x.2.2)), (w64 ((w64 (x.1.2 - x.2.1.2)) * x.2.2)))
noncomputable def layc_pre (_ : ((Int × Int) × ((Int × Int) × Int))) : Prop := True
theorem layc_vc (x : ((Int × Int) × ((Int × Int) × Int))) (Q : (Int × Int) → Prop) : fnE ⟨tt, sp_cloneT, noX, [], [], []⟩ Try.f21 (argsE (.pair (.agg yy2) (.pair (.ptr (.prod (.int .i64) (.int .i64))) (.ptr (.int .i64)))) x) (heapE (.pair (.agg yy2) (.pair (.ptr (.prod (.int .i64) (.int .i64))) (.ptr (.int .i64)))) x) (retE (.agg yy2) Q) =
 (Q ((w64 ((w64 (x.1.1 - x.2.1.1)) * x.2.2)), (w64 ((w64 (x.1.2 - x.2.1.2)) * x.2.2)))) := by kernel_rfl
theorem layc_fn (x : ((Int × Int) × ((Int × Int) × Int))) (Q : (Int × Int) → Prop) (hp : layc_pre x) (hq : Q (layc x)) : Vc (fnE ⟨tt, sp_cloneT, noX, [], [], []⟩ Try.f21 (argsE (.pair (.agg yy2) (.pair (.ptr (.prod (.int .i64) (.int .i64))) (.ptr (.int .i64)))) x) (heapE (.pair (.agg yy2) (.pair (.ptr (.prod (.int .i64) (.int .i64))) (.ptr (.int .i64)))) x) (retE (.agg yy2) Q)) := .eq (layc_vc x Q) (have hp := Eq.mp (layc_pre.eq_1 x) hp; have hq := Eq.mp (congrArg Q (layc.eq_1 x)) hq;
 hq)
noncomputable def layc_S : FnS := ⟨(.pair (.agg yy2) (.pair (.ptr (.prod (.int .i64) (.int .i64))) (.ptr (.int .i64)))), (.agg yy2), layc_pre, layc⟩
theorem layc_ok : SpecOk Try.prog 21 (fnSpec layc_S) := SpecOk.fnT' (fn := Try.f21) tt_ok sp_cloneT_ok mixed (by kernel_rfl) (by kernel_rfl) (.pair (.agg yy2) (.pair (.ptr (.prod (.int .i64) (.int .i64))) (.ptr (.int .i64)))) (.agg yy2) layc_pre layc (by kernel_rfl) fun x hp => ⟨_, _, (ItsOk.nil _ _), LpsOk.nil, layc_fn x (fun y => y = layc x) hp rfl⟩
def sp_layc : List (Nat × Ev.Spec) := (21, fnSpec layc_S) :: sp_cloneT
theorem sp_layc_ok : SpecsOk Try.prog sp_layc := SpecsOk.cons (Enters.of (fn := Try.f21) (by kernel_rfl) (by kernel_rfl) (by kernel_rfl)) layc_ok sp_cloneT_ok
noncomputable def movec (x : ((Int × Int) × (Int × Int))) : (Int × Int) :=
 ((w64 (x.1.1 + x.2.1)), (w64 (x.1.2 + x.2.2)))
noncomputable def movec_pre (_ : ((Int × Int) × (Int × Int))) : Prop := True
theorem movec_vc (x : ((Int × Int) × (Int × Int))) (Q : (Int × Int) → Prop) : fnE ⟨tt, sp_layc, noX, [], [], []⟩ Try.f34 (argsE (.pair (.agg yy2) (.ptr (.prod (.int .i64) (.int .i64)))) x) (heapE (.pair (.agg yy2) (.ptr (.prod (.int .i64) (.int .i64)))) x) (retE (.agg yy2) Q) =
 (Q ((w64 (x.1.1 + x.2.1)), (w64 (x.1.2 + x.2.2)))) := by kernel_rfl
theorem movec_fn (x : ((Int × Int) × (Int × Int))) (Q : (Int × Int) → Prop) (hp : movec_pre x) (hq : Q (movec x)) : Vc (fnE ⟨tt, sp_layc, noX, [], [], []⟩ Try.f34 (argsE (.pair (.agg yy2) (.ptr (.prod (.int .i64) (.int .i64)))) x) (heapE (.pair (.agg yy2) (.ptr (.prod (.int .i64) (.int .i64)))) x) (retE (.agg yy2) Q)) := .eq (movec_vc x Q) (have hp := Eq.mp (movec_pre.eq_1 x) hp; have hq := Eq.mp (congrArg Q (movec.eq_1 x)) hq;
 hq)
noncomputable def movec_S : FnS := ⟨(.pair (.agg yy2) (.ptr (.prod (.int .i64) (.int .i64)))), (.agg yy2), movec_pre, movec⟩
theorem movec_ok : SpecOk Try.prog 34 (fnSpec movec_S) := SpecOk.fnT' (fn := Try.f34) tt_ok sp_layc_ok mixed (by kernel_rfl) (by kernel_rfl) (.pair (.agg yy2) (.ptr (.prod (.int .i64) (.int .i64)))) (.agg yy2) movec_pre movec (by kernel_rfl) fun x hp => ⟨_, _, (ItsOk.nil _ _), LpsOk.nil, movec_fn x (fun y => y = movec x) hp rfl⟩
def sp_movec : List (Nat × Ev.Spec) := (34, fnSpec movec_S) :: sp_layc
theorem sp_movec_ok : SpecsOk Try.prog sp_movec := SpecsOk.cons (Enters.of (fn := Try.f34) (by kernel_rfl) (by kernel_rfl) (by kernel_rfl)) movec_ok sp_layc_ok
noncomputable def turnedL_l0_tm (x : ((List ((Int × Int) × ((Int × Int) × (Int × Int)))) × ((Int × Int) × Int))) (s : ((List ((Int × Int) × ((Int × Int) × (Int × Int)))) × (Int × Int))) : AS := ⟨(D :: .v (.one (.clo (Fn.func 21) [] [(Ref.elem 0 0), (Ref.elem 1 0)])) :: D :: D :: D :: .v (.one (.full 2)) :: D :: D :: D :: D :: D :: D :: .v (.one (.full 2)) :: vi s.2.1 :: vi s.2.2 :: D :: D :: D :: D :: D :: D :: D :: D :: D :: D :: D :: D :: D :: D :: D :: D :: D :: D :: D :: D :: []), [.row yy2 [x.2.1] 0, .row yi [x.2.2] 0, .row yy6 s.1 2]⟩
noncomputable def turnedL_l0_out (x : ((List ((Int × Int) × ((Int × Int) × (Int × Int)))) × ((Int × Int) × Int))) (r : (List ((Int × Int) × ((Int × Int) × (Int × Int))))) (K : Exit → AS → Prop) : Prop := K .normal ⟨(D :: D :: D :: D :: D :: .v (.one (.full 0)) :: D :: D :: D :: D :: D :: D :: D :: D :: D :: D :: D :: D :: D :: D :: D :: D :: D :: D :: D :: D :: D :: D :: D :: D :: D :: D :: D :: D :: D :: []), [.row yy6 r 2]⟩
noncomputable def turnedL_l0_step (x : ((List ((Int × Int) × ((Int × Int) × (Int × Int)))) × ((Int × Int) × Int))) (s : ((List ((Int × Int) × ((Int × Int) × (Int × Int)))) × (Int × Int))) : ((List ((Int × Int) × ((Int × Int) × (Int × Int)))) × (Int × Int)) ⊕ (List ((Int × Int) × ((Int × Int) × (Int × Int)))) :=
 (if (s.2.2 < s.2.1) then
 (letV (layc ((List.getD s.1 (Int.toNat s.2.2) (((0 : Int), (0 : Int)), (((0 : Int), (0 : Int)), ((0 : Int), (0 : Int))))).1, x.2)) fun y =>
 (letV (List.set s.1 (Int.toNat s.2.2) (y, (List.getD s.1 (Int.toNat s.2.2) (((0 : Int), (0 : Int)), (((0 : Int), (0 : Int)), ((0 : Int), (0 : Int))))).2)) fun y_1 =>
 (letV (layc ((List.getD s.1 (Int.toNat s.2.2) (((0 : Int), (0 : Int)), (((0 : Int), (0 : Int)), ((0 : Int), (0 : Int))))).2.1, x.2)) fun y_2 =>
 (letV (List.set y_1 (Int.toNat s.2.2) ((List.getD y_1 (Int.toNat s.2.2) (((0 : Int), (0 : Int)), (((0 : Int), (0 : Int)), ((0 : Int), (0 : Int))))).1, (y_2, (List.getD y_1 (Int.toNat s.2.2) (((0 : Int), (0 : Int)), (((0 : Int), (0 : Int)), ((0 : Int), (0 : Int))))).2.2))) fun y_3 =>
 (letV (layc ((List.getD s.1 (Int.toNat s.2.2) (((0 : Int), (0 : Int)), (((0 : Int), (0 : Int)), ((0 : Int), (0 : Int))))).2.2, x.2)) fun y_4 =>
 (letV (List.set y_3 (Int.toNat s.2.2) ((List.getD y_3 (Int.toNat s.2.2) (((0 : Int), (0 : Int)), (((0 : Int), (0 : Int)), ((0 : Int), (0 : Int))))).1, ((List.getD y_3 (Int.toNat s.2.2) (((0 : Int), (0 : Int)), (((0 : Int), (0 : Int)), ((0 : Int), (0 : Int))))).2.1, y_4))) fun y_5 =>
 (Sum.inl (y_5, (s.2.1, (w64 (s.2.2 + (1 : Int)))))))))))) else
 (Sum.inr (s.1)))
noncomputable def turnedL_l0_pre (x : ((List ((Int × Int) × ((Int × Int) × (Int × Int)))) × ((Int × Int) × Int))) (s : ((List ((Int × Int) × ((Int × Int) × (Int × Int)))) × (Int × Int))) : Prop :=
 ((s.2.2 < s.2.1) →
 ((((0 : Int) ≤ s.2.2) ∧ (s.2.2 < (((List.length s.1) : Nat) : Int))) ∧
 (((Int.toNat s.2.2) < (List.length s.1)) ∧
 (((Int.toNat s.2.2) < (List.length s.1)) ∧
 (letP (layc ((List.getD s.1 (Int.toNat s.2.2) (((0 : Int), (0 : Int)), (((0 : Int), (0 : Int)), ((0 : Int), (0 : Int))))).1, x.2)) fun y =>
 ((((0 : Int) ≤ s.2.2) ∧ (s.2.2 < (((List.length s.1) : Nat) : Int))) ∧
 (((Int.toNat s.2.2) < (List.length s.1)) ∧
 (((Int.toNat s.2.2) < (List.length s.1)) ∧
 (((Int.toNat s.2.2) < (List.length s.1)) ∧
 (letP (List.set s.1 (Int.toNat s.2.2) (y, (List.getD s.1 (Int.toNat s.2.2) (((0 : Int), (0 : Int)), (((0 : Int), (0 : Int)), ((0 : Int), (0 : Int))))).2)) fun y_1 =>
 (letP (layc ((List.getD s.1 (Int.toNat s.2.2) (((0 : Int), (0 : Int)), (((0 : Int), (0 : Int)), ((0 : Int), (0 : Int))))).2.1, x.2)) fun y_2 =>
 ((((0 : Int) ≤ s.2.2) ∧ (s.2.2 < (((List.length y_1) : Nat) : Int))) ∧
 (((Int.toNat s.2.2) < (List.length y_1)) ∧
 (((Int.toNat s.2.2) < (List.length y_1)) ∧
 (((Int.toNat s.2.2) < (List.length y_1)) ∧
 (letP (List.set y_1 (Int.toNat s.2.2) ((List.getD y_1 (Int.toNat s.2.2) (((0 : Int), (0 : Int)), (((0 : Int), (0 : Int)), ((0 : Int), (0 : Int))))).1, (y_2, (List.getD y_1 (Int.toNat s.2.2) (((0 : Int), (0 : Int)), (((0 : Int), (0 : Int)), ((0 : Int), (0 : Int))))).2.2))) fun y_3 =>
 (letP (layc ((List.getD s.1 (Int.toNat s.2.2) (((0 : Int), (0 : Int)), (((0 : Int), (0 : Int)), ((0 : Int), (0 : Int))))).2.2, x.2)) fun y_4 =>
 ((((0 : Int) ≤ s.2.2) ∧ (s.2.2 < (((List.length y_3) : Nat) : Int))) ∧
 (((Int.toNat s.2.2) < (List.length y_3)) ∧
 (((Int.toNat s.2.2) < (List.length y_3)) ∧
 ((Int.toNat s.2.2) < (List.length y_3))))))))))))))))))))))
noncomputable def turnedL_l0_sp (x : ((List ((Int × Int) × ((Int × Int) × (Int × Int)))) × ((Int × Int) × Int))) : LSpec := loopSp (turnedL_l0_tm x) (turnedL_l0_step x) (turnedL_l0_pre x) (turnedL_l0_out x)
theorem turnedL_l0_vc (x : ((List ((Int × Int) × ((Int × Int) × (Int × Int)))) × ((Int × Int) × Int))) (s : ((List ((Int × Int) × ((Int × Int) × (Int × Int)))) × (Int × Int))) (K : Exit → AS → Prop) (KN : AS → Prop) : codeE ⟨tt, sp_movec, noX, ((2, unrolled tt sp_movec noX [] [] [] 2 (cI (blk 2 (bodyOf Try.f22))) 4) :: []), [], []⟩ (cI (blk 0 (bodyOf Try.f22))) (turnedL_l0_tm x s) (KB 0 K KN) =
 (cB (decide (s.2.2 < s.2.1))
 (ob ((decide ((0 : Int) ≤ s.2.2)) && (decide (s.2.2 < (((List.length s.1) : Nat) : Int))))
 (ob (decide ((Int.toNat s.2.2) < (List.length s.1)))
 (ob (decide ((Int.toNat s.2.2) < (List.length s.1)))
 ((layc_pre ((List.getD s.1 (Int.toNat s.2.2) zz6).1, x.2)) ∧ ∀ y : (Int × Int), y = (layc ((List.getD s.1 (Int.toNat s.2.2) zz6).1, x.2)) →
 (ob ((decide ((0 : Int) ≤ s.2.2)) && (decide (s.2.2 < (((List.length s.1) : Nat) : Int))))
 (ob (decide ((Int.toNat s.2.2) < (List.length s.1)))
 (ob (decide ((Int.toNat s.2.2) < (List.length s.1)))
 (ob (decide ((Int.toNat s.2.2) < (List.length s.1)))
 (True ∧ ∀ y_1 : (List ((Int × Int) × ((Int × Int) × (Int × Int)))), y_1 = (List.set s.1 (Int.toNat s.2.2) (y, (List.getD s.1 (Int.toNat s.2.2) zz6).2)) →
 ((layc_pre ((List.getD s.1 (Int.toNat s.2.2) zz6).2.1, x.2)) ∧ ∀ y_2 : (Int × Int), y_2 = (layc ((List.getD s.1 (Int.toNat s.2.2) zz6).2.1, x.2)) →
 (ob ((decide ((0 : Int) ≤ s.2.2)) && (decide (s.2.2 < (((List.length y_1) : Nat) : Int))))
 (ob (decide ((Int.toNat s.2.2) < (List.length y_1)))
 (ob (decide ((Int.toNat s.2.2) < (List.length y_1)))
 (ob (decide ((Int.toNat s.2.2) < (List.length y_1)))
 (True ∧ ∀ y_3 : (List ((Int × Int) × ((Int × Int) × (Int × Int)))), y_3 = (List.set y_1 (Int.toNat s.2.2) ((List.getD y_1 (Int.toNat s.2.2) zz6).1, (y_2, (List.getD y_1 (Int.toNat s.2.2) zz6).2.2))) →
 ((layc_pre ((List.getD s.1 (Int.toNat s.2.2) zz6).2.2, x.2)) ∧ ∀ y_4 : (Int × Int), y_4 = (layc ((List.getD s.1 (Int.toNat s.2.2) zz6).2.2, x.2)) →
 (ob ((decide ((0 : Int) ≤ s.2.2)) && (decide (s.2.2 < (((List.length y_3) : Nat) : Int))))
 (ob (decide ((Int.toNat s.2.2) < (List.length y_3)))
 (ob (decide ((Int.toNat s.2.2) < (List.length y_3)))
 (ob (decide ((Int.toNat s.2.2) < (List.length y_3)))
 (True ∧ ∀ y_5 : (List ((Int × Int) × ((Int × Int) × (Int × Int)))), y_5 = (List.set y_3 (Int.toNat s.2.2) ((List.getD y_3 (Int.toNat s.2.2) zz6).1, ((List.getD y_3 (Int.toNat s.2.2) zz6).2.1, y_4))) →
 (KB 0 K KN .normal ⟨(D :: .v (.one (.clo (Fn.func 21) [] [(Ref.elem 0 0), (Ref.elem 1 0)])) :: D :: D :: D :: .v (.one (.full 2)) :: vi s.2.2 :: .v (.one (.ptr 3 0)) :: vi (2 : Int) :: .v (.one (.ptr 6 0)) :: D :: D :: .v (.one (.full 2)) :: vi s.2.1 :: vi (w64 (s.2.2 + (1 : Int))) :: vb (decide (s.2.2 < s.2.1)) :: vi s.2.2 :: .v (.one (.eptr 2 (Int.toNat s.2.2) 0)) :: .v (.agg [ci (List.getD s.1 (Int.toNat s.2.2) zz6).1.1, ci (List.getD s.1 (Int.toNat s.2.2) zz6).1.2, ci (List.getD s.1 (Int.toNat s.2.2) zz6).2.1.1, ci (List.getD s.1 (Int.toNat s.2.2) zz6).2.1.2, ci (List.getD s.1 (Int.toNat s.2.2) zz6).2.2.1, ci (List.getD s.1 (Int.toNat s.2.2) zz6).2.2.2]) :: .v (.agg [ci (List.getD s.1 (Int.toNat s.2.2) zz6).1.1, ci (List.getD s.1 (Int.toNat s.2.2) zz6).1.2, ci (List.getD s.1 (Int.toNat s.2.2) zz6).2.1.1, ci (List.getD s.1 (Int.toNat s.2.2) zz6).2.1.2, ci (List.getD s.1 (Int.toNat s.2.2) zz6).2.2.1, ci (List.getD s.1 (Int.toNat s.2.2) zz6).2.2.2]) :: vi (3 : Int) :: vb false :: vi (2 : Int) :: .v (.agg [ci (List.getD s.1 (Int.toNat s.2.2) zz6).2.2.1, ci (List.getD s.1 (Int.toNat s.2.2) zz6).2.2.2]) :: .v (.one (.full 2)) :: vi s.2.2 :: vi (2 : Int) :: .v (.one (.clo (Fn.func 21) [] [(Ref.elem 0 0), (Ref.elem 1 0)])) :: .v (.agg [ci (List.getD s.1 (Int.toNat s.2.2) zz6).2.2.1, ci (List.getD s.1 (Int.toNat s.2.2) zz6).2.2.2]) :: .v (.agg [ci y_4.1, ci y_4.2]) :: .v (.one (.eptr 2 (Int.toNat s.2.2) 0)) :: .v (.one (.eaptr 2 (Int.toNat s.2.2) 4)) :: vi (3 : Int) :: vi (w64 (s.2.2 + (1 : Int))) :: D :: []), [.row yy2 [x.2.1] 0, .row yi [x.2.2] 0, .row yy6 y_5 2, .cells [ci (List.getD s.1 (Int.toNat s.2.2) zz6).1.1, ci (List.getD s.1 (Int.toNat s.2.2) zz6).1.2, ci (List.getD s.1 (Int.toNat s.2.2) zz6).2.1.1, ci (List.getD s.1 (Int.toNat s.2.2) zz6).2.1.2, ci (List.getD s.1 (Int.toNat s.2.2) zz6).2.2.1, ci (List.getD s.1 (Int.toNat s.2.2) zz6).2.2.2] 43, .cells [ci (List.getD s.1 (Int.toNat s.2.2) zz6).1.1, ci (List.getD s.1 (Int.toNat s.2.2) zz6).1.2] 42, .cells [ci (List.getD s.1 (Int.toNat s.2.2) zz6).2.1.1, ci (List.getD s.1 (Int.toNat s.2.2) zz6).2.1.2] 42, .cells [ci (List.getD s.1 (Int.toNat s.2.2) zz6).2.2.1, ci (List.getD s.1 (Int.toNat s.2.2) zz6).2.2.2] 42]⟩))))))))))))))))))))))
 (KB 0 K KN (.exit 0) ⟨(D :: .v (.one (.clo (Fn.func 21) [] [(Ref.elem 0 0), (Ref.elem 1 0)])) :: D :: D :: D :: .v (.one (.full 2)) :: D :: D :: D :: D :: D :: D :: .v (.one (.full 2)) :: vi s.2.1 :: vi s.2.2 :: vb (decide (s.2.2 < s.2.1)) :: D :: D :: D :: D :: D :: D :: D :: D :: D :: D :: D :: D :: D :: D :: D :: D :: D :: D :: D :: []), [.row yy2 [x.2.1] 0, .row yi [x.2.2] 0, .row yy6 s.1 2]⟩)) := by kernel_rfl
theorem turnedL_l0_ok (x : ((List ((Int × Int) × ((Int × Int) × (Int × Int)))) × ((Int × Int) × Int))) : ∀ st K, turnedL_l0_sp x st K → Vc (codeE ⟨tt, sp_movec, noX, ((2, unrolled tt sp_movec noX [] [] [] 2 (cI (blk 2 (bodyOf Try.f22))) 4) :: []), [], []⟩ (.loop (cI (blk 0 (bodyOf Try.f22)))) st (wrapB 0 (orWeak K))) := loopSp_okV fun s K KN hp hq => .eq (turnedL_l0_vc x s K KN) (have hp := Eq.mp (turnedL_l0_pre.eq_1 x s) hp; have hq := Eq.mp (congrArg (stepQ (turnedL_l0_tm x) (turnedL_l0_out x) K KN) (turnedL_l0_step.eq_1 x s)) hq;
 (cB_d (Q := (stepQ (turnedL_l0_tm x) (turnedL_l0_out x) K KN)) hq (fun c hq => have hp := (hp c); (ob_k (and_t (decide_eq_true hp.1.1) (decide_eq_true hp.1.2)) (have hp := hp.2; (ob_k (decide_eq_true hp.1) (have hp := hp.2; (ob_k (decide_eq_true hp.1) (have hp := hp.2; (And.intro trivial (let_k (Q := (stepQ (turnedL_l0_tm x) (turnedL_l0_out x) K KN)) hp hq fun y hp hq => (ob_k (and_t (decide_eq_true hp.1.1) (decide_eq_true hp.1.2)) (have hp := hp.2; (ob_k (decide_eq_true hp.1) (have hp := hp.2; (ob_k (decide_eq_true hp.1) (have hp := hp.2; (ob_k (decide_eq_true hp.1) (have hp := hp.2; (And.intro trivial (let_k (Q := (stepQ (turnedL_l0_tm x) (turnedL_l0_out x) K KN)) hp hq fun y_1 hp hq => (And.intro trivial (let_k (Q := (stepQ (turnedL_l0_tm x) (turnedL_l0_out x) K KN)) hp hq fun y_2 hp hq => (ob_k (and_t (decide_eq_true hp.1.1) (decide_eq_true hp.1.2)) (have hp := hp.2; (ob_k (decide_eq_true hp.1) (have hp := hp.2; (ob_k (decide_eq_true hp.1) (have hp := hp.2; (ob_k (decide_eq_true hp.1) (have hp := hp.2; (And.intro trivial (let_k (Q := (stepQ (turnedL_l0_tm x) (turnedL_l0_out x) K KN)) hp hq fun y_3 hp hq => (And.intro trivial (let_k (Q := (stepQ (turnedL_l0_tm x) (turnedL_l0_out x) K KN)) hp hq fun y_4 hp hq => (ob_k (and_t (decide_eq_true hp.1.1) (decide_eq_true hp.1.2)) (have hp := hp.2; (ob_k (decide_eq_true hp.1) (have hp := hp.2; (ob_k (decide_eq_true hp.1) (have hp := hp.2; (ob_k (decide_eq_true hp) (And.intro trivial (let_0 (Q := (stepQ (turnedL_l0_tm x) (turnedL_l0_out x) K KN)) hq fun y_5 hq => (Exists.intro (turnedL_l0_tm x (y_5, (s.2.1, (w64 (s.2.2 + (1 : Int)))))) (And.intro (ren_ok (π := [.same 0, .same 1, .same 2]) (And.intro rfl (And.intro rfl (And.intro rfl (And.intro rfl (And.intro rfl trivial))))) (And.intro (ren_same rfl rfl) (And.intro (ren_same rfl rfl) (And.intro (ren_same rfl rfl) trivial))) rfl) hq)))))))))))))))))))))))))))))))))))))))))))) (fun c hq => (Exists.intro ⟨(D :: D :: D :: D :: D :: .v (.one (.full 0)) :: D :: D :: D :: D :: D :: D :: D :: D :: D :: D :: D :: D :: D :: D :: D :: D :: D :: D :: D :: D :: D :: D :: D :: D :: D :: D :: D :: D :: D :: []), [.row yy6 s.1 2]⟩ (And.intro (ren_ok (π := [.same 2]) (And.intro rfl trivial) (And.intro (ren_same rfl rfl) trivial) rfl) hq)))))
noncomputable def turnedL (x : ((List ((Int × Int) × ((Int × Int) × (Int × Int)))) × ((Int × Int) × Int))) : (List ((Int × Int) × ((Int × Int) × (Int × Int)))) :=
 (letV (cloneT x.1) fun y =>
 (letV (run (turnedL_l0_step x) (y, ((((List.length y) : Nat) : Int), (0 : Int)))) fun r =>
 r))
noncomputable def turnedL_pre (x : ((List ((Int × Int) × ((Int × Int) × (Int × Int)))) × ((Int × Int) × Int))) : Prop :=
 ((cloneT_pre x.1) ∧
 letP (cloneT x.1) fun y =>
 (Term (turnedL_l0_step x) (turnedL_l0_pre x) (y, ((((List.length y) : Nat) : Int), (0 : Int)))))
theorem turnedL_vc (x : ((List ((Int × Int) × ((Int × Int) × (Int × Int)))) × ((Int × Int) × Int))) (Q : (List ((Int × Int) × ((Int × Int) × (Int × Int)))) → Prop) : fnE ⟨tt, sp_movec, noX, ((0, turnedL_l0_sp x) :: ((2, unrolled tt sp_movec noX [] [] [] 2 (cI (blk 2 (bodyOf Try.f22))) 4) :: [])), [], []⟩ Try.f22 (argsE (.pair (.one (Ty.sl yy6)) (.clo 21 (.pair (.ptr (.prod (.int .i64) (.int .i64))) (.ptr (.int .i64))))) x) (heapE (.pair (.one (Ty.sl yy6)) (.clo 21 (.pair (.ptr (.prod (.int .i64) (.int .i64))) (.ptr (.int .i64))))) x) (retE (.one (Ty.sl yy6)) Q) =
 ((cloneT_pre x.1) ∧ ∀ y : (List ((Int × Int) × ((Int × Int) × (Int × Int)))), y = (cloneT x.1) →
 (Exists fun s0 : ((List ((Int × Int) × ((Int × Int) × (Int × Int)))) × (Int × Int)) => Weak ⟨(.v (.one (.full 0)) :: .v (.one (.clo (Fn.func 21) [] [(Ref.elem 1 0), (Ref.elem 2 0)])) :: und :: und :: .v (.one (.raw (.slice none 0 0))) :: .v (.one (.full 3)) :: und :: und :: und :: und :: .v (.one (.full 0)) :: .v (.one (.full 3)) :: .v (.one (.full 3)) :: vi (((List.length y) : Nat) : Int) :: vi (0 : Int) :: und :: und :: und :: und :: und :: und :: und :: und :: und :: und :: und :: und :: und :: und :: und :: und :: und :: und :: und :: und :: []), [.row yy6 x.1 0, .row yy2 [x.2.1] 0, .row yi [x.2.2] 0, .row yy6 y 2]⟩ (turnedL_l0_tm x s0) ∧ Term (turnedL_l0_step x) (turnedL_l0_pre x) s0 ∧ ∀ r : (List ((Int × Int) × ((Int × Int) × (Int × Int)))), r = run (turnedL_l0_step x) s0 →
 (Q r))) := by kernel_rfl
theorem turnedL_fn (x : ((List ((Int × Int) × ((Int × Int) × (Int × Int)))) × ((Int × Int) × Int))) (Q : (List ((Int × Int) × ((Int × Int) × (Int × Int)))) → Prop) (hp : turnedL_pre x) (hq : Q (turnedL x)) : Vc (fnE ⟨tt, sp_movec, noX, ((0, turnedL_l0_sp x) :: ((2, unrolled tt sp_movec noX [] [] [] 2 (cI (blk 2 (bodyOf Try.f22))) 4) :: [])), [], []⟩ Try.f22 (argsE (.pair (.one (Ty.sl yy6)) (.clo 21 (.pair (.ptr (.prod (.int .i64) (.int .i64))) (.ptr (.int .i64))))) x) (heapE (.pair (.one (Ty.sl yy6)) (.clo 21 (.pair (.ptr (.prod (.int .i64) (.int .i64))) (.ptr (.int .i64))))) x) (retE (.one (Ty.sl yy6)) Q)) := .eq (turnedL_vc x Q) (have hp := Eq.mp (turnedL_pre.eq_1 x) hp; have hq := Eq.mp (congrArg Q (turnedL.eq_1 x)) hq;
 (And.intro hp.1 (let_k (Q := Q) hp.2 hq fun y hp hq => (Exists.intro (y, ((((List.length y) : Nat) : Int), (0 : Int))) (And.intro (ren_ok (π := [.same 1, .same 2, .same 3]) (And.intro rfl (And.intro rfl (And.intro rfl (And.intro rfl (And.intro rfl trivial))))) (And.intro (ren_same rfl rfl) (And.intro (ren_same rfl rfl) (And.intro (ren_same rfl rfl) trivial))) rfl) (And.intro hp (let_0 (Q := Q) hq fun r hq => hq)))))))
noncomputable def turnedL_S : FnS := ⟨(.pair (.one (Ty.sl yy6)) (.clo 21 (.pair (.ptr (.prod (.int .i64) (.int .i64))) (.ptr (.int .i64))))), (.one (Ty.sl yy6)), turnedL_pre, turnedL⟩
theorem turnedL_ok : SpecOk Try.prog 22 (fnSpec turnedL_S) := SpecOk.fnT' (fn := Try.f22) tt_ok sp_movec_ok mixed (by kernel_rfl) (by kernel_rfl) (.pair (.one (Ty.sl yy6)) (.clo 21 (.pair (.ptr (.prod (.int .i64) (.int .i64))) (.ptr (.int .i64))))) (.one (Ty.sl yy6)) turnedL_pre turnedL (by kernel_rfl) fun x hp => ⟨_, _, (ItsOk.nil _ _), (LpsOk.consV tt_ok (SpecsOk.ctxI sp_movec_ok (ItsOk.nil _ _)) mixed (LpsOk.unroll tt_ok (SpecsOk.ctxI sp_movec_ok (ItsOk.nil _ _)) mixed _ LpsOk.nil (by kernel_rfl) (by kernel_rfl)) (by kernel_rfl) (by kernel_rfl) (turnedL_l0_ok x)), turnedL_fn x (fun y => y = turnedL x) hp rfl⟩
def sp_turnedL : List (Nat × Ev.Spec) := (22, fnSpec turnedL_S) :: sp_movec
theorem sp_turnedL_ok : SpecsOk Try.prog sp_turnedL := SpecsOk.cons (Enters.of (fn := Try.f22) (by kernel_rfl) (by kernel_rfl) (by kernel_rfl)) turnedL_ok sp_movec_ok
noncomputable def turnedM_l0_tm (x : ((List ((Int × Int) × ((Int × Int) × (Int × Int)))) × (Int × Int))) (s : ((List ((Int × Int) × ((Int × Int) × (Int × Int)))) × (Int × Int))) : AS := ⟨(D :: .v (.one (.clo (Fn.func 34) [] [(Ref.elem 0 0)])) :: D :: D :: D :: .v (.one (.full 1)) :: D :: D :: D :: D :: D :: D :: .v (.one (.full 1)) :: vi s.2.1 :: vi s.2.2 :: D :: D :: D :: D :: D :: D :: D :: D :: D :: D :: D :: D :: D :: D :: D :: D :: D :: D :: D :: D :: []), [.row yy2 [x.2] 0, .row yy6 s.1 2]⟩
noncomputable def turnedM_l0_out (x : ((List ((Int × Int) × ((Int × Int) × (Int × Int)))) × (Int × Int))) (r : (List ((Int × Int) × ((Int × Int) × (Int × Int))))) (K : Exit → AS → Prop) : Prop := K .normal ⟨(D :: D :: D :: D :: D :: .v (.one (.full 0)) :: D :: D :: D :: D :: D :: D :: D :: D :: D :: D :: D :: D :: D :: D :: D :: D :: D :: D :: D :: D :: D :: D :: D :: D :: D :: D :: D :: D :: D :: []), [.row yy6 r 2]⟩
noncomputable def turnedM_l0_step (x : ((List ((Int × Int) × ((Int × Int) × (Int × Int)))) × (Int × Int))) (s : ((List ((Int × Int) × ((Int × Int) × (Int × Int)))) × (Int × Int))) : ((List ((Int × Int) × ((Int × Int) × (Int × Int)))) × (Int × Int)) ⊕ (List ((Int × Int) × ((Int × Int) × (Int × Int)))) :=
 (if (s.2.2 < s.2.1) then
 (letV (movec ((List.getD s.1 (Int.toNat s.2.2) (((0 : Int), (0 : Int)), (((0 : Int), (0 : Int)), ((0 : Int), (0 : Int))))).1, x.2)) fun y =>
 (letV (List.set s.1 (Int.toNat s.2.2) (y, (List.getD s.1 (Int.toNat s.2.2) (((0 : Int), (0 : Int)), (((0 : Int), (0 : Int)), ((0 : Int), (0 : Int))))).2)) fun y_1 =>
 (letV (movec ((List.getD s.1 (Int.toNat s.2.2) (((0 : Int), (0 : Int)), (((0 : Int), (0 : Int)), ((0 : Int), (0 : Int))))).2.1, x.2)) fun y_2 =>
 (letV (List.set y_1 (Int.toNat s.2.2) ((List.getD y_1 (Int.toNat s.2.2) (((0 : Int), (0 : Int)), (((0 : Int), (0 : Int)), ((0 : Int), (0 : Int))))).1, (y_2, (List.getD y_1 (Int.toNat s.2.2) (((0 : Int), (0 : Int)), (((0 : Int), (0 : Int)), ((0 : Int), (0 : Int))))).2.2))) fun y_3 =>
 (letV (movec ((List.getD s.1 (Int.toNat s.2.2) (((0 : Int), (0 : Int)), (((0 : Int), (0 : Int)), ((0 : Int), (0 : Int))))).2.2, x.2)) fun y_4 =>
 (letV (List.set y_3 (Int.toNat s.2.2) ((List.getD y_3 (Int.toNat s.2.2) (((0 : Int), (0 : Int)), (((0 : Int), (0 : Int)), ((0 : Int), (0 : Int))))).1, ((List.getD y_3 (Int.toNat s.2.2) (((0 : Int), (0 : Int)), (((0 : Int), (0 : Int)), ((0 : Int), (0 : Int))))).2.1, y_4))) fun y_5 =>
 (Sum.inl (y_5, (s.2.1, (w64 (s.2.2 + (1 : Int)))))))))))) else
 (Sum.inr (s.1)))
noncomputable def turnedM_l0_pre (x : ((List ((Int × Int) × ((Int × Int) × (Int × Int)))) × (Int × Int))) (s : ((List ((Int × Int) × ((Int × Int) × (Int × Int)))) × (Int × Int))) : Prop :=
 ((s.2.2 < s.2.1) →
 ((((0 : Int) ≤ s.2.2) ∧ (s.2.2 < (((List.length s.1) : Nat) : Int))) ∧
 (((Int.toNat s.2.2) < (List.length s.1)) ∧
 (((Int.toNat s.2.2) < (List.length s.1)) ∧
 (letP (movec ((List.getD s.1 (Int.toNat s.2.2) (((0 : Int), (0 : Int)), (((0 : Int), (0 : Int)), ((0 : Int), (0 : Int))))).1, x.2)) fun y =>
 ((((0 : Int) ≤ s.2.2) ∧ (s.2.2 < (((List.length s.1) : Nat) : Int))) ∧
 (((Int.toNat s.2.2) < (List.length s.1)) ∧
 (((Int.toNat s.2.2) < (List.length s.1)) ∧
 (((Int.toNat s.2.2) < (List.length s.1)) ∧
 (letP (List.set s.1 (Int.toNat s.2.2) (y, (List.getD s.1 (Int.toNat s.2.2) (((0 : Int), (0 : Int)), (((0 : Int), (0 : Int)), ((0 : Int), (0 : Int))))).2)) fun y_1 =>
 (letP (movec ((List.getD s.1 (Int.toNat s.2.2) (((0 : Int), (0 : Int)), (((0 : Int), (0 : Int)), ((0 : Int), (0 : Int))))).2.1, x.2)) fun y_2 =>
 ((((0 : Int) ≤ s.2.2) ∧ (s.2.2 < (((List.length y_1) : Nat) : Int))) ∧
 (((Int.toNat s.2.2) < (List.length y_1)) ∧
 (((Int.toNat s.2.2) < (List.length y_1)) ∧
 (((Int.toNat s.2.2) < (List.length y_1)) ∧
 (letP (List.set y_1 (Int.toNat s.2.2) ((List.getD y_1 (Int.toNat s.2.2) (((0 : Int), (0 : Int)), (((0 : Int), (0 : Int)), ((0 : Int), (0 : Int))))).1, (y_2, (List.getD y_1 (Int.toNat s.2.2) (((0 : Int), (0 : Int)), (((0 : Int), (0 : Int)), ((0 : Int), (0 : Int))))).2.2))) fun y_3 =>
 (letP (movec ((List.getD s.1 (Int.toNat s.2.2) (((0 : Int), (0 : Int)), (((0 : Int), (0 : Int)), ((0 : Int), (0 : Int))))).2.2, x.2)) fun y_4 =>
 ((((0 : Int) ≤ s.2.2) ∧ (s.2.2 < (((List.length y_3) : Nat) : Int))) ∧
 (((Int.toNat s.2.2) < (List.length y_3)) ∧
 (((Int.toNat s.2.2) < (List.length y_3)) ∧
 ((Int.toNat s.2.2) < (List.length y_3))))))))))))))))))))))
noncomputable def turnedM_l0_sp (x : ((List ((Int × Int) × ((Int × Int) × (Int × Int)))) × (Int × Int))) : LSpec := loopSp (turnedM_l0_tm x) (turnedM_l0_step x) (turnedM_l0_pre x) (turnedM_l0_out x)
theorem turnedM_l0_vc (x : ((List ((Int × Int) × ((Int × Int) × (Int × Int)))) × (Int × Int))) (s : ((List ((Int × Int) × ((Int × Int) × (Int × Int)))) × (Int × Int))) (K : Exit → AS → Prop) (KN : AS → Prop) : codeE ⟨tt, sp_turnedL, noX, ((2, unrolled tt sp_turnedL noX [] [] [] 2 (cI (blk 2 (bodyOf Try.f22))) 4) :: []), [], []⟩ (cI (blk 0 (bodyOf Try.f22))) (turnedM_l0_tm x s) (KB 0 K KN) =
 (cB (decide (s.2.2 < s.2.1))
 (ob ((decide ((0 : Int) ≤ s.2.2)) && (decide (s.2.2 < (((List.length s.1) : Nat) : Int))))
 (ob (decide ((Int.toNat s.2.2) < (List.length s.1)))
 (ob (decide ((Int.toNat s.2.2) < (List.length s.1)))
 ((movec_pre ((List.getD s.1 (Int.toNat s.2.2) zz6).1, x.2)) ∧ ∀ y : (Int × Int), y = (movec ((List.getD s.1 (Int.toNat s.2.2) zz6).1, x.2)) →
 (ob ((decide ((0 : Int) ≤ s.2.2)) && (decide (s.2.2 < (((List.length s.1) : Nat) : Int))))
 (ob (decide ((Int.toNat s.2.2) < (List.length s.1)))
 (ob (decide ((Int.toNat s.2.2) < (List.length s.1)))
 (ob (decide ((Int.toNat s.2.2) < (List.length s.1)))
 (True ∧ ∀ y_1 : (List ((Int × Int) × ((Int × Int) × (Int × Int)))), y_1 = (List.set s.1 (Int.toNat s.2.2) (y, (List.getD s.1 (Int.toNat s.2.2) zz6).2)) →
 ((movec_pre ((List.getD s.1 (Int.toNat s.2.2) zz6).2.1, x.2)) ∧ ∀ y_2 : (Int × Int), y_2 = (movec ((List.getD s.1 (Int.toNat s.2.2) zz6).2.1, x.2)) →
 (ob ((decide ((0 : Int) ≤ s.2.2)) && (decide (s.2.2 < (((List.length y_1) : Nat) : Int))))
 (ob (decide ((Int.toNat s.2.2) < (List.length y_1)))
 (ob (decide ((Int.toNat s.2.2) < (List.length y_1)))
 (ob (decide ((Int.toNat s.2.2) < (List.length y_1)))
 (True ∧ ∀ y_3 : (List ((Int × Int) × ((Int × Int) × (Int × Int)))), y_3 = (List.set y_1 (Int.toNat s.2.2) ((List.getD y_1 (Int.toNat s.2.2) zz6).1, (y_2, (List.getD y_1 (Int.toNat s.2.2) zz6).2.2))) →
 ((movec_pre ((List.getD s.1 (Int.toNat s.2.2) zz6).2.2, x.2)) ∧ ∀ y_4 : (Int × Int), y_4 = (movec ((List.getD s.1 (Int.toNat s.2.2) zz6).2.2, x.2)) →
 (ob ((decide ((0 : Int) ≤ s.2.2)) && (decide (s.2.2 < (((List.length y_3) : Nat) : Int))))
 (ob (decide ((Int.toNat s.2.2) < (List.length y_3)))
 (ob (decide ((Int.toNat s.2.2) < (List.length y_3)))
 (ob (decide ((Int.toNat s.2.2) < (List.length y_3)))
 (True ∧ ∀ y_5 : (List ((Int × Int) × ((Int × Int) × (Int × Int)))), y_5 = (List.set y_3 (Int.toNat s.2.2) ((List.getD y_3 (Int.toNat s.2.2) zz6).1, ((List.getD y_3 (Int.toNat s.2.2) zz6).2.1, y_4))) →
 (KB 0 K KN .normal ⟨(D :: .v (.one (.clo (Fn.func 34) [] [(Ref.elem 0 0)])) :: D :: D :: D :: .v (.one (.full 1)) :: vi s.2.2 :: .v (.one (.ptr 2 0)) :: vi (2 : Int) :: .v (.one (.ptr 5 0)) :: D :: D :: .v (.one (.full 1)) :: vi s.2.1 :: vi (w64 (s.2.2 + (1 : Int))) :: vb (decide (s.2.2 < s.2.1)) :: vi s.2.2 :: .v (.one (.eptr 1 (Int.toNat s.2.2) 0)) :: .v (.agg [ci (List.getD s.1 (Int.toNat s.2.2) zz6).1.1, ci (List.getD s.1 (Int.toNat s.2.2) zz6).1.2, ci (List.getD s.1 (Int.toNat s.2.2) zz6).2.1.1, ci (List.getD s.1 (Int.toNat s.2.2) zz6).2.1.2, ci (List.getD s.1 (Int.toNat s.2.2) zz6).2.2.1, ci (List.getD s.1 (Int.toNat s.2.2) zz6).2.2.2]) :: .v (.agg [ci (List.getD s.1 (Int.toNat s.2.2) zz6).1.1, ci (List.getD s.1 (Int.toNat s.2.2) zz6).1.2, ci (List.getD s.1 (Int.toNat s.2.2) zz6).2.1.1, ci (List.getD s.1 (Int.toNat s.2.2) zz6).2.1.2, ci (List.getD s.1 (Int.toNat s.2.2) zz6).2.2.1, ci (List.getD s.1 (Int.toNat s.2.2) zz6).2.2.2]) :: vi (3 : Int) :: vb false :: vi (2 : Int) :: .v (.agg [ci (List.getD s.1 (Int.toNat s.2.2) zz6).2.2.1, ci (List.getD s.1 (Int.toNat s.2.2) zz6).2.2.2]) :: .v (.one (.full 1)) :: vi s.2.2 :: vi (2 : Int) :: .v (.one (.clo (Fn.func 34) [] [(Ref.elem 0 0)])) :: .v (.agg [ci (List.getD s.1 (Int.toNat s.2.2) zz6).2.2.1, ci (List.getD s.1 (Int.toNat s.2.2) zz6).2.2.2]) :: .v (.agg [ci y_4.1, ci y_4.2]) :: .v (.one (.eptr 1 (Int.toNat s.2.2) 0)) :: .v (.one (.eaptr 1 (Int.toNat s.2.2) 4)) :: vi (3 : Int) :: vi (w64 (s.2.2 + (1 : Int))) :: D :: []), [.row yy2 [x.2] 0, .row yy6 y_5 2, .cells [ci (List.getD s.1 (Int.toNat s.2.2) zz6).1.1, ci (List.getD s.1 (Int.toNat s.2.2) zz6).1.2, ci (List.getD s.1 (Int.toNat s.2.2) zz6).2.1.1, ci (List.getD s.1 (Int.toNat s.2.2) zz6).2.1.2, ci (List.getD s.1 (Int.toNat s.2.2) zz6).2.2.1, ci (List.getD s.1 (Int.toNat s.2.2) zz6).2.2.2] 43, .cells [ci (List.getD s.1 (Int.toNat s.2.2) zz6).1.1, ci (List.getD s.1 (Int.toNat s.2.2) zz6).1.2] 42, .cells [ci (List.getD s.1 (Int.toNat s.2.2) zz6).2.1.1, ci (List.getD s.1 (Int.toNat s.2.2) zz6).2.1.2] 42, .cells [ci (List.getD s.1 (Int.toNat s.2.2) zz6).2.2.1, ci (List.getD s.1 (Int.toNat s.2.2) zz6).2.2.2] 42]⟩))))))))))))))))))))))
 (KB 0 K KN (.exit 0) ⟨(D :: .v (.one (.clo (Fn.func 34) [] [(Ref.elem 0 0)])) :: D :: D :: D :: .v (.one (.full 1)) :: D :: D :: D :: D :: D :: D :: .v (.one (.full 1)) :: vi s.2.1 :: vi s.2.2 :: vb (decide (s.2.2 < s.2.1)) :: D :: D :: D :: D :: D :: D :: D :: D :: D :: D :: D :: D :: D :: D :: D :: D :: D :: D :: D :: []), [.row yy2 [x.2] 0, .row yy6 s.1 2]⟩)) := by kernel_rfl
theorem turnedM_l0_ok (x : ((List ((Int × Int) × ((Int × Int) × (Int × Int)))) × (Int × Int))) : ∀ st K, turnedM_l0_sp x st K → Vc (codeE ⟨tt, sp_turnedL, noX, ((2, unrolled tt sp_turnedL noX [] [] [] 2 (cI (blk 2 (bodyOf Try.f22))) 4) :: []), [], []⟩ (.loop (cI (blk 0 (bodyOf Try.f22)))) st (wrapB 0 (orWeak K))) := loopSp_okV fun s K KN hp hq => .eq (turnedM_l0_vc x s K KN) (have hp := Eq.mp (turnedM_l0_pre.eq_1 x s) hp; have hq := Eq.mp (congrArg (stepQ (turnedM_l0_tm x) (turnedM_l0_out x) K KN) (turnedM_l0_step.eq_1 x s)) hq;
 (cB_d (Q := (stepQ (turnedM_l0_tm x) (turnedM_l0_out x) K KN)) hq (fun c hq => have hp := (hp c); (ob_k (and_t (decide_eq_true hp.1.1) (decide_eq_true hp.1.2)) (have hp := hp.2; (ob_k (decide_eq_true hp.1) (have hp := hp.2; (ob_k (decide_eq_true hp.1) (have hp := hp.2; (And.intro trivial (let_k (Q := (stepQ (turnedM_l0_tm x) (turnedM_l0_out x) K KN)) hp hq fun y hp hq => (ob_k (and_t (decide_eq_true hp.1.1) (decide_eq_true hp.1.2)) (have hp := hp.2; (ob_k (decide_eq_true hp.1) (have hp := hp.2; (ob_k (decide_eq_true hp.1) (have hp := hp.2; (ob_k (decide_eq_true hp.1) (have hp := hp.2; (And.intro trivial (let_k (Q := (stepQ (turnedM_l0_tm x) (turnedM_l0_out x) K KN)) hp hq fun y_1 hp hq => (And.intro trivial (let_k (Q := (stepQ (turnedM_l0_tm x) (turnedM_l0_out x) K KN)) hp hq fun y_2 hp hq => (ob_k (and_t (decide_eq_true hp.1.1) (decide_eq_true hp.1.2)) (have hp := hp.2; (ob_k (decide_eq_true hp.1) (have hp := hp.2; (ob_k (decide_eq_true hp.1) (have hp := hp.2; (ob_k (decide_eq_true hp.1) (have hp := hp.2; (And.intro trivial (let_k (Q := (stepQ (turnedM_l0_tm x) (turnedM_l0_out x) K KN)) hp hq fun y_3 hp hq => (And.intro trivial (let_k (Q := (stepQ (turnedM_l0_tm x) (turnedM_l0_out x) K KN)) hp hq fun y_4 hp hq => (ob_k (and_t (decide_eq_true hp.1.1) (decide_eq_true hp.1.2)) (have hp := hp.2; (ob_k (decide_eq_true hp.1) (have hp := hp.2; (ob_k (decide_eq_true hp.1) (have hp := hp.2; (ob_k (decide_eq_true hp) (And.intro trivial (let_0 (Q := (stepQ (turnedM_l0_tm x) (turnedM_l0_out x) K KN)) hq fun y_5 hq => (Exists.intro (turnedM_l0_tm x (y_5, (s.2.1, (w64 (s.2.2 + (1 : Int)))))) (And.intro (ren_ok (π := [.same 0, .same 1]) (And.intro rfl (And.intro rfl (And.intro rfl (And.intro rfl (And.intro rfl trivial))))) (And.intro (ren_same rfl rfl) (And.intro (ren_same rfl rfl) trivial)) rfl) hq)))))))))))))))))))))))))))))))))))))))))))) (fun c hq => (Exists.intro ⟨(D :: D :: D :: D :: D :: .v (.one (.full 0)) :: D :: D :: D :: D :: D :: D :: D :: D :: D :: D :: D :: D :: D :: D :: D :: D :: D :: D :: D :: D :: D :: D :: D :: D :: D :: D :: D :: D :: D :: []), [.row yy6 s.1 2]⟩ (And.intro (ren_ok (π := [.same 1]) (And.intro rfl trivial) (And.intro (ren_same rfl rfl) trivial) rfl) hq)))))
noncomputable def turnedM (x : ((List ((Int × Int) × ((Int × Int) × (Int × Int)))) × (Int × Int))) : (List ((Int × Int) × ((Int × Int) × (Int × Int)))) :=
 (letV (cloneT x.1) fun y =>
 (letV (run (turnedM_l0_step x) (y, ((((List.length y) : Nat) : Int), (0 : Int)))) fun r =>
 r))
noncomputable def turnedM_pre (x : ((List ((Int × Int) × ((Int × Int) × (Int × Int)))) × (Int × Int))) : Prop :=
 ((cloneT_pre x.1) ∧
 letP (cloneT x.1) fun y =>
 (Term (turnedM_l0_step x) (turnedM_l0_pre x) (y, ((((List.length y) : Nat) : Int), (0 : Int)))))
theorem turnedM_vc (x : ((List ((Int × Int) × ((Int × Int) × (Int × Int)))) × (Int × Int))) (Q : (List ((Int × Int) × ((Int × Int) × (Int × Int)))) → Prop) : fnE ⟨tt, sp_turnedL, noX, ((0, turnedM_l0_sp x) :: ((2, unrolled tt sp_turnedL noX [] [] [] 2 (cI (blk 2 (bodyOf Try.f22))) 4) :: [])), [], []⟩ Try.f22 (argsE (.pair (.one (Ty.sl yy6)) (.clo 34 (.ptr (.prod (.int .i64) (.int .i64))))) x) (heapE (.pair (.one (Ty.sl yy6)) (.clo 34 (.ptr (.prod (.int .i64) (.int .i64))))) x) (retE (.one (Ty.sl yy6)) Q) =
 ((cloneT_pre x.1) ∧ ∀ y : (List ((Int × Int) × ((Int × Int) × (Int × Int)))), y = (cloneT x.1) →
 (Exists fun s0 : ((List ((Int × Int) × ((Int × Int) × (Int × Int)))) × (Int × Int)) => Weak ⟨(.v (.one (.full 0)) :: .v (.one (.clo (Fn.func 34) [] [(Ref.elem 1 0)])) :: und :: und :: .v (.one (.raw (.slice none 0 0))) :: .v (.one (.full 2)) :: und :: und :: und :: und :: .v (.one (.full 0)) :: .v (.one (.full 2)) :: .v (.one (.full 2)) :: vi (((List.length y) : Nat) : Int) :: vi (0 : Int) :: und :: und :: und :: und :: und :: und :: und :: und :: und :: und :: und :: und :: und :: und :: und :: und :: und :: und :: und :: und :: []), [.row yy6 x.1 0, .row yy2 [x.2] 0, .row yy6 y 2]⟩ (turnedM_l0_tm x s0) ∧ Term (turnedM_l0_step x) (turnedM_l0_pre x) s0 ∧ ∀ r : (List ((Int × Int) × ((Int × Int) × (Int × Int)))), r = run (turnedM_l0_step x) s0 →
 (Q r))) := by kernel_rfl
theorem turnedM_fn (x : ((List ((Int × Int) × ((Int × Int) × (Int × Int)))) × (Int × Int))) (Q : (List ((Int × Int) × ((Int × Int) × (Int × Int)))) → Prop) (hp : turnedM_pre x) (hq : Q (turnedM x)) : Vc (fnE ⟨tt, sp_turnedL, noX, ((0, turnedM_l0_sp x) :: ((2, unrolled tt sp_turnedL noX [] [] [] 2 (cI (blk 2 (bodyOf Try.f22))) 4) :: [])), [], []⟩ Try.f22 (argsE (.pair (.one (Ty.sl yy6)) (.clo 34 (.ptr (.prod (.int .i64) (.int .i64))))) x) (heapE (.pair (.one (Ty.sl yy6)) (.clo 34 (.ptr (.prod (.int .i64) (.int .i64))))) x) (retE (.one (Ty.sl yy6)) Q)) := .eq (turnedM_vc x Q) (have hp := Eq.mp (turnedM_pre.eq_1 x) hp; have hq := Eq.mp (congrArg Q (turnedM.eq_1 x)) hq;
 (And.intro hp.1 (let_k (Q := Q) hp.2 hq fun y hp hq => (Exists.intro (y, ((((List.length y) : Nat) : Int), (0 : Int))) (And.intro (ren_ok (π := [.same 1, .same 2]) (And.intro rfl (And.intro rfl (And.intro rfl (And.intro rfl (And.intro rfl trivial))))) (And.intro (ren_same rfl rfl) (And.intro (ren_same rfl rfl) trivial)) rfl) (And.intro hp (let_0 (Q := Q) hq fun r hq => hq)))))))
noncomputable def turnedM_S : FnS := ⟨(.pair (.one (Ty.sl yy6)) (.clo 34 (.ptr (.prod (.int .i64) (.int .i64))))), (.one (Ty.sl yy6)), turnedM_pre, turnedM⟩
theorem turnedM_ok : SpecOk Try.prog 22 (fnSpec turnedM_S) := SpecOk.fnT' (fn := Try.f22) tt_ok sp_turnedL_ok mixed (by kernel_rfl) (by kernel_rfl) (.pair (.one (Ty.sl yy6)) (.clo 34 (.ptr (.prod (.int .i64) (.int .i64))))) (.one (Ty.sl yy6)) turnedM_pre turnedM (by kernel_rfl) fun x hp => ⟨_, _, (ItsOk.nil _ _), (LpsOk.consV tt_ok (SpecsOk.ctxI sp_turnedL_ok (ItsOk.nil _ _)) mixed (LpsOk.unroll tt_ok (SpecsOk.ctxI sp_turnedL_ok (ItsOk.nil _ _)) mixed _ LpsOk.nil (by kernel_rfl) (by kernel_rfl)) (by kernel_rfl) (by kernel_rfl) (turnedM_l0_ok x)), turnedM_fn x (fun y => y = turnedM x) hp rfl⟩
def sp_turnedM : List (Nat × Ev.Spec) := (22, altSpec turnedM_S.p (fnSpec turnedM_S) (fnSpec turnedL_S)) :: sp_turnedL
theorem sp_turnedM_ok : SpecsOk Try.prog sp_turnedM := SpecsOk.cons (Enters.of (fn := Try.f22) (by kernel_rfl) (by kernel_rfl) (by kernel_rfl)) (altSpec_ok turnedM_ok (turnedL_ok)) sp_turnedL_ok
end Go.Proofs.Ytpbbnoggkbfkoaa
