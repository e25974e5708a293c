/- Model of the law AtlasInside. -/
import Derived.Test.YtbjfokijjefoeaaAm
namespace Go.Proofs.Ytbjfokijjefoeaa
open Go Go.Ev Go.Proofs
set_option linter.unusedVariables false
noncomputable def r16big (x : ((List Int) × ((List I6) × I2))) : Bool :=
 (if ((((List.length x.1) : Nat) : Int) > (15 : Int)) then
 true else
 (decide ((((List.length x.2.1) : Nat) : Int) > (15 : Int))))
noncomputable def r16big_pre (_ : ((List Int) × ((List I6) × I2))) : Prop := True
noncomputable def r16big_t (x : ((List Int) × ((List I6) × I2))) : Tr Bool false :=
 (.i00 ((((List.length x.1) : Nat) : Int) > (15 : Int))
 (.ret true)
 (.ret (decide ((((List.length x.2.1) : Nat) : Int) > (15 : Int)))))
noncomputable abbrev r16big_S : FnS := ⟨(.agg (Ty.prod (Ty.sl yi) (Ty.prod (Ty.sl yy6) yy2))), (.one Ty.bool), r16big_pre, r16big⟩
theorem r16big_ok : SpecOk Try.prog 15 (fnSpec r16big_S) := SpecOk.tr r16big_S r16big_t (fn := Try.f15) tt_ok sp_mappedL_ok mixed (by kernel_rfl) (ItsOk.nil _ _) (fun x => LpsOk.nil) (fun x => (by kernel_rfl)) fun x Q => (by kernel_rfl)
def sp_r16big : List (Nat × Ev.Spec) := (15, fnSpec r16big_S) :: sp_mappedL
theorem sp_r16big_ok : SpecsOk Try.prog sp_r16big := SpecsOk.add (fn := Try.f15) (by kernel_rfl) r16big_ok sp_mappedL_ok
noncomputable def r18big_l0 (x : (List ((List Int) × ((List I6) × I2)))) : LoopD := ⟨[], ⟨pvs 36 0 [(0, .v (.one (.full 0))), (3, .v (.one (.i .i64))), (4, .v (.one (.i .i64)))], [.row (Ty.prod (Ty.sl yi) (Ty.prod (Ty.sl yy6) yy2)) 0], 0, none, [], [2], [0, 1], [.i, .i], [.l (Ty.prod (Ty.sl yi) (Ty.prod (Ty.sl yy6) yy2)) x]⟩, [⟨.ret, .ret, ⟨pvs 36 0 [(2, .v (.one (.b)))], [], 0, none, [], [0], [], [], [.b true]⟩⟩, ⟨(.exit 0), .normal, ⟨pvs 36 0 [(0, .v (.one (.full 0))), (3, .v (.one (.i .i64)))], [.row (Ty.prod (Ty.sl yi) (Ty.prod (Ty.sl yy6) yy2)) 0], 0, none, [], [1], [0], [.i], [.l (Ty.prod (Ty.sl yi) (Ty.prod (Ty.sl yy6) yy2)) x]⟩⟩]⟩
noncomputable def r18big_l0_step (x : (List ((List Int) × ((List I6) × I2)))) (s : I2) : I2 ⊕ (Unit ⊕ Int) :=
 (if (s.2 < (((List.length x) : Nat) : Int)) then
 (if ((((List.length x) : Nat) : Int) ≤ (12 : Int)) then
 (letV (r16big (List.getD x (Int.toNat s.2) ([], ([], ((0 : Int), (0 : Int)))))) fun y =>
 (if (y = true) then
 (Sum.inr (Sum.inl ())) else
 (Sum.inl ((w64 (s.1 + (((List.length (List.getD x (Int.toNat s.2) ([], ([], ((0 : Int), (0 : Int))))).2.1) : Nat) : Int))), (w64 (s.2 + (1 : Int))))))) else
 (Sum.inr (Sum.inr (s.1)))) else
 (Sum.inr (Sum.inr (s.1))))
noncomputable def r18big_l0_pre (x : (List ((List Int) × ((List I6) × I2)))) (s : I2) : Prop :=
 ((s.2 < (((List.length x) : Nat) : Int)) →
 (((((List.length x) : Nat) : Int) ≤ (12 : Int)) →
 ((((0 : Int) ≤ s.2) ∧ (s.2 < (((List.length x) : Nat) : Int))) ∧
 (((Int.toNat s.2) < (List.length x)) ∧
 (((Int.toNat s.2) < (List.length x)) ∧
 (letP (r16big (List.getD x (Int.toNat s.2) ([], ([], ((0 : Int), (0 : Int)))))) fun y =>
 (¬ (y = true) →
 ((((0 : Int) ≤ s.2) ∧ (s.2 < (((List.length x) : Nat) : Int))) ∧
 (((Int.toNat s.2) < (List.length x)) ∧
 (((Int.toNat s.2) < (List.length x)) ∧
 ((Int.toNat s.2) < (List.length x))))))))))))
noncomputable def r18big_l0_t (x : (List ((List Int) × ((List I6) × I2)))) (s : I2) : Tr (I2 ⊕ (Unit ⊕ Int)) true :=
 (.i10 (s.2 < (((List.length x) : Nat) : Int))
 (.i10 ((((List.length x) : Nat) : Int) ≤ (12 : Int))
 (.oR s.2 (((List.length x) : Nat) : Int)
 (.od ((Int.toNat s.2) < (List.length x))
 (.od ((Int.toNat s.2) < (List.length x))
 (.fn0 r16big_S (List.getD x (Int.toNat s.2) ([], ([], zz2))) trivial fun y =>
 (.b01 y
 (.ret (.inr (Sum.inl ())))
 (.oR s.2 (((List.length x) : Nat) : Int)
 (.od ((Int.toNat s.2) < (List.length x))
 (.od ((Int.toNat s.2) < (List.length x))
 (.od ((Int.toNat s.2) < (List.length x))
 (.ret (.inl ((w64 (s.1 + (((List.length (List.getD x (Int.toNat s.2) ([], ([], zz2))).2.1) : Nat) : Int))), (w64 (s.2 + (1 : Int)))))))))))))))
 (.ret (.inr (Sum.inr (s.1)))))
 (.ret (.inr (Sum.inr (s.1)))))
noncomputable def r18big (x : (List ((List Int) × ((List I6) × I2)))) : Bool :=
 (letV (run (r18big_l0_step x) ((0 : Int), (0 : Int))) fun r =>
 (Sum.elim (fun a =>
 true) (fun b =>
 (if ((((List.length x) : Nat) : Int) > (12 : Int)) then
 true else
 (decide (b > (30 : Int))))) r))
noncomputable def r18big_pre (x : (List ((List Int) × ((List I6) × I2)))) : Prop :=
 (Term (r18big_l0_step x) (r18big_l0_pre x) ((0 : Int), (0 : Int)))
noncomputable def r18big_t (x : (List ((List Int) × ((List I6) × I2)))) : Tr Bool true :=
 (LoopD.lp (r18big_l0 x) (r18big_l0_t x) zz2 fun r =>
 (.s00 r (fun a =>
 (.ret true)) (fun b =>
 (.i00 ((((List.length x) : Nat) : Int) > (12 : Int))
 (.ret true)
 (.ret (decide (b > (30 : Int))))))))
noncomputable abbrev r18big_S : FnS := ⟨(.one (Ty.sl (Ty.prod (Ty.sl yi) (Ty.prod (Ty.sl yy6) yy2)))), (.one Ty.bool), r18big_pre, r18big⟩
theorem r18big_ok : SpecOk Try.prog 7 (fnSpec r18big_S) := SpecOk.tr r18big_S r18big_t (fn := Try.f7) tt_ok sp_r16big_ok mixed (by kernel_rfl) (ItsOk.nil _ _) (fun x => (LpsOk.tr tt_ok (SpecsOk.ctxI sp_r16big_ok (ItsOk.nil _ _)) mixed 0 (r18big_l0 x) (r18big_l0_t x) LpsOk.nil (by kernel_rfl) fun g s Q => (by kernel_rfl))) (fun x => (by kernel_rfl)) fun x Q => (by kernel_rfl)
def sp_r18big : List (Nat × Ev.Spec) := (7, fnSpec r18big_S) :: sp_r16big
theorem sp_r18big_ok : SpecsOk Try.prog sp_r18big := SpecsOk.add (fn := Try.f7) (by kernel_rfl) r18big_ok sp_r16big_ok
noncomputable def lapart_l0 (x : (I2 × (I6 × Int))) : LoopD := ⟨[], ⟨pvs 46 0 [(2, .v (.one (.i .i64))), (3, .v (.one (.ptr 0 0))), (4, .v (.one (.ptr 1 0))), (7, .v (.one (.i .i64)))], [.cells [.i .i64, .i .i64] 43, .cells [.i .i64, .i .i64, .i .i64, .i .i64, .i .i64, .i .i64] 44], 0, none, [], [0, 2, 3, 4, 5, 6, 7, 8, 9], [1], [.i], [.i x.2.2, .i x.1.1, .i x.1.2, .i x.2.1.1.1, .i x.2.1.1.2, .i x.2.1.2.1.1, .i x.2.1.2.1.2, .i x.2.1.2.2.1, .i x.2.1.2.2.2]⟩, [⟨.ret, .ret, ⟨pvs 46 0 [(6, .v (.one (.b)))], [], 0, none, [], [0], [], [], [.b false]⟩⟩, ⟨(.exit 0), .normal, ⟨pvs 46 0 [], [], 0, none, [], [], [], [], []⟩⟩]⟩
noncomputable def lapart_l0_step (x : (I2 × (I6 × Int))) (s : Int) : Int ⊕ (Unit ⊕ Unit) :=
 (if (s < (3 : Int)) then
 (if ((maxI (w64 ((w64 (Int.tdiv x.1.1 (16 : Int))) - (w64 (Int.tdiv (List.getD [x.2.1.1.1, x.2.1.1.2, x.2.1.2.1.1, x.2.1.2.1.2, x.2.1.2.2.1, x.2.1.2.2.2] ((0 + ((Int.toNat s) * 2)) + 0) (0 : Int)) (16 : Int))))) (w64 ((0 : Int) - (w64 ((w64 (Int.tdiv x.1.1 (16 : Int))) - (w64 (Int.tdiv (List.getD [x.2.1.1.1, x.2.1.1.2, x.2.1.2.1.1, x.2.1.2.1.2, x.2.1.2.2.1, x.2.1.2.2.2] ((0 + ((Int.toNat s) * 2)) + 0) (0 : Int)) (16 : Int)))))))) ≤ x.2.2) then
 (if ((maxI (w64 ((w64 (Int.tdiv x.1.2 (16 : Int))) - (w64 (Int.tdiv (List.getD [x.2.1.1.1, x.2.1.1.2, x.2.1.2.1.1, x.2.1.2.1.2, x.2.1.2.2.1, x.2.1.2.2.2] ((0 + ((Int.toNat s) * 2)) + 1) (0 : Int)) (16 : Int))))) (w64 ((0 : Int) - (w64 ((w64 (Int.tdiv x.1.2 (16 : Int))) - (w64 (Int.tdiv (List.getD [x.2.1.1.1, x.2.1.1.2, x.2.1.2.1.1, x.2.1.2.1.2, x.2.1.2.2.1, x.2.1.2.2.2] ((0 + ((Int.toNat s) * 2)) + 1) (0 : Int)) (16 : Int)))))))) ≤ x.2.2) then
 (Sum.inr (Sum.inl ())) else
 (Sum.inl (w64 (s + (1 : Int))))) else
 (Sum.inl (w64 (s + (1 : Int))))) else
 (Sum.inr (Sum.inr (()))))
noncomputable def lapart_l0_pre (x : (I2 × (I6 × Int))) (s : Int) : Prop :=
 ((s < (3 : Int)) →
 ((((0 : Int) ≤ s) ∧ (s < (3 : Int))) ∧
 (((((0 + ((Int.toNat s) * 2)) + 0) + 1) ≤ 6) ∧
 ((((0 : Int) ≤ s) ∧ (s < (3 : Int))) ∧
 ((((0 + ((Int.toNat s) * 2)) + 1) + 1) ≤ 6)))))
noncomputable def lapart_l0_t (x : (I2 × (I6 × Int))) (s : Int) : Tr (Int ⊕ (Unit ⊕ Unit)) true :=
 (.i10 (s < (3 : Int))
 (.oR s (3 : Int)
 (.od ((((0 + ((Int.toNat s) * 2)) + 0) + 1) ≤ 6)
 (.oR s (3 : Int)
 (.od ((((0 + ((Int.toNat s) * 2)) + 1) + 1) ≤ 6)
 (.i00 ((maxI (w64 ((w64 (Int.tdiv x.1.1 (16 : Int))) - (w64 (Int.tdiv (List.getD [x.2.1.1.1, x.2.1.1.2, x.2.1.2.1.1, x.2.1.2.1.2, x.2.1.2.2.1, x.2.1.2.2.2] ((0 + ((Int.toNat s) * 2)) + 0) (0 : Int)) (16 : Int))))) (w64 ((0 : Int) - (w64 ((w64 (Int.tdiv x.1.1 (16 : Int))) - (w64 (Int.tdiv (List.getD [x.2.1.1.1, x.2.1.1.2, x.2.1.2.1.1, x.2.1.2.1.2, x.2.1.2.2.1, x.2.1.2.2.2] ((0 + ((Int.toNat s) * 2)) + 0) (0 : Int)) (16 : Int)))))))) ≤ x.2.2)
 (.i00 ((maxI (w64 ((w64 (Int.tdiv x.1.2 (16 : Int))) - (w64 (Int.tdiv (List.getD [x.2.1.1.1, x.2.1.1.2, x.2.1.2.1.1, x.2.1.2.1.2, x.2.1.2.2.1, x.2.1.2.2.2] ((0 + ((Int.toNat s) * 2)) + 1) (0 : Int)) (16 : Int))))) (w64 ((0 : Int) - (w64 ((w64 (Int.tdiv x.1.2 (16 : Int))) - (w64 (Int.tdiv (List.getD [x.2.1.1.1, x.2.1.1.2, x.2.1.2.1.1, x.2.1.2.1.2, x.2.1.2.2.1, x.2.1.2.2.2] ((0 + ((Int.toNat s) * 2)) + 1) (0 : Int)) (16 : Int)))))))) ≤ x.2.2)
 (.ret (.inr (Sum.inl ())))
 (.ret (.inl (w64 (s + (1 : Int))))))
 (.ret (.inl (w64 (s + (1 : Int))))))))))
 (.ret (.inr (Sum.inr (())))))
noncomputable def lapart (x : (I2 × (I6 × Int))) : Bool :=
 (letV (run (lapart_l0_step x) (0 : Int)) fun r =>
 (Sum.elim (fun a =>
 false) (fun b =>
 true) r))
noncomputable def lapart_pre (x : (I2 × (I6 × Int))) : Prop :=
 (Term (lapart_l0_step x) (lapart_l0_pre x) (0 : Int))
noncomputable def lapart_t (x : (I2 × (I6 × Int))) : Tr Bool true :=
 (LoopD.lp (lapart_l0 x) (lapart_l0_t x) (0 : Int) fun r =>
 (.s00 r (fun a =>
 (.ret false)) (fun b =>
 (.ret true))))
noncomputable abbrev lapart_S : FnS := ⟨(.pair (.agg yy2) (.pair (.agg yy6) (.one yi))), (.one Ty.bool), lapart_pre, lapart⟩
theorem lapart_ok : SpecOk Try.prog 13 (fnSpec lapart_S) := SpecOk.tr lapart_S lapart_t (fn := Try.f13) tt_ok sp_r18big_ok mixed (by kernel_rfl) (ItsOk.nil _ _) (fun x => (LpsOk.tr tt_ok (SpecsOk.ctxI sp_r18big_ok (ItsOk.nil _ _)) mixed 0 (lapart_l0 x) (lapart_l0_t x) LpsOk.nil (by kernel_rfl) fun g s Q => (by kernel_rfl))) (fun x => (by kernel_rfl)) fun x Q => (by kernel_rfl)
def sp_lapart : List (Nat × Ev.Spec) := (13, fnSpec lapart_S) :: sp_r18big
theorem sp_lapart_ok : SpecsOk Try.prog sp_lapart := SpecsOk.add (fn := Try.f13) (by kernel_rfl) lapart_ok sp_r18big_ok
noncomputable def lawIns_l4 (x : (Int × (Int × (Int × ((List ((List Int) × ((List I6) × I2))) × (List (Int × I3))))))) : LoopD := ⟨[], ⟨pvs 186 0 [(1, .v (.one (.ptr 0 0))), (3, .v (.one (.full 3))), (4, .v (.one (.full 4))), (6, .v (.one (.i .i64))), (7, .v (.one (.ptr 5 0))), (8, .v (.one (.i .i64))), (9, .v (.one (.ptr 6 0))), (10, .v (.one (.i .i64)))], [.cells [.i .i64, .i .i64, .i .i64, .full 1, .full 2] 26, .row (Ty.prod (Ty.sl yi) (Ty.prod (Ty.sl yy6) yy2)) 0, .row (Ty.prod yi yy3) 0, .row yy6 2, .row yi 2, .cells [.i .i64, .i .i64, .i .i64, .i .i64] 41, .cells [.i .i64, .i .i64] 43], 0, none, [], [3, 4, 5, 6, 7], [8, 9, 0, 10, 11, 12, 13, 1, 14, 15, 2], [(.l yy6), (.l yi), .i, .i, .i, .i, .i, .i, .i, .i, .i], [.i x.1, .i x.2.1, .i x.2.2.1, .l (Ty.prod (Ty.sl yi) (Ty.prod (Ty.sl yy6) yy2)) x.2.2.2.1, .l (Ty.prod yi yy3) x.2.2.2.2]⟩, [⟨.ret, .ret, ⟨pvs 186 0 [(2, .v (.one (.b)))], [], 0, none, [], [0], [], [], [.b false]⟩⟩, ⟨(.exit 4), .normal, ⟨pvs 186 0 [(1, .v (.one (.ptr 0 0))), (3, .v (.one (.full 3))), (4, .v (.one (.full 4))), (6, .v (.one (.i .i64))), (7, .v (.one (.ptr 5 0))), (8, .v (.one (.i .i64)))], [.cells [.i .i64, .i .i64, .i .i64, .full 1, .full 2] 26, .row (Ty.prod (Ty.sl yi) (Ty.prod (Ty.sl yy6) yy2)) 0, .row (Ty.prod yi yy3) 0, .row yy6 2, .row yi 2, .cells [.i .i64, .i .i64, .i .i64, .i .i64] 41], 0, none, [], [2, 3, 4, 5, 6], [7, 8, 0, 9, 10, 11, 12, 1], [(.l yy6), (.l yi), .i, .i, .i, .i, .i, .i], [.i x.1, .i x.2.1, .i x.2.2.1, .l (Ty.prod (Ty.sl yi) (Ty.prod (Ty.sl yy6) yy2)) x.2.2.2.1, .l (Ty.prod yi yy3) x.2.2.2.2]⟩⟩]⟩
noncomputable def lawIns_l4_step (x : (Int × (Int × (Int × ((List ((List Int) × ((List I6) × I2))) × (List (Int × I3))))))) (s : ((List I6) × ((List Int) × (Int × (Int × (Int × (Int × (Int × (Int × I3))))))))) : ((List I6) × ((List Int) × (Int × (Int × (Int × (Int × (Int × (Int × I3)))))))) ⊕ (Unit ⊕ ((List I6) × ((List Int) × (Int × (Int × (Int × I3)))))) :=
 (if (s.2.2.2.2.2.2.2.2.2.2 < s.2.2.1) then
 (if (((List.getD s.2.1 (Int.toNat s.2.2.2.2.2.2.2.2.2.2) (0 : Int)) != (List.getD s.2.1 (Int.toNat s.2.2.1) (0 : Int))) = true) then
 (letV (lapart ((s.2.2.2.2.2.2.2.2.1, s.2.2.2.2.2.2.2.2.2.1), ((List.getD s.1 (Int.toNat s.2.2.2.2.2.2.2.2.2.2) (((0 : Int), (0 : Int)), (((0 : Int), (0 : Int)), ((0 : Int), (0 : Int))))), (w64 ((2 : Int) * x.2.2.1))))) fun y =>
 (if ((!y) = true) then
 (Sum.inr (Sum.inl ())) else
 (Sum.inl (s.1, (s.2.1, (s.2.2.1, (s.2.2.2.1, (s.2.2.2.2.1, (s.2.2.2.2.2.1, (s.2.2.2.2.2.2.1, (s.2.2.2.2.2.2.2.1, (s.2.2.2.2.2.2.2.2.1, (s.2.2.2.2.2.2.2.2.2.1, (w64 (s.2.2.2.2.2.2.2.2.2.2 + (1 : Int)))))))))))))))) else
 (Sum.inl (s.1, (s.2.1, (s.2.2.1, (s.2.2.2.1, (s.2.2.2.2.1, (s.2.2.2.2.2.1, (s.2.2.2.2.2.2.1, (s.2.2.2.2.2.2.2.1, (s.2.2.2.2.2.2.2.2.1, (s.2.2.2.2.2.2.2.2.2.1, (w64 (s.2.2.2.2.2.2.2.2.2.2 + (1 : Int))))))))))))))) else
 (Sum.inr (Sum.inr ((s.1, (s.2.1, (s.2.2.1, (s.2.2.2.1, (s.2.2.2.2.1, (s.2.2.2.2.2.1, (s.2.2.2.2.2.2.1, s.2.2.2.2.2.2.2.1)))))))))))
noncomputable def lawIns_l4_pre (x : (Int × (Int × (Int × ((List ((List Int) × ((List I6) × I2))) × (List (Int × I3))))))) (s : ((List I6) × ((List Int) × (Int × (Int × (Int × (Int × (Int × (Int × I3))))))))) : Prop :=
 ((s.2.2.2.2.2.2.2.2.2.2 < s.2.2.1) →
 ((((0 : Int) ≤ s.2.2.2.2.2.2.2.2.2.2) ∧ (s.2.2.2.2.2.2.2.2.2.2 < (((List.length s.2.1) : Nat) : Int))) ∧
 (((Int.toNat s.2.2.2.2.2.2.2.2.2.2) < (List.length s.2.1)) ∧
 (((Int.toNat s.2.2.2.2.2.2.2.2.2.2) < (List.length s.2.1)) ∧
 ((((0 : Int) ≤ s.2.2.1) ∧ (s.2.2.1 < (((List.length s.2.1) : Nat) : Int))) ∧
 (((Int.toNat s.2.2.1) < (List.length s.2.1)) ∧
 (((Int.toNat s.2.2.1) < (List.length s.2.1)) ∧
 ((((List.getD s.2.1 (Int.toNat s.2.2.2.2.2.2.2.2.2.2) (0 : Int)) != (List.getD s.2.1 (Int.toNat s.2.2.1) (0 : Int))) = true) →
 ((((0 : Int) ≤ s.2.2.2.2.2.2.2.2.2.2) ∧ (s.2.2.2.2.2.2.2.2.2.2 < (((List.length s.1) : Nat) : Int))) ∧
 (((Int.toNat s.2.2.2.2.2.2.2.2.2.2) < (List.length s.1)) ∧
 (((Int.toNat s.2.2.2.2.2.2.2.2.2.2) < (List.length s.1)) ∧
 (lapart_pre ((s.2.2.2.2.2.2.2.2.1, s.2.2.2.2.2.2.2.2.2.1), ((List.getD s.1 (Int.toNat s.2.2.2.2.2.2.2.2.2.2) (((0 : Int), (0 : Int)), (((0 : Int), (0 : Int)), ((0 : Int), (0 : Int))))), (w64 ((2 : Int) * x.2.2.1))))))))))))))))
noncomputable def lawIns_l4_t (x : (Int × (Int × (Int × ((List ((List Int) × ((List I6) × I2))) × (List (Int × I3))))))) (s : ((List I6) × ((List Int) × (Int × (Int × (Int × (Int × (Int × (Int × I3))))))))) : Tr (((List I6) × ((List Int) × (Int × (Int × (Int × (Int × (Int × (Int × I3)))))))) ⊕ (Unit ⊕ ((List I6) × ((List Int) × (Int × (Int × (Int × I3))))))) true :=
 (.i10 (s.2.2.2.2.2.2.2.2.2.2 < s.2.2.1)
 (.oR s.2.2.2.2.2.2.2.2.2.2 (((List.length s.2.1) : Nat) : Int)
 (.od ((Int.toNat s.2.2.2.2.2.2.2.2.2.2) < (List.length s.2.1))
 (.od ((Int.toNat s.2.2.2.2.2.2.2.2.2.2) < (List.length s.2.1))
 (.oR s.2.2.1 (((List.length s.2.1) : Nat) : Int)
 (.od ((Int.toNat s.2.2.1) < (List.length s.2.1))
 (.od ((Int.toNat s.2.2.1) < (List.length s.2.1))
 (.b10 ((List.getD s.2.1 (Int.toNat s.2.2.2.2.2.2.2.2.2.2) (0 : Int)) != (List.getD s.2.1 (Int.toNat s.2.2.1) (0 : Int)))
 (.oR s.2.2.2.2.2.2.2.2.2.2 (((List.length s.1) : Nat) : Int)
 (.od ((Int.toNat s.2.2.2.2.2.2.2.2.2.2) < (List.length s.1))
 (.od ((Int.toNat s.2.2.2.2.2.2.2.2.2.2) < (List.length s.1))
 (.fn lapart_S ((s.2.2.2.2.2.2.2.2.1, s.2.2.2.2.2.2.2.2.2.1), ((List.getD s.1 (Int.toNat s.2.2.2.2.2.2.2.2.2.2) zz6), (w64 ((2 : Int) * x.2.2.1)))) fun y =>
 (.b00 (!y)
 (.ret (.inr (Sum.inl ())))
 (.ret (.inl (s.1, (s.2.1, (s.2.2.1, (s.2.2.2.1, (s.2.2.2.2.1, (s.2.2.2.2.2.1, (s.2.2.2.2.2.2.1, (s.2.2.2.2.2.2.2.1, (s.2.2.2.2.2.2.2.2.1, (s.2.2.2.2.2.2.2.2.2.1, (w64 (s.2.2.2.2.2.2.2.2.2.2 + (1 : Int))))))))))))))))))))
 (.ret (.inl (s.1, (s.2.1, (s.2.2.1, (s.2.2.2.1, (s.2.2.2.2.1, (s.2.2.2.2.2.1, (s.2.2.2.2.2.2.1, (s.2.2.2.2.2.2.2.1, (s.2.2.2.2.2.2.2.2.1, (s.2.2.2.2.2.2.2.2.2.1, (w64 (s.2.2.2.2.2.2.2.2.2.2 + (1 : Int))))))))))))))))))))))
 (.ret (.inr (Sum.inr ((s.1, (s.2.1, (s.2.2.1, (s.2.2.2.1, (s.2.2.2.2.1, (s.2.2.2.2.2.1, (s.2.2.2.2.2.2.1, s.2.2.2.2.2.2.2.1))))))))))))
noncomputable def lawIns_l2 (x : (Int × (Int × (Int × ((List ((List Int) × ((List I6) × I2))) × (List (Int × I3))))))) : LoopD := ⟨[], ⟨pvs 186 0 [(1, .v (.one (.ptr 0 0))), (3, .v (.one (.full 3))), (4, .v (.one (.full 4))), (6, .v (.one (.i .i64))), (7, .v (.one (.ptr 5 0))), (8, .v (.one (.i .i64)))], [.cells [.i .i64, .i .i64, .i .i64, .full 1, .full 2] 26, .row (Ty.prod (Ty.sl yi) (Ty.prod (Ty.sl yy6) yy2)) 0, .row (Ty.prod yi yy3) 0, .row yy6 2, .row yi 2, .cells [.i .i64, .i .i64, .i .i64, .i .i64] 41], 0, none, [], [2, 3, 4, 5, 6], [7, 8, 0, 9, 10, 11, 12, 1], [(.l yy6), (.l yi), .i, .i, .i, .i, .i, .i], [.i x.1, .i x.2.1, .i x.2.2.1, .l (Ty.prod (Ty.sl yi) (Ty.prod (Ty.sl yy6) yy2)) x.2.2.2.1, .l (Ty.prod yi yy3) x.2.2.2.2]⟩, [⟨.ret, .ret, ⟨pvs 186 0 [(2, .v (.one (.b)))], [], 0, none, [], [0], [], [], [.b false]⟩⟩, ⟨(.exit 2), .normal, ⟨pvs 186 0 [(1, .v (.one (.ptr 0 0))), (3, .v (.one (.full 3))), (4, .v (.one (.full 4))), (6, .v (.one (.i .i64)))], [.cells [.i .i64, .i .i64, .i .i64, .full 1, .full 2] 26, .row (Ty.prod (Ty.sl yi) (Ty.prod (Ty.sl yy6) yy2)) 0, .row (Ty.prod yi yy3) 0, .row yy6 2, .row yi 2], 0, none, [], [1, 2, 3, 4, 5], [6, 7, 0], [(.l yy6), (.l yi), .i], [.i x.1, .i x.2.1, .i x.2.2.1, .l (Ty.prod (Ty.sl yi) (Ty.prod (Ty.sl yy6) yy2)) x.2.2.2.1, .l (Ty.prod yi yy3) x.2.2.2.2]⟩⟩]⟩
noncomputable def lawIns_l2_step (x : (Int × (Int × (Int × ((List ((List Int) × ((List I6) × I2))) × (List (Int × I3))))))) (s : ((List I6) × ((List Int) × (Int × (Int × (Int × I3)))))) : ((List I6) × ((List Int) × (Int × (Int × (Int × I3))))) ⊕ (Unit ⊕ ((List I6) × ((List Int) × Int))) :=
 (if (s.2.2.2.2.2.2.2 < (3 : Int)) then
 (if ((List.getD [(List.getD s.1 (Int.toNat s.2.2.1) (((0 : Int), (0 : Int)), (((0 : Int), (0 : Int)), ((0 : Int), (0 : Int))))).1.1, (List.getD s.1 (Int.toNat s.2.2.1) (((0 : Int), (0 : Int)), (((0 : Int), (0 : Int)), ((0 : Int), (0 : Int))))).1.2, (List.getD s.1 (Int.toNat s.2.2.1) (((0 : Int), (0 : Int)), (((0 : Int), (0 : Int)), ((0 : Int), (0 : Int))))).2.1.1, (List.getD s.1 (Int.toNat s.2.2.1) (((0 : Int), (0 : Int)), (((0 : Int), (0 : Int)), ((0 : Int), (0 : Int))))).2.1.2, (List.getD s.1 (Int.toNat s.2.2.1) (((0 : Int), (0 : Int)), (((0 : Int), (0 : Int)), ((0 : Int), (0 : Int))))).2.2.1, (List.getD s.1 (Int.toNat s.2.2.1) (((0 : Int), (0 : Int)), (((0 : Int), (0 : Int)), ((0 : Int), (0 : Int))))).2.2.2] (0 + ((Int.toNat s.2.2.2.2.2.2.2) * 2)) (0 : Int)) < (w64 ((16 : Int) * (w64 (s.2.2.2.1 + x.2.2.1))))) then
 (Sum.inr (Sum.inl ())) else
 (if ((List.getD [(List.getD s.1 (Int.toNat s.2.2.1) (((0 : Int), (0 : Int)), (((0 : Int), (0 : Int)), ((0 : Int), (0 : Int))))).1.1, (List.getD s.1 (Int.toNat s.2.2.1) (((0 : Int), (0 : Int)), (((0 : Int), (0 : Int)), ((0 : Int), (0 : Int))))).1.2, (List.getD s.1 (Int.toNat s.2.2.1) (((0 : Int), (0 : Int)), (((0 : Int), (0 : Int)), ((0 : Int), (0 : Int))))).2.1.1, (List.getD s.1 (Int.toNat s.2.2.1) (((0 : Int), (0 : Int)), (((0 : Int), (0 : Int)), ((0 : Int), (0 : Int))))).2.1.2, (List.getD s.1 (Int.toNat s.2.2.1) (((0 : Int), (0 : Int)), (((0 : Int), (0 : Int)), ((0 : Int), (0 : Int))))).2.2.1, (List.getD s.1 (Int.toNat s.2.2.1) (((0 : Int), (0 : Int)), (((0 : Int), (0 : Int)), ((0 : Int), (0 : Int))))).2.2.2] (0 + ((Int.toNat s.2.2.2.2.2.2.2) * 2)) (0 : Int)) ≥ (w64 ((16 : Int) * (w64 ((w64 (s.2.2.2.1 + s.2.2.2.2.2.1)) - x.2.2.1))))) then
 (Sum.inr (Sum.inl ())) else
 (if ((List.getD [(List.getD s.1 (Int.toNat s.2.2.1) (((0 : Int), (0 : Int)), (((0 : Int), (0 : Int)), ((0 : Int), (0 : Int))))).1.1, (List.getD s.1 (Int.toNat s.2.2.1) (((0 : Int), (0 : Int)), (((0 : Int), (0 : Int)), ((0 : Int), (0 : Int))))).1.2, (List.getD s.1 (Int.toNat s.2.2.1) (((0 : Int), (0 : Int)), (((0 : Int), (0 : Int)), ((0 : Int), (0 : Int))))).2.1.1, (List.getD s.1 (Int.toNat s.2.2.1) (((0 : Int), (0 : Int)), (((0 : Int), (0 : Int)), ((0 : Int), (0 : Int))))).2.1.2, (List.getD s.1 (Int.toNat s.2.2.1) (((0 : Int), (0 : Int)), (((0 : Int), (0 : Int)), ((0 : Int), (0 : Int))))).2.2.1, (List.getD s.1 (Int.toNat s.2.2.1) (((0 : Int), (0 : Int)), (((0 : Int), (0 : Int)), ((0 : Int), (0 : Int))))).2.2.2] ((0 + ((Int.toNat s.2.2.2.2.2.2.2) * 2)) + 1) (0 : Int)) < (w64 ((16 : Int) * (w64 (s.2.2.2.2.1 + x.2.2.1))))) then
 (Sum.inr (Sum.inl ())) else
 (if ((List.getD [(List.getD s.1 (Int.toNat s.2.2.1) (((0 : Int), (0 : Int)), (((0 : Int), (0 : Int)), ((0 : Int), (0 : Int))))).1.1, (List.getD s.1 (Int.toNat s.2.2.1) (((0 : Int), (0 : Int)), (((0 : Int), (0 : Int)), ((0 : Int), (0 : Int))))).1.2, (List.getD s.1 (Int.toNat s.2.2.1) (((0 : Int), (0 : Int)), (((0 : Int), (0 : Int)), ((0 : Int), (0 : Int))))).2.1.1, (List.getD s.1 (Int.toNat s.2.2.1) (((0 : Int), (0 : Int)), (((0 : Int), (0 : Int)), ((0 : Int), (0 : Int))))).2.1.2, (List.getD s.1 (Int.toNat s.2.2.1) (((0 : Int), (0 : Int)), (((0 : Int), (0 : Int)), ((0 : Int), (0 : Int))))).2.2.1, (List.getD s.1 (Int.toNat s.2.2.1) (((0 : Int), (0 : Int)), (((0 : Int), (0 : Int)), ((0 : Int), (0 : Int))))).2.2.2] ((0 + ((Int.toNat s.2.2.2.2.2.2.2) * 2)) + 1) (0 : Int)) ≥ (w64 ((16 : Int) * (w64 ((w64 (s.2.2.2.2.1 + s.2.2.2.2.2.2.1)) - x.2.2.1))))) then
 (Sum.inr (Sum.inl ())) else
 (letV (run (lawIns_l4_step x) (s.1, (s.2.1, (s.2.2.1, (s.2.2.2.1, (s.2.2.2.2.1, (s.2.2.2.2.2.1, (s.2.2.2.2.2.2.1, (s.2.2.2.2.2.2.2, ((List.getD [(List.getD s.1 (Int.toNat s.2.2.1) (((0 : Int), (0 : Int)), (((0 : Int), (0 : Int)), ((0 : Int), (0 : Int))))).1.1, (List.getD s.1 (Int.toNat s.2.2.1) (((0 : Int), (0 : Int)), (((0 : Int), (0 : Int)), ((0 : Int), (0 : Int))))).1.2, (List.getD s.1 (Int.toNat s.2.2.1) (((0 : Int), (0 : Int)), (((0 : Int), (0 : Int)), ((0 : Int), (0 : Int))))).2.1.1, (List.getD s.1 (Int.toNat s.2.2.1) (((0 : Int), (0 : Int)), (((0 : Int), (0 : Int)), ((0 : Int), (0 : Int))))).2.1.2, (List.getD s.1 (Int.toNat s.2.2.1) (((0 : Int), (0 : Int)), (((0 : Int), (0 : Int)), ((0 : Int), (0 : Int))))).2.2.1, (List.getD s.1 (Int.toNat s.2.2.1) (((0 : Int), (0 : Int)), (((0 : Int), (0 : Int)), ((0 : Int), (0 : Int))))).2.2.2] (0 + ((Int.toNat s.2.2.2.2.2.2.2) * 2)) (0 : Int)), ((List.getD [(List.getD s.1 (Int.toNat s.2.2.1) (((0 : Int), (0 : Int)), (((0 : Int), (0 : Int)), ((0 : Int), (0 : Int))))).1.1, (List.getD s.1 (Int.toNat s.2.2.1) (((0 : Int), (0 : Int)), (((0 : Int), (0 : Int)), ((0 : Int), (0 : Int))))).1.2, (List.getD s.1 (Int.toNat s.2.2.1) (((0 : Int), (0 : Int)), (((0 : Int), (0 : Int)), ((0 : Int), (0 : Int))))).2.1.1, (List.getD s.1 (Int.toNat s.2.2.1) (((0 : Int), (0 : Int)), (((0 : Int), (0 : Int)), ((0 : Int), (0 : Int))))).2.1.2, (List.getD s.1 (Int.toNat s.2.2.1) (((0 : Int), (0 : Int)), (((0 : Int), (0 : Int)), ((0 : Int), (0 : Int))))).2.2.1, (List.getD s.1 (Int.toNat s.2.2.1) (((0 : Int), (0 : Int)), (((0 : Int), (0 : Int)), ((0 : Int), (0 : Int))))).2.2.2] ((0 + ((Int.toNat s.2.2.2.2.2.2.2) * 2)) + 1) (0 : Int)), (0 : Int)))))))))))) fun r =>
 (Sum.elim (fun a =>
 (Sum.inr (Sum.inl ()))) (fun b =>
 (Sum.inl (b.1, (b.2.1, (b.2.2.1, (b.2.2.2.1, (b.2.2.2.2.1, (b.2.2.2.2.2.1, (b.2.2.2.2.2.2.1, (w64 (b.2.2.2.2.2.2.2 + (1 : Int)))))))))))) r)))))) else
 (Sum.inr (Sum.inr ((s.1, (s.2.1, s.2.2.1))))))
noncomputable def lawIns_l2_pre (x : (Int × (Int × (Int × ((List ((List Int) × ((List I6) × I2))) × (List (Int × I3))))))) (s : ((List I6) × ((List Int) × (Int × (Int × (Int × I3)))))) : Prop :=
 ((s.2.2.2.2.2.2.2 < (3 : Int)) →
 ((((0 : Int) ≤ s.2.2.1) ∧ (s.2.2.1 < (((List.length s.1) : Nat) : Int))) ∧
 (((Int.toNat s.2.2.1) < (List.length s.1)) ∧
 ((((0 : Int) ≤ s.2.2.2.2.2.2.2) ∧ (s.2.2.2.2.2.2.2 < (3 : Int))) ∧
 (((Int.toNat s.2.2.1) < (List.length s.1)) ∧
 ((((0 + ((Int.toNat s.2.2.2.2.2.2.2) * 2)) + 2) ≤ 6) ∧
 (((Int.toNat s.2.2.1) < (List.length s.1)) ∧
 (¬ ((List.getD [(List.getD s.1 (Int.toNat s.2.2.1) (((0 : Int), (0 : Int)), (((0 : Int), (0 : Int)), ((0 : Int), (0 : Int))))).1.1, (List.getD s.1 (Int.toNat s.2.2.1) (((0 : Int), (0 : Int)), (((0 : Int), (0 : Int)), ((0 : Int), (0 : Int))))).1.2, (List.getD s.1 (Int.toNat s.2.2.1) (((0 : Int), (0 : Int)), (((0 : Int), (0 : Int)), ((0 : Int), (0 : Int))))).2.1.1, (List.getD s.1 (Int.toNat s.2.2.1) (((0 : Int), (0 : Int)), (((0 : Int), (0 : Int)), ((0 : Int), (0 : Int))))).2.1.2, (List.getD s.1 (Int.toNat s.2.2.1) (((0 : Int), (0 : Int)), (((0 : Int), (0 : Int)), ((0 : Int), (0 : Int))))).2.2.1, (List.getD s.1 (Int.toNat s.2.2.1) (((0 : Int), (0 : Int)), (((0 : Int), (0 : Int)), ((0 : Int), (0 : Int))))).2.2.2] (0 + ((Int.toNat s.2.2.2.2.2.2.2) * 2)) (0 : Int)) < (w64 ((16 : Int) * (w64 (s.2.2.2.1 + x.2.2.1))))) →
 (¬ ((List.getD [(List.getD s.1 (Int.toNat s.2.2.1) (((0 : Int), (0 : Int)), (((0 : Int), (0 : Int)), ((0 : Int), (0 : Int))))).1.1, (List.getD s.1 (Int.toNat s.2.2.1) (((0 : Int), (0 : Int)), (((0 : Int), (0 : Int)), ((0 : Int), (0 : Int))))).1.2, (List.getD s.1 (Int.toNat s.2.2.1) (((0 : Int), (0 : Int)), (((0 : Int), (0 : Int)), ((0 : Int), (0 : Int))))).2.1.1, (List.getD s.1 (Int.toNat s.2.2.1) (((0 : Int), (0 : Int)), (((0 : Int), (0 : Int)), ((0 : Int), (0 : Int))))).2.1.2, (List.getD s.1 (Int.toNat s.2.2.1) (((0 : Int), (0 : Int)), (((0 : Int), (0 : Int)), ((0 : Int), (0 : Int))))).2.2.1, (List.getD s.1 (Int.toNat s.2.2.1) (((0 : Int), (0 : Int)), (((0 : Int), (0 : Int)), ((0 : Int), (0 : Int))))).2.2.2] (0 + ((Int.toNat s.2.2.2.2.2.2.2) * 2)) (0 : Int)) ≥ (w64 ((16 : Int) * (w64 ((w64 (s.2.2.2.1 + s.2.2.2.2.2.1)) - x.2.2.1))))) →
 (¬ ((List.getD [(List.getD s.1 (Int.toNat s.2.2.1) (((0 : Int), (0 : Int)), (((0 : Int), (0 : Int)), ((0 : Int), (0 : Int))))).1.1, (List.getD s.1 (Int.toNat s.2.2.1) (((0 : Int), (0 : Int)), (((0 : Int), (0 : Int)), ((0 : Int), (0 : Int))))).1.2, (List.getD s.1 (Int.toNat s.2.2.1) (((0 : Int), (0 : Int)), (((0 : Int), (0 : Int)), ((0 : Int), (0 : Int))))).2.1.1, (List.getD s.1 (Int.toNat s.2.2.1) (((0 : Int), (0 : Int)), (((0 : Int), (0 : Int)), ((0 : Int), (0 : Int))))).2.1.2, (List.getD s.1 (Int.toNat s.2.2.1) (((0 : Int), (0 : Int)), (((0 : Int), (0 : Int)), ((0 : Int), (0 : Int))))).2.2.1, (List.getD s.1 (Int.toNat s.2.2.1) (((0 : Int), (0 : Int)), (((0 : Int), (0 : Int)), ((0 : Int), (0 : Int))))).2.2.2] ((0 + ((Int.toNat s.2.2.2.2.2.2.2) * 2)) + 1) (0 : Int)) < (w64 ((16 : Int) * (w64 (s.2.2.2.2.1 + x.2.2.1))))) →
 (¬ ((List.getD [(List.getD s.1 (Int.toNat s.2.2.1) (((0 : Int), (0 : Int)), (((0 : Int), (0 : Int)), ((0 : Int), (0 : Int))))).1.1, (List.getD s.1 (Int.toNat s.2.2.1) (((0 : Int), (0 : Int)), (((0 : Int), (0 : Int)), ((0 : Int), (0 : Int))))).1.2, (List.getD s.1 (Int.toNat s.2.2.1) (((0 : Int), (0 : Int)), (((0 : Int), (0 : Int)), ((0 : Int), (0 : Int))))).2.1.1, (List.getD s.1 (Int.toNat s.2.2.1) (((0 : Int), (0 : Int)), (((0 : Int), (0 : Int)), ((0 : Int), (0 : Int))))).2.1.2, (List.getD s.1 (Int.toNat s.2.2.1) (((0 : Int), (0 : Int)), (((0 : Int), (0 : Int)), ((0 : Int), (0 : Int))))).2.2.1, (List.getD s.1 (Int.toNat s.2.2.1) (((0 : Int), (0 : Int)), (((0 : Int), (0 : Int)), ((0 : Int), (0 : Int))))).2.2.2] ((0 + ((Int.toNat s.2.2.2.2.2.2.2) * 2)) + 1) (0 : Int)) ≥ (w64 ((16 : Int) * (w64 ((w64 (s.2.2.2.2.1 + s.2.2.2.2.2.2.1)) - x.2.2.1))))) →
 (Term (lawIns_l4_step x) (lawIns_l4_pre x) (s.1, (s.2.1, (s.2.2.1, (s.2.2.2.1, (s.2.2.2.2.1, (s.2.2.2.2.2.1, (s.2.2.2.2.2.2.1, (s.2.2.2.2.2.2.2, ((List.getD [(List.getD s.1 (Int.toNat s.2.2.1) (((0 : Int), (0 : Int)), (((0 : Int), (0 : Int)), ((0 : Int), (0 : Int))))).1.1, (List.getD s.1 (Int.toNat s.2.2.1) (((0 : Int), (0 : Int)), (((0 : Int), (0 : Int)), ((0 : Int), (0 : Int))))).1.2, (List.getD s.1 (Int.toNat s.2.2.1) (((0 : Int), (0 : Int)), (((0 : Int), (0 : Int)), ((0 : Int), (0 : Int))))).2.1.1, (List.getD s.1 (Int.toNat s.2.2.1) (((0 : Int), (0 : Int)), (((0 : Int), (0 : Int)), ((0 : Int), (0 : Int))))).2.1.2, (List.getD s.1 (Int.toNat s.2.2.1) (((0 : Int), (0 : Int)), (((0 : Int), (0 : Int)), ((0 : Int), (0 : Int))))).2.2.1, (List.getD s.1 (Int.toNat s.2.2.1) (((0 : Int), (0 : Int)), (((0 : Int), (0 : Int)), ((0 : Int), (0 : Int))))).2.2.2] (0 + ((Int.toNat s.2.2.2.2.2.2.2) * 2)) (0 : Int)), ((List.getD [(List.getD s.1 (Int.toNat s.2.2.1) (((0 : Int), (0 : Int)), (((0 : Int), (0 : Int)), ((0 : Int), (0 : Int))))).1.1, (List.getD s.1 (Int.toNat s.2.2.1) (((0 : Int), (0 : Int)), (((0 : Int), (0 : Int)), ((0 : Int), (0 : Int))))).1.2, (List.getD s.1 (Int.toNat s.2.2.1) (((0 : Int), (0 : Int)), (((0 : Int), (0 : Int)), ((0 : Int), (0 : Int))))).2.1.1, (List.getD s.1 (Int.toNat s.2.2.1) (((0 : Int), (0 : Int)), (((0 : Int), (0 : Int)), ((0 : Int), (0 : Int))))).2.1.2, (List.getD s.1 (Int.toNat s.2.2.1) (((0 : Int), (0 : Int)), (((0 : Int), (0 : Int)), ((0 : Int), (0 : Int))))).2.2.1, (List.getD s.1 (Int.toNat s.2.2.1) (((0 : Int), (0 : Int)), (((0 : Int), (0 : Int)), ((0 : Int), (0 : Int))))).2.2.2] ((0 + ((Int.toNat s.2.2.2.2.2.2.2) * 2)) + 1) (0 : Int)), (0 : Int)))))))))))))))))))))))
noncomputable def lawIns_l2_t (x : (Int × (Int × (Int × ((List ((List Int) × ((List I6) × I2))) × (List (Int × I3))))))) (s : ((List I6) × ((List Int) × (Int × (Int × (Int × I3)))))) : Tr (((List I6) × ((List Int) × (Int × (Int × (Int × I3))))) ⊕ (Unit ⊕ ((List I6) × ((List Int) × Int)))) true :=
 (.i10 (s.2.2.2.2.2.2.2 < (3 : Int))
 (.oR s.2.2.1 (((List.length s.1) : Nat) : Int)
 (.od ((Int.toNat s.2.2.1) < (List.length s.1))
 (.oR s.2.2.2.2.2.2.2 (3 : Int)
 (.od ((Int.toNat s.2.2.1) < (List.length s.1))
 (.od (((0 + ((Int.toNat s.2.2.2.2.2.2.2) * 2)) + 2) ≤ 6)
 (.od ((Int.toNat s.2.2.1) < (List.length s.1))
 (.i01 ((List.getD [(List.getD s.1 (Int.toNat s.2.2.1) zz6).1.1, (List.getD s.1 (Int.toNat s.2.2.1) zz6).1.2, (List.getD s.1 (Int.toNat s.2.2.1) zz6).2.1.1, (List.getD s.1 (Int.toNat s.2.2.1) zz6).2.1.2, (List.getD s.1 (Int.toNat s.2.2.1) zz6).2.2.1, (List.getD s.1 (Int.toNat s.2.2.1) zz6).2.2.2] (0 + ((Int.toNat s.2.2.2.2.2.2.2) * 2)) (0 : Int)) < (w64 ((16 : Int) * (w64 (s.2.2.2.1 + x.2.2.1)))))
 (.ret (.inr (Sum.inl ())))
 (.i01 ((List.getD [(List.getD s.1 (Int.toNat s.2.2.1) zz6).1.1, (List.getD s.1 (Int.toNat s.2.2.1) zz6).1.2, (List.getD s.1 (Int.toNat s.2.2.1) zz6).2.1.1, (List.getD s.1 (Int.toNat s.2.2.1) zz6).2.1.2, (List.getD s.1 (Int.toNat s.2.2.1) zz6).2.2.1, (List.getD s.1 (Int.toNat s.2.2.1) zz6).2.2.2] (0 + ((Int.toNat s.2.2.2.2.2.2.2) * 2)) (0 : Int)) ≥ (w64 ((16 : Int) * (w64 ((w64 (s.2.2.2.1 + s.2.2.2.2.2.1)) - x.2.2.1)))))
 (.ret (.inr (Sum.inl ())))
 (.i01 ((List.getD [(List.getD s.1 (Int.toNat s.2.2.1) zz6).1.1, (List.getD s.1 (Int.toNat s.2.2.1) zz6).1.2, (List.getD s.1 (Int.toNat s.2.2.1) zz6).2.1.1, (List.getD s.1 (Int.toNat s.2.2.1) zz6).2.1.2, (List.getD s.1 (Int.toNat s.2.2.1) zz6).2.2.1, (List.getD s.1 (Int.toNat s.2.2.1) zz6).2.2.2] ((0 + ((Int.toNat s.2.2.2.2.2.2.2) * 2)) + 1) (0 : Int)) < (w64 ((16 : Int) * (w64 (s.2.2.2.2.1 + x.2.2.1)))))
 (.ret (.inr (Sum.inl ())))
 (.i01 ((List.getD [(List.getD s.1 (Int.toNat s.2.2.1) zz6).1.1, (List.getD s.1 (Int.toNat s.2.2.1) zz6).1.2, (List.getD s.1 (Int.toNat s.2.2.1) zz6).2.1.1, (List.getD s.1 (Int.toNat s.2.2.1) zz6).2.1.2, (List.getD s.1 (Int.toNat s.2.2.1) zz6).2.2.1, (List.getD s.1 (Int.toNat s.2.2.1) zz6).2.2.2] ((0 + ((Int.toNat s.2.2.2.2.2.2.2) * 2)) + 1) (0 : Int)) ≥ (w64 ((16 : Int) * (w64 ((w64 (s.2.2.2.2.1 + s.2.2.2.2.2.2.1)) - x.2.2.1)))))
 (.ret (.inr (Sum.inl ())))
 (LoopD.lp (lawIns_l4 x) (lawIns_l4_t x) (s.1, (s.2.1, (s.2.2.1, (s.2.2.2.1, (s.2.2.2.2.1, (s.2.2.2.2.2.1, (s.2.2.2.2.2.2.1, (s.2.2.2.2.2.2.2, ((List.getD [(List.getD s.1 (Int.toNat s.2.2.1) zz6).1.1, (List.getD s.1 (Int.toNat s.2.2.1) zz6).1.2, (List.getD s.1 (Int.toNat s.2.2.1) zz6).2.1.1, (List.getD s.1 (Int.toNat s.2.2.1) zz6).2.1.2, (List.getD s.1 (Int.toNat s.2.2.1) zz6).2.2.1, (List.getD s.1 (Int.toNat s.2.2.1) zz6).2.2.2] (0 + ((Int.toNat s.2.2.2.2.2.2.2) * 2)) (0 : Int)), ((List.getD [(List.getD s.1 (Int.toNat s.2.2.1) zz6).1.1, (List.getD s.1 (Int.toNat s.2.2.1) zz6).1.2, (List.getD s.1 (Int.toNat s.2.2.1) zz6).2.1.1, (List.getD s.1 (Int.toNat s.2.2.1) zz6).2.1.2, (List.getD s.1 (Int.toNat s.2.2.1) zz6).2.2.1, (List.getD s.1 (Int.toNat s.2.2.1) zz6).2.2.2] ((0 + ((Int.toNat s.2.2.2.2.2.2.2) * 2)) + 1) (0 : Int)), (0 : Int))))))))))) fun r =>
 (.s00 r (fun a =>
 (.ret (.inr (Sum.inl ())))) (fun b =>
 (.ret (.inl (b.1, (b.2.1, (b.2.2.1, (b.2.2.2.1, (b.2.2.2.2.1, (b.2.2.2.2.2.1, (b.2.2.2.2.2.2.1, (w64 (b.2.2.2.2.2.2.2 + (1 : Int)))))))))))))))))))))))))
 (.ret (.inr (Sum.inr ((s.1, (s.2.1, s.2.2.1)))))))
noncomputable def lawIns_l0 (x : (Int × (Int × (Int × ((List ((List Int) × ((List I6) × I2))) × (List (Int × I3))))))) : LoopD := ⟨[], ⟨pvs 186 0 [(1, .v (.one (.ptr 0 0))), (3, .v (.one (.full 3))), (4, .v (.one (.full 4))), (6, .v (.one (.i .i64)))], [.cells [.i .i64, .i .i64, .i .i64, .full 1, .full 2] 26, .row (Ty.prod (Ty.sl yi) (Ty.prod (Ty.sl yy6) yy2)) 0, .row (Ty.prod yi yy3) 0, .row yy6 2, .row yi 2], 0, none, [], [1, 2, 3, 4, 5], [6, 7, 0], [(.l yy6), (.l yi), .i], [.i x.1, .i x.2.1, .i x.2.2.1, .l (Ty.prod (Ty.sl yi) (Ty.prod (Ty.sl yy6) yy2)) x.2.2.2.1, .l (Ty.prod yi yy3) x.2.2.2.2]⟩, [⟨.ret, .ret, ⟨pvs 186 0 [(2, .v (.one (.b)))], [], 0, none, [], [0], [], [], [.b false]⟩⟩, ⟨(.exit 0), .normal, ⟨pvs 186 0 [], [], 0, none, [], [], [], [], []⟩⟩]⟩
noncomputable def lawIns_l0_step (x : (Int × (Int × (Int × ((List ((List Int) × ((List I6) × I2))) × (List (Int × I3))))))) (s : ((List I6) × ((List Int) × Int))) : ((List I6) × ((List Int) × Int)) ⊕ (Unit ⊕ Unit) :=
 (if (s.2.2 < (((List.length s.1) : Nat) : Int)) then
 (if ((List.getD s.2.1 (Int.toNat s.2.2) (0 : Int)) < (0 : Int)) then
 (Sum.inr (Sum.inl ())) else
 (if ((List.getD s.2.1 (Int.toNat s.2.2) (0 : Int)) ≥ (((List.length x.2.2.2.2) : Nat) : Int)) then
 (Sum.inr (Sum.inl ())) else
 (if (s.2.2 > (0 : Int)) then
 (if ((List.getD s.2.1 (Int.toNat s.2.2) (0 : Int)) < (List.getD s.2.1 (Int.toNat (w64 (s.2.2 - (1 : Int)))) (0 : Int))) then
 (Sum.inr (Sum.inl ())) else
 (letV (run (lawIns_l2_step x) (s.1, (s.2.1, (s.2.2, ((List.getD x.2.2.2.2 (Int.toNat (List.getD s.2.1 (Int.toNat s.2.2) (0 : Int))) ((0 : Int), ((0 : Int), ((0 : Int), (0 : Int))))).1, ((List.getD x.2.2.2.2 (Int.toNat (List.getD s.2.1 (Int.toNat s.2.2) (0 : Int))) ((0 : Int), ((0 : Int), ((0 : Int), (0 : Int))))).2.1, ((List.getD x.2.2.2.2 (Int.toNat (List.getD s.2.1 (Int.toNat s.2.2) (0 : Int))) ((0 : Int), ((0 : Int), ((0 : Int), (0 : Int))))).2.2.1, ((List.getD x.2.2.2.2 (Int.toNat (List.getD s.2.1 (Int.toNat s.2.2) (0 : Int))) ((0 : Int), ((0 : Int), ((0 : Int), (0 : Int))))).2.2.2, (0 : Int))))))))) fun r =>
 (Sum.elim (fun a =>
 (Sum.inr (Sum.inl ()))) (fun b =>
 (Sum.inl (b.1, (b.2.1, (w64 (b.2.2 + (1 : Int))))))) r))) else
 (letV (run (lawIns_l2_step x) (s.1, (s.2.1, (s.2.2, ((List.getD x.2.2.2.2 (Int.toNat (List.getD s.2.1 (Int.toNat s.2.2) (0 : Int))) ((0 : Int), ((0 : Int), ((0 : Int), (0 : Int))))).1, ((List.getD x.2.2.2.2 (Int.toNat (List.getD s.2.1 (Int.toNat s.2.2) (0 : Int))) ((0 : Int), ((0 : Int), ((0 : Int), (0 : Int))))).2.1, ((List.getD x.2.2.2.2 (Int.toNat (List.getD s.2.1 (Int.toNat s.2.2) (0 : Int))) ((0 : Int), ((0 : Int), ((0 : Int), (0 : Int))))).2.2.1, ((List.getD x.2.2.2.2 (Int.toNat (List.getD s.2.1 (Int.toNat s.2.2) (0 : Int))) ((0 : Int), ((0 : Int), ((0 : Int), (0 : Int))))).2.2.2, (0 : Int))))))))) fun r =>
 (Sum.elim (fun a =>
 (Sum.inr (Sum.inl ()))) (fun b =>
 (Sum.inl (b.1, (b.2.1, (w64 (b.2.2 + (1 : Int))))))) r))))) else
 (Sum.inr (Sum.inr (()))))
noncomputable def lawIns_l0_pre (x : (Int × (Int × (Int × ((List ((List Int) × ((List I6) × I2))) × (List (Int × I3))))))) (s : ((List I6) × ((List Int) × Int))) : Prop :=
 ((s.2.2 < (((List.length s.1) : Nat) : Int)) →
 ((((0 : Int) ≤ s.2.2) ∧ (s.2.2 < (((List.length s.2.1) : Nat) : Int))) ∧
 (((Int.toNat s.2.2) < (List.length s.2.1)) ∧
 (((Int.toNat s.2.2) < (List.length s.2.1)) ∧
 (¬ ((List.getD s.2.1 (Int.toNat s.2.2) (0 : Int)) < (0 : Int)) →
 ((((0 : Int) ≤ s.2.2) ∧ (s.2.2 < (((List.length s.2.1) : Nat) : Int))) ∧
 (((Int.toNat s.2.2) < (List.length s.2.1)) ∧
 (((Int.toNat s.2.2) < (List.length s.2.1)) ∧
 (¬ ((List.getD s.2.1 (Int.toNat s.2.2) (0 : Int)) ≥ (((List.length x.2.2.2.2) : Nat) : Int)) →
 (((s.2.2 > (0 : Int)) →
 ((((0 : Int) ≤ s.2.2) ∧ (s.2.2 < (((List.length s.2.1) : Nat) : Int))) ∧
 (((Int.toNat s.2.2) < (List.length s.2.1)) ∧
 (((Int.toNat s.2.2) < (List.length s.2.1)) ∧
 ((((0 : Int) ≤ (w64 (s.2.2 - (1 : Int)))) ∧ ((w64 (s.2.2 - (1 : Int))) < (((List.length s.2.1) : Nat) : Int))) ∧
 (((Int.toNat (w64 (s.2.2 - (1 : Int)))) < (List.length s.2.1)) ∧
 (((Int.toNat (w64 (s.2.2 - (1 : Int)))) < (List.length s.2.1)) ∧
 (¬ ((List.getD s.2.1 (Int.toNat s.2.2) (0 : Int)) < (List.getD s.2.1 (Int.toNat (w64 (s.2.2 - (1 : Int)))) (0 : Int))) →
 ((((0 : Int) ≤ s.2.2) ∧ (s.2.2 < (((List.length s.2.1) : Nat) : Int))) ∧
 (((Int.toNat s.2.2) < (List.length s.2.1)) ∧
 (((Int.toNat s.2.2) < (List.length s.2.1)) ∧
 ((((0 : Int) ≤ (List.getD s.2.1 (Int.toNat s.2.2) (0 : Int))) ∧ ((List.getD s.2.1 (Int.toNat s.2.2) (0 : Int)) < (((List.length x.2.2.2.2) : Nat) : Int))) ∧
 (((Int.toNat (List.getD s.2.1 (Int.toNat s.2.2) (0 : Int))) < (List.length x.2.2.2.2)) ∧
 (((Int.toNat (List.getD s.2.1 (Int.toNat s.2.2) (0 : Int))) < (List.length x.2.2.2.2)) ∧
 (Term (lawIns_l2_step x) (lawIns_l2_pre x) (s.1, (s.2.1, (s.2.2, ((List.getD x.2.2.2.2 (Int.toNat (List.getD s.2.1 (Int.toNat s.2.2) (0 : Int))) ((0 : Int), ((0 : Int), ((0 : Int), (0 : Int))))).1, ((List.getD x.2.2.2.2 (Int.toNat (List.getD s.2.1 (Int.toNat s.2.2) (0 : Int))) ((0 : Int), ((0 : Int), ((0 : Int), (0 : Int))))).2.1, ((List.getD x.2.2.2.2 (Int.toNat (List.getD s.2.1 (Int.toNat s.2.2) (0 : Int))) ((0 : Int), ((0 : Int), ((0 : Int), (0 : Int))))).2.2.1, ((List.getD x.2.2.2.2 (Int.toNat (List.getD s.2.1 (Int.toNat s.2.2) (0 : Int))) ((0 : Int), ((0 : Int), ((0 : Int), (0 : Int))))).2.2.2, (0 : Int))))))))))))))))))))))) ∧
 (¬ (s.2.2 > (0 : Int)) →
 ((((0 : Int) ≤ s.2.2) ∧ (s.2.2 < (((List.length s.2.1) : Nat) : Int))) ∧
 (((Int.toNat s.2.2) < (List.length s.2.1)) ∧
 (((Int.toNat s.2.2) < (List.length s.2.1)) ∧
 ((((0 : Int) ≤ (List.getD s.2.1 (Int.toNat s.2.2) (0 : Int))) ∧ ((List.getD s.2.1 (Int.toNat s.2.2) (0 : Int)) < (((List.length x.2.2.2.2) : Nat) : Int))) ∧
 (((Int.toNat (List.getD s.2.1 (Int.toNat s.2.2) (0 : Int))) < (List.length x.2.2.2.2)) ∧
 (((Int.toNat (List.getD s.2.1 (Int.toNat s.2.2) (0 : Int))) < (List.length x.2.2.2.2)) ∧
 (Term (lawIns_l2_step x) (lawIns_l2_pre x) (s.1, (s.2.1, (s.2.2, ((List.getD x.2.2.2.2 (Int.toNat (List.getD s.2.1 (Int.toNat s.2.2) (0 : Int))) ((0 : Int), ((0 : Int), ((0 : Int), (0 : Int))))).1, ((List.getD x.2.2.2.2 (Int.toNat (List.getD s.2.1 (Int.toNat s.2.2) (0 : Int))) ((0 : Int), ((0 : Int), ((0 : Int), (0 : Int))))).2.1, ((List.getD x.2.2.2.2 (Int.toNat (List.getD s.2.1 (Int.toNat s.2.2) (0 : Int))) ((0 : Int), ((0 : Int), ((0 : Int), (0 : Int))))).2.2.1, ((List.getD x.2.2.2.2 (Int.toNat (List.getD s.2.1 (Int.toNat s.2.2) (0 : Int))) ((0 : Int), ((0 : Int), ((0 : Int), (0 : Int))))).2.2.2, (0 : Int))))))))))))))))))))))))))
noncomputable def lawIns_l0_t (x : (Int × (Int × (Int × ((List ((List Int) × ((List I6) × I2))) × (List (Int × I3))))))) (s : ((List I6) × ((List Int) × Int))) : Tr (((List I6) × ((List Int) × Int)) ⊕ (Unit ⊕ Unit)) true :=
 (.i10 (s.2.2 < (((List.length s.1) : Nat) : Int))
 (.oR s.2.2 (((List.length s.2.1) : Nat) : Int)
 (.od ((Int.toNat s.2.2) < (List.length s.2.1))
 (.od ((Int.toNat s.2.2) < (List.length s.2.1))
 (.i01 ((List.getD s.2.1 (Int.toNat s.2.2) (0 : Int)) < (0 : Int))
 (.ret (.inr (Sum.inl ())))
 (.oR s.2.2 (((List.length s.2.1) : Nat) : Int)
 (.od ((Int.toNat s.2.2) < (List.length s.2.1))
 (.od ((Int.toNat s.2.2) < (List.length s.2.1))
 (.i01 ((List.getD s.2.1 (Int.toNat s.2.2) (0 : Int)) ≥ (((List.length x.2.2.2.2) : Nat) : Int))
 (.ret (.inr (Sum.inl ())))
 (.i11 (s.2.2 > (0 : Int))
 (.oR s.2.2 (((List.length s.2.1) : Nat) : Int)
 (.od ((Int.toNat s.2.2) < (List.length s.2.1))
 (.od ((Int.toNat s.2.2) < (List.length s.2.1))
 (.oR (w64 (s.2.2 - (1 : Int))) (((List.length s.2.1) : Nat) : Int)
 (.od ((Int.toNat (w64 (s.2.2 - (1 : Int)))) < (List.length s.2.1))
 (.od ((Int.toNat (w64 (s.2.2 - (1 : Int)))) < (List.length s.2.1))
 (.i01 ((List.getD s.2.1 (Int.toNat s.2.2) (0 : Int)) < (List.getD s.2.1 (Int.toNat (w64 (s.2.2 - (1 : Int)))) (0 : Int)))
 (.ret (.inr (Sum.inl ())))
 (.oR s.2.2 (((List.length s.2.1) : Nat) : Int)
 (.od ((Int.toNat s.2.2) < (List.length s.2.1))
 (.od ((Int.toNat s.2.2) < (List.length s.2.1))
 (.oR (List.getD s.2.1 (Int.toNat s.2.2) (0 : Int)) (((List.length x.2.2.2.2) : Nat) : Int)
 (.od ((Int.toNat (List.getD s.2.1 (Int.toNat s.2.2) (0 : Int))) < (List.length x.2.2.2.2))
 (.od ((Int.toNat (List.getD s.2.1 (Int.toNat s.2.2) (0 : Int))) < (List.length x.2.2.2.2))
 (LoopD.lp (lawIns_l2 x) (lawIns_l2_t x) (s.1, (s.2.1, (s.2.2, ((List.getD x.2.2.2.2 (Int.toNat (List.getD s.2.1 (Int.toNat s.2.2) (0 : Int))) ((0 : Int), zz3)).1, ((List.getD x.2.2.2.2 (Int.toNat (List.getD s.2.1 (Int.toNat s.2.2) (0 : Int))) ((0 : Int), zz3)).2.1, ((List.getD x.2.2.2.2 (Int.toNat (List.getD s.2.1 (Int.toNat s.2.2) (0 : Int))) ((0 : Int), zz3)).2.2.1, ((List.getD x.2.2.2.2 (Int.toNat (List.getD s.2.1 (Int.toNat s.2.2) (0 : Int))) ((0 : Int), zz3)).2.2.2, (0 : Int)))))))) fun r =>
 (.s00 r (fun a =>
 (.ret (.inr (Sum.inl ())))) (fun b =>
 (.ret (.inl (b.1, (b.2.1, (w64 (b.2.2 + (1 : Int)))))))))))))))))))))))
 (.oR s.2.2 (((List.length s.2.1) : Nat) : Int)
 (.od ((Int.toNat s.2.2) < (List.length s.2.1))
 (.od ((Int.toNat s.2.2) < (List.length s.2.1))
 (.oR (List.getD s.2.1 (Int.toNat s.2.2) (0 : Int)) (((List.length x.2.2.2.2) : Nat) : Int)
 (.od ((Int.toNat (List.getD s.2.1 (Int.toNat s.2.2) (0 : Int))) < (List.length x.2.2.2.2))
 (.od ((Int.toNat (List.getD s.2.1 (Int.toNat s.2.2) (0 : Int))) < (List.length x.2.2.2.2))
 (LoopD.lp (lawIns_l2 x) (lawIns_l2_t x) (s.1, (s.2.1, (s.2.2, ((List.getD x.2.2.2.2 (Int.toNat (List.getD s.2.1 (Int.toNat s.2.2) (0 : Int))) ((0 : Int), zz3)).1, ((List.getD x.2.2.2.2 (Int.toNat (List.getD s.2.1 (Int.toNat s.2.2) (0 : Int))) ((0 : Int), zz3)).2.1, ((List.getD x.2.2.2.2 (Int.toNat (List.getD s.2.1 (Int.toNat s.2.2) (0 : Int))) ((0 : Int), zz3)).2.2.1, ((List.getD x.2.2.2.2 (Int.toNat (List.getD s.2.1 (Int.toNat s.2.2) (0 : Int))) ((0 : Int), zz3)).2.2.2, (0 : Int)))))))) fun r =>
 (.s00 r (fun a =>
 (.ret (.inr (Sum.inl ())))) (fun b =>
 (.ret (.inl (b.1, (b.2.1, (w64 (b.2.2 + (1 : Int)))))))))))))))))))))))))
 (.ret (.inr (Sum.inr (())))))
noncomputable def lawIns (x : (Int × (Int × (Int × ((List ((List Int) × ((List I6) × I2))) × (List (Int × I3))))))) : Bool :=
 (letV (r18big x.2.2.2.1) fun y =>
 (if (y = true) then
 true else
 (if ((((List.length x.2.2.2.2) : Nat) : Int) > (30 : Int)) then
 true else
 (letV (allM x) fun y_1 =>
 (if ((y_1.2.2 != (0 : Int)) = true) then
 (letV (mappedL false) fun y_2 =>
 (if (y_2 = true) then
 (letV (isM x) fun y_3 =>
 (if ((!y_3) = true) then
 ((w64 ((((List.length y_1.1) : Nat) : Int) + (((List.length y_1.2.1) : Nat) : Int))) == (0 : Int)) else
 false)) else
 false)) else
 (if (((((List.length y_1.1) : Nat) : Int) != (((List.length y_1.2.1) : Nat) : Int)) = true) then
 false else
 (if (((((List.length x.2.2.2.2) : Nat) : Int) != (((List.length x.2.2.2.1) : Nat) : Int)) = true) then
 false else
 (letV (run (lawIns_l0_step x) (y_1.1, (y_1.2.1, (0 : Int)))) fun r =>
 (Sum.elim (fun a =>
 false) (fun b =>
 (letV (mappedL false) fun y_2 =>
 y_2)) r)))))))))
noncomputable def lawIns_pre (x : (Int × (Int × (Int × ((List ((List Int) × ((List I6) × I2))) × (List (Int × I3))))))) : Prop :=
 ((r18big_pre x.2.2.2.1) ∧
 letP (r18big x.2.2.2.1) fun y =>
 (¬ (y = true) →
 (¬ ((((List.length x.2.2.2.2) : Nat) : Int) > (30 : Int)) →
 ((allM_pre x) ∧
 letP (allM x) fun y_1 =>
 ((((y_1.2.2 != (0 : Int)) = true) →
 ((mappedL_pre false) ∧
 letP (mappedL false) fun y_2 =>
 ((y_2 = true) →
 (isM_pre x)))) ∧
 (¬ ((y_1.2.2 != (0 : Int)) = true) →
 (¬ (((((List.length y_1.1) : Nat) : Int) != (((List.length y_1.2.1) : Nat) : Int)) = true) →
 (¬ (((((List.length x.2.2.2.2) : Nat) : Int) != (((List.length x.2.2.2.1) : Nat) : Int)) = true) →
 (Term (lawIns_l0_step x) (lawIns_l0_pre x) (y_1.1, (y_1.2.1, (0 : Int))) ∧
 letP (run (lawIns_l0_step x) (y_1.1, (y_1.2.1, (0 : Int)))) fun r =>
 (cS r (fun a =>
 True) (fun b =>
 (mappedL_pre false))))))))))))
noncomputable def lawIns_t (x : (Int × (Int × (Int × ((List ((List Int) × ((List I6) × I2))) × (List (Int × I3))))))) : Tr Bool true :=
 (.fn r18big_S x.2.2.2.1 fun y =>
 (.b01 y
 (.ret true)
 (.i01 ((((List.length x.2.2.2.2) : Nat) : Int) > (30 : Int))
 (.ret true)
 (.fn allM_S x fun y_1 =>
 (.b11 (y_1.2.2 != (0 : Int))
 (.fn mappedL_S false fun y_2 =>
 (.b10 y_2
 (.fn isM_S x fun y_3 =>
 (.b00 (!y_3)
 (.ret ((w64 ((((List.length y_1.1) : Nat) : Int) + (((List.length y_1.2.1) : Nat) : Int))) == (0 : Int)))
 (.ret false)))
 (.ret false)))
 (.b01 ((((List.length y_1.1) : Nat) : Int) != (((List.length y_1.2.1) : Nat) : Int))
 (.ret false)
 (.b01 ((((List.length x.2.2.2.2) : Nat) : Int) != (((List.length x.2.2.2.1) : Nat) : Int))
 (.ret false)
 (LoopD.lp (lawIns_l0 x) (lawIns_l0_t x) (y_1.1, (y_1.2.1, (0 : Int))) fun r =>
 (.s01 r (fun a =>
 (.ret false)) (fun b =>
 (.fn mappedL_S false fun y_2 =>
 (.ret y_2))))))))))))
noncomputable abbrev lawIns_S : FnS := ⟨(.agg (Ty.prod yi (Ty.prod yi (Ty.prod yi (Ty.prod (Ty.sl (Ty.prod (Ty.sl yi) (Ty.prod (Ty.sl yy6) yy2))) (Ty.sl (Ty.prod yi yy3))))))), (.one Ty.bool), lawIns_pre, lawIns⟩
theorem lawIns_ok : SpecOk Try.prog 4 (fnSpec lawIns_S) := SpecOk.tr lawIns_S lawIns_t (fn := Try.f4) tt_ok sp_lapart_ok mixed (by kernel_rfl) (ItsOk.nil _ _) (fun x => (LpsOk.tr tt_ok (SpecsOk.ctxI sp_lapart_ok (ItsOk.nil _ _)) mixed 0 (lawIns_l0 x) (lawIns_l0_t x) (LpsOk.tr tt_ok (SpecsOk.ctxI sp_lapart_ok (ItsOk.nil _ _)) mixed 2 (lawIns_l2 x) (lawIns_l2_t x) (LpsOk.tr tt_ok (SpecsOk.ctxI sp_lapart_ok (ItsOk.nil _ _)) mixed 4 (lawIns_l4 x) (lawIns_l4_t x) LpsOk.nil (by kernel_rfl) fun g s Q => (by kernel_rfl)) (by kernel_rfl) fun g s Q => (by kernel_rfl)) (by kernel_rfl) fun g s Q => (by kernel_rfl))) (fun x => (by kernel_rfl)) fun x Q => (by kernel_rfl)
def sp_lawIns : List (Nat × Ev.Spec) := (4, fnSpec lawIns_S) :: sp_lapart
theorem sp_lawIns_ok : SpecsOk Try.prog sp_lawIns := SpecsOk.add (fn := Try.f4) (by kernel_rfl) lawIns_ok sp_lapart_ok
end Go.Proofs.Ytbjfokijjefoeaa
