/- Model of the law AtlasRoom. -/
import Derived.Test.YtbjfokijjefoeaaAm
namespace Go.Proofs.Ytbjfokijjefoeaa
open Go Go.Ev Go.Proofs
set_option linter.unusedVariables false
noncomputable def r16big (x : ((List Int) × ((List I6) × I2))) : Bool :=
 (if ((((List.length x.1) : Nat) : Int) > (15 : Int)) then
 true else
 (decide ((((List.length x.2.1) : Nat) : Int) > (15 : Int))))
noncomputable def r16big_pre (_ : ((List Int) × ((List I6) × I2))) : Prop := True
noncomputable def r16big_t (x : ((List Int) × ((List I6) × I2))) : Tr Bool false :=
 (.i00 ((((List.length x.1) : Nat) : Int) > (15 : Int))
 (.ret true)
 (.ret (decide ((((List.length x.2.1) : Nat) : Int) > (15 : Int)))))
noncomputable abbrev r16big_S : FnS := ⟨(.agg (Ty.prod (Ty.sl yi) (Ty.prod (Ty.sl yy6) yy2))), (.one Ty.bool), r16big_pre, r16big⟩
theorem r16big_ok : SpecOk Try.prog 15 (fnSpec r16big_S) := SpecOk.tr r16big_S r16big_t (fn := Try.f15) tt_ok sp_mappedL_ok mixed (by kernel_rfl) (ItsOk.nil _ _) (fun x => LpsOk.nil) (fun x => (by kernel_rfl)) fun x Q => (by kernel_rfl)
def sp_r16big : List (Nat × Ev.Spec) := (15, fnSpec r16big_S) :: sp_mappedL
theorem sp_r16big_ok : SpecsOk Try.prog sp_r16big := SpecsOk.add (fn := Try.f15) (by kernel_rfl) r16big_ok sp_mappedL_ok
noncomputable def r18big_l0 (x : (List ((List Int) × ((List I6) × I2)))) : LoopD := ⟨[], ⟨pvs 36 0 [(0, .v (.one (.full 0))), (3, .v (.one (.i .i64))), (4, .v (.one (.i .i64)))], [.row (Ty.prod (Ty.sl yi) (Ty.prod (Ty.sl yy6) yy2)) 0], 0, none, [], [2], [0, 1], [.i, .i], [.l (Ty.prod (Ty.sl yi) (Ty.prod (Ty.sl yy6) yy2)) x]⟩, [⟨.ret, .ret, ⟨pvs 36 0 [(2, .v (.one (.b)))], [], 0, none, [], [0], [], [], [.b true]⟩⟩, ⟨(.exit 0), .normal, ⟨pvs 36 0 [(0, .v (.one (.full 0))), (3, .v (.one (.i .i64)))], [.row (Ty.prod (Ty.sl yi) (Ty.prod (Ty.sl yy6) yy2)) 0], 0, none, [], [1], [0], [.i], [.l (Ty.prod (Ty.sl yi) (Ty.prod (Ty.sl yy6) yy2)) x]⟩⟩]⟩
noncomputable def r18big_l0_step (x : (List ((List Int) × ((List I6) × I2)))) (s : I2) : I2 ⊕ (Unit ⊕ Int) :=
 (if (s.2 < (((List.length x) : Nat) : Int)) then
 (if ((((List.length x) : Nat) : Int) ≤ (12 : Int)) then
 (letV (r16big (List.getD x (Int.toNat s.2) ([], ([], ((0 : Int), (0 : Int)))))) fun y =>
 (if (y = true) then
 (Sum.inr (Sum.inl ())) else
 (Sum.inl ((w64 (s.1 + (((List.length (List.getD x (Int.toNat s.2) ([], ([], ((0 : Int), (0 : Int))))).2.1) : Nat) : Int))), (w64 (s.2 + (1 : Int))))))) else
 (Sum.inr (Sum.inr (s.1)))) else
 (Sum.inr (Sum.inr (s.1))))
noncomputable def r18big_l0_pre (x : (List ((List Int) × ((List I6) × I2)))) (s : I2) : Prop :=
 ((s.2 < (((List.length x) : Nat) : Int)) →
 (((((List.length x) : Nat) : Int) ≤ (12 : Int)) →
 ((((0 : Int) ≤ s.2) ∧ (s.2 < (((List.length x) : Nat) : Int))) ∧
 (((Int.toNat s.2) < (List.length x)) ∧
 (((Int.toNat s.2) < (List.length x)) ∧
 (letP (r16big (List.getD x (Int.toNat s.2) ([], ([], ((0 : Int), (0 : Int)))))) fun y =>
 (¬ (y = true) →
 ((((0 : Int) ≤ s.2) ∧ (s.2 < (((List.length x) : Nat) : Int))) ∧
 (((Int.toNat s.2) < (List.length x)) ∧
 (((Int.toNat s.2) < (List.length x)) ∧
 ((Int.toNat s.2) < (List.length x))))))))))))
noncomputable def r18big_l0_t (x : (List ((List Int) × ((List I6) × I2)))) (s : I2) : Tr (I2 ⊕ (Unit ⊕ Int)) true :=
 (.i10 (s.2 < (((List.length x) : Nat) : Int))
 (.i10 ((((List.length x) : Nat) : Int) ≤ (12 : Int))
 (.oR s.2 (((List.length x) : Nat) : Int)
 (.od ((Int.toNat s.2) < (List.length x))
 (.od ((Int.toNat s.2) < (List.length x))
 (.fn0 r16big_S (List.getD x (Int.toNat s.2) ([], ([], zz2))) trivial fun y =>
 (.b01 y
 (.ret (.inr (Sum.inl ())))
 (.oR s.2 (((List.length x) : Nat) : Int)
 (.od ((Int.toNat s.2) < (List.length x))
 (.od ((Int.toNat s.2) < (List.length x))
 (.od ((Int.toNat s.2) < (List.length x))
 (.ret (.inl ((w64 (s.1 + (((List.length (List.getD x (Int.toNat s.2) ([], ([], zz2))).2.1) : Nat) : Int))), (w64 (s.2 + (1 : Int)))))))))))))))
 (.ret (.inr (Sum.inr (s.1)))))
 (.ret (.inr (Sum.inr (s.1)))))
noncomputable def r18big (x : (List ((List Int) × ((List I6) × I2)))) : Bool :=
 (letV (run (r18big_l0_step x) ((0 : Int), (0 : Int))) fun r =>
 (Sum.elim (fun a =>
 true) (fun b =>
 (if ((((List.length x) : Nat) : Int) > (12 : Int)) then
 true else
 (decide (b > (30 : Int))))) r))
noncomputable def r18big_pre (x : (List ((List Int) × ((List I6) × I2)))) : Prop :=
 (Term (r18big_l0_step x) (r18big_l0_pre x) ((0 : Int), (0 : Int)))
noncomputable def r18big_t (x : (List ((List Int) × ((List I6) × I2)))) : Tr Bool true :=
 (LoopD.lp (r18big_l0 x) (r18big_l0_t x) zz2 fun r =>
 (.s00 r (fun a =>
 (.ret true)) (fun b =>
 (.i00 ((((List.length x) : Nat) : Int) > (12 : Int))
 (.ret true)
 (.ret (decide (b > (30 : Int))))))))
noncomputable abbrev r18big_S : FnS := ⟨(.one (Ty.sl (Ty.prod (Ty.sl yi) (Ty.prod (Ty.sl yy6) yy2)))), (.one Ty.bool), r18big_pre, r18big⟩
theorem r18big_ok : SpecOk Try.prog 7 (fnSpec r18big_S) := SpecOk.tr r18big_S r18big_t (fn := Try.f7) tt_ok sp_r16big_ok mixed (by kernel_rfl) (ItsOk.nil _ _) (fun x => (LpsOk.tr tt_ok (SpecsOk.ctxI sp_r16big_ok (ItsOk.nil _ _)) mixed 0 (r18big_l0 x) (r18big_l0_t x) LpsOk.nil (by kernel_rfl) fun g s Q => (by kernel_rfl))) (fun x => (by kernel_rfl)) fun x Q => (by kernel_rfl)
def sp_r18big : List (Nat × Ev.Spec) := (7, fnSpec r18big_S) :: sp_r16big
theorem sp_r18big_ok : SpecsOk Try.prog sp_r18big := SpecsOk.add (fn := Try.f7) (by kernel_rfl) r18big_ok sp_r16big_ok
noncomputable def lawRoom_l0 (x : (Int × (Int × (Int × (List ((List Int) × ((List I6) × I2))))))) : LoopD := ⟨[], ⟨pvs 100 0 [(0, .v (.one (.i .i64))), (1, .v (.one (.i .i64))), (2, .v (.one (.i .i64))), (3, .v (.one (.full 0))), (9, .v (.one (.i .i64))), (10, .v (.one (.i .i64)))], [.row (Ty.prod (Ty.sl yi) (Ty.prod (Ty.sl yy6) yy2)) 0], 0, none, [], [0, 1, 2, 5], [3, 4], [.i, .i], [.i x.1, .i x.2.1, .i x.2.2.1, .l (Ty.prod (Ty.sl yi) (Ty.prod (Ty.sl yy6) yy2)) x.2.2.2]⟩, [⟨.ret, .ret, ⟨pvs 100 0 [(8, .v (.one (.b)))], [], 0, none, [], [], [0], [.b], []⟩⟩, ⟨(.exit 0), .normal, ⟨pvs 100 0 [(0, .v (.one (.i .i64))), (1, .v (.one (.i .i64))), (2, .v (.one (.i .i64))), (3, .v (.one (.full 0)))], [.row (Ty.prod (Ty.sl yi) (Ty.prod (Ty.sl yy6) yy2)) 0], 0, none, [], [0, 1, 2, 3], [], [], [.i x.1, .i x.2.1, .i x.2.2.1, .l (Ty.prod (Ty.sl yi) (Ty.prod (Ty.sl yy6) yy2)) x.2.2.2]⟩⟩]⟩
noncomputable def lawRoom_l0_step (x : (Int × (Int × (Int × (List ((List Int) × ((List I6) × I2))))))) (s : I2) : I2 ⊕ (Bool ⊕ Unit) :=
 (if (s.2 < (((List.length x.2.2.2) : Nat) : Int)) then
 (if ((List.getD x.2.2.2 (Int.toNat s.2) ([], ([], ((0 : Int), (0 : Int))))).2.2.1 > (w64 (x.1 - (w64 ((2 : Int) * x.2.2.1))))) then
 (letV (mappedL false) fun y =>
 (Sum.inr (Sum.inl y))) else
 (if ((List.getD x.2.2.2 (Int.toNat s.2) ([], ([], ((0 : Int), (0 : Int))))).2.2.2 > (w64 (s.1 - (w64 ((2 : Int) * x.2.2.1))))) then
 (letV (mappedL false) fun y =>
 (Sum.inr (Sum.inl y))) else
 (if ((List.getD x.2.2.2 (Int.toNat s.2) ([], ([], ((0 : Int), (0 : Int))))).2.2.2 < (0 : Int)) then
 (letV (mappedL false) fun y =>
 (Sum.inr (Sum.inl y))) else
 (Sum.inl ((w64 ((w64 (s.1 - (List.getD x.2.2.2 (Int.toNat s.2) ([], ([], ((0 : Int), (0 : Int))))).2.2.2)) - (w64 ((2 : Int) * x.2.2.1)))), (w64 (s.2 + (1 : Int)))))))) else
 (Sum.inr (Sum.inr (()))))
noncomputable def lawRoom_l0_pre (x : (Int × (Int × (Int × (List ((List Int) × ((List I6) × I2))))))) (s : I2) : Prop :=
 ((s.2 < (((List.length x.2.2.2) : Nat) : Int)) →
 ((((0 : Int) ≤ s.2) ∧ (s.2 < (((List.length x.2.2.2) : Nat) : Int))) ∧
 (((Int.toNat s.2) < (List.length x.2.2.2)) ∧
 (((Int.toNat s.2) < (List.length x.2.2.2)) ∧
 (((Int.toNat s.2) < (List.length x.2.2.2)) ∧
 ((((List.getD x.2.2.2 (Int.toNat s.2) ([], ([], ((0 : Int), (0 : Int))))).2.2.1 > (w64 (x.1 - (w64 ((2 : Int) * x.2.2.1))))) →
 (mappedL_pre false)) ∧
 (¬ ((List.getD x.2.2.2 (Int.toNat s.2) ([], ([], ((0 : Int), (0 : Int))))).2.2.1 > (w64 (x.1 - (w64 ((2 : Int) * x.2.2.1))))) →
 ((((0 : Int) ≤ s.2) ∧ (s.2 < (((List.length x.2.2.2) : Nat) : Int))) ∧
 (((Int.toNat s.2) < (List.length x.2.2.2)) ∧
 (((Int.toNat s.2) < (List.length x.2.2.2)) ∧
 (((Int.toNat s.2) < (List.length x.2.2.2)) ∧
 ((((List.getD x.2.2.2 (Int.toNat s.2) ([], ([], ((0 : Int), (0 : Int))))).2.2.2 > (w64 (s.1 - (w64 ((2 : Int) * x.2.2.1))))) →
 (mappedL_pre false)) ∧
 (¬ ((List.getD x.2.2.2 (Int.toNat s.2) ([], ([], ((0 : Int), (0 : Int))))).2.2.2 > (w64 (s.1 - (w64 ((2 : Int) * x.2.2.1))))) →
 ((((0 : Int) ≤ s.2) ∧ (s.2 < (((List.length x.2.2.2) : Nat) : Int))) ∧
 (((Int.toNat s.2) < (List.length x.2.2.2)) ∧
 (((Int.toNat s.2) < (List.length x.2.2.2)) ∧
 (((Int.toNat s.2) < (List.length x.2.2.2)) ∧
 ((((List.getD x.2.2.2 (Int.toNat s.2) ([], ([], ((0 : Int), (0 : Int))))).2.2.2 < (0 : Int)) →
 (mappedL_pre false)) ∧
 (¬ ((List.getD x.2.2.2 (Int.toNat s.2) ([], ([], ((0 : Int), (0 : Int))))).2.2.2 < (0 : Int)) →
 ((((0 : Int) ≤ s.2) ∧ (s.2 < (((List.length x.2.2.2) : Nat) : Int))) ∧
 (((Int.toNat s.2) < (List.length x.2.2.2)) ∧
 (((Int.toNat s.2) < (List.length x.2.2.2)) ∧
 ((Int.toNat s.2) < (List.length x.2.2.2))))))))))))))))))))))))
noncomputable def lawRoom_l0_t (x : (Int × (Int × (Int × (List ((List Int) × ((List I6) × I2))))))) (s : I2) : Tr (I2 ⊕ (Bool ⊕ Unit)) true :=
 (.i10 (s.2 < (((List.length x.2.2.2) : Nat) : Int))
 (.oR s.2 (((List.length x.2.2.2) : Nat) : Int)
 (.od ((Int.toNat s.2) < (List.length x.2.2.2))
 (.od ((Int.toNat s.2) < (List.length x.2.2.2))
 (.od ((Int.toNat s.2) < (List.length x.2.2.2))
 (.i11 ((List.getD x.2.2.2 (Int.toNat s.2) ([], ([], zz2))).2.2.1 > (w64 (x.1 - (w64 ((2 : Int) * x.2.2.1)))))
 (.fn mappedL_S false fun y =>
 (.ret (.inr (Sum.inl y))))
 (.oR s.2 (((List.length x.2.2.2) : Nat) : Int)
 (.od ((Int.toNat s.2) < (List.length x.2.2.2))
 (.od ((Int.toNat s.2) < (List.length x.2.2.2))
 (.od ((Int.toNat s.2) < (List.length x.2.2.2))
 (.i11 ((List.getD x.2.2.2 (Int.toNat s.2) ([], ([], zz2))).2.2.2 > (w64 (s.1 - (w64 ((2 : Int) * x.2.2.1)))))
 (.fn mappedL_S false fun y =>
 (.ret (.inr (Sum.inl y))))
 (.oR s.2 (((List.length x.2.2.2) : Nat) : Int)
 (.od ((Int.toNat s.2) < (List.length x.2.2.2))
 (.od ((Int.toNat s.2) < (List.length x.2.2.2))
 (.od ((Int.toNat s.2) < (List.length x.2.2.2))
 (.i11 ((List.getD x.2.2.2 (Int.toNat s.2) ([], ([], zz2))).2.2.2 < (0 : Int))
 (.fn mappedL_S false fun y =>
 (.ret (.inr (Sum.inl y))))
 (.oR s.2 (((List.length x.2.2.2) : Nat) : Int)
 (.od ((Int.toNat s.2) < (List.length x.2.2.2))
 (.od ((Int.toNat s.2) < (List.length x.2.2.2))
 (.od ((Int.toNat s.2) < (List.length x.2.2.2))
 (.ret (.inl ((w64 ((w64 (s.1 - (List.getD x.2.2.2 (Int.toNat s.2) ([], ([], zz2))).2.2.2)) - (w64 ((2 : Int) * x.2.2.1)))), (w64 (s.2 + (1 : Int)))))))))))))))))))))))))
 (.ret (.inr (Sum.inr (())))))
noncomputable def lawRoom (x : (Int × (Int × (Int × (List ((List Int) × ((List I6) × I2))))))) : Bool :=
 (letV (r18big x.2.2.2) fun y =>
 (if (y = true) then
 true else
 (if (x.1 < (1 : Int)) then
 true else
 (if (x.1 > (256 : Int)) then
 true else
 (if (x.2.1 < (1 : Int)) then
 true else
 (if (x.2.1 > (256 : Int)) then
 true else
 (if (x.2.2.1 < (1 : Int)) then
 true else
 (if (x.2.2.1 > (8 : Int)) then
 true else
 (letV (run (lawRoom_l0_step x) (x.2.1, (0 : Int))) fun r =>
 (Sum.elim (fun a =>
 a) (fun b =>
 (letV (buildM x) fun y_1 =>
 (letV (mappedL false) fun y_2 =>
 (if (y_2 = true) then
 (y_1.2 != (9 : Int)) else
 false)))) r))))))))))
noncomputable def lawRoom_pre (x : (Int × (Int × (Int × (List ((List Int) × ((List I6) × I2))))))) : Prop :=
 ((r18big_pre x.2.2.2) ∧
 letP (r18big x.2.2.2) fun y =>
 (¬ (y = true) →
 (¬ (x.1 < (1 : Int)) →
 (¬ (x.1 > (256 : Int)) →
 (¬ (x.2.1 < (1 : Int)) →
 (¬ (x.2.1 > (256 : Int)) →
 (¬ (x.2.2.1 < (1 : Int)) →
 (¬ (x.2.2.1 > (8 : Int)) →
 (Term (lawRoom_l0_step x) (lawRoom_l0_pre x) (x.2.1, (0 : Int)) ∧
 letP (run (lawRoom_l0_step x) (x.2.1, (0 : Int))) fun r =>
 (cS r (fun a =>
 True) (fun b =>
 ((buildM_pre x) ∧
 letP (buildM x) fun y_1 =>
 (mappedL_pre false)))))))))))))
noncomputable def lawRoom_t (x : (Int × (Int × (Int × (List ((List Int) × ((List I6) × I2))))))) : Tr Bool true :=
 (.fn r18big_S x.2.2.2 fun y =>
 (.b01 y
 (.ret true)
 (.i01 (x.1 < (1 : Int))
 (.ret true)
 (.i01 (x.1 > (256 : Int))
 (.ret true)
 (.i01 (x.2.1 < (1 : Int))
 (.ret true)
 (.i01 (x.2.1 > (256 : Int))
 (.ret true)
 (.i01 (x.2.2.1 < (1 : Int))
 (.ret true)
 (.i01 (x.2.2.1 > (8 : Int))
 (.ret true)
 (LoopD.lp (lawRoom_l0 x) (lawRoom_l0_t x) (x.2.1, (0 : Int)) fun r =>
 (.s01 r (fun a =>
 (.ret a)) (fun b =>
 (.fn buildM_S x fun y_1 =>
 (.fn mappedL_S false fun y_2 =>
 (.b00 y_2
 (.ret (y_1.2 != (9 : Int)))
 (.ret false)))))))))))))))
noncomputable abbrev lawRoom_S : FnS := ⟨(.pair (.one yi) (.pair (.one yi) (.pair (.one yi) (.one (Ty.sl (Ty.prod (Ty.sl yi) (Ty.prod (Ty.sl yy6) yy2))))))), (.one Ty.bool), lawRoom_pre, lawRoom⟩
theorem lawRoom_ok : SpecOk Try.prog 5 (fnSpec lawRoom_S) := SpecOk.tr lawRoom_S lawRoom_t (fn := Try.f5) tt_ok sp_r18big_ok mixed (by kernel_rfl) (ItsOk.nil _ _) (fun x => (LpsOk.tr tt_ok (SpecsOk.ctxI sp_r18big_ok (ItsOk.nil _ _)) mixed 0 (lawRoom_l0 x) (lawRoom_l0_t x) LpsOk.nil (by kernel_rfl) fun g s Q => (by kernel_rfl))) (fun x => (by kernel_rfl)) fun x Q => (by kernel_rfl)
def sp_lawRoom : List (Nat × Ev.Spec) := (5, fnSpec lawRoom_S) :: sp_r18big
theorem sp_lawRoom_ok : SpecsOk Try.prog sp_lawRoom := SpecsOk.add (fn := Try.f5) (by kernel_rfl) lawRoom_ok sp_r18big_ok
end Go.Proofs.Ytbjfokijjefoeaa
