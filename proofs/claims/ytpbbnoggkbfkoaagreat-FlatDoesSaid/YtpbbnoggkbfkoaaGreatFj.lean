/- Models of the references of layer 16: what is laid, moved. -/
import Derived.Test.YtpbbnoggkbfkoaaGreatFi
namespace Go.Proofs.YtpbbnoggkbfkoaaGreat
open Go Go.Ev Go.Proofs
set_option linter.unusedVariables false
noncomputable def r1own (x : (List Int)) : (List Int) :=
 x
noncomputable def r1own_pre (x : (List Int)) : Prop :=
 ((0 + (List.length x)) < 1099511627776)
noncomputable def r1own_t (x : (List Int)) : Tr (List Int) true :=
 (.od ((0 + (List.length x)) < 1099511627776)
 (.ret x))
noncomputable abbrev r1own_S : FnS := ⟨(.one (Ty.sl yi)), (.one (Ty.sl yi)), r1own_pre, r1own⟩
theorem r1own_ok : SpecOk Tryz.prog 21 (fnSpec r1own_S) := SpecOk.tr r1own_S r1own_t (fn := Tryz.f21) tt_ok sp_r16is_ok mixed (by kernel_rfl) (ItsOk.nil _ _) (fun x => LpsOk.nil) (fun x => (by kernel_rfl)) fun x Q => (by kernel_rfl)
def sp_r1own : List (Nat × Ev.Spec) := (21, fnSpec r1own_S) :: sp_r16is
theorem sp_r1own_ok : SpecsOk Tryz.prog sp_r1own := SpecsOk.add (fn := Tryz.f21) (by kernel_rfl) r1own_ok sp_r16is_ok
noncomputable def r16own (x : ((List Int) × ((List I6) × I2))) : ((List Int) × ((List I6) × I2)) :=
 (letV (r1own x.1) fun y =>
 (y, x.2))
noncomputable def r16own_pre (x : ((List Int) × ((List I6) × I2))) : Prop :=
 ((r1own_pre x.1) ∧
 letP (r1own x.1) fun y =>
 ((0 + (List.length x.2.1)) < 1099511627776))
noncomputable def r16own_t (x : ((List Int) × ((List I6) × I2))) : Tr ((List Int) × ((List I6) × I2)) true :=
 (.fn r1own_S x.1 fun y =>
 (.od ((0 + (List.length x.2.1)) < 1099511627776)
 (.ret (y, x.2))))
noncomputable abbrev r16own_S : FnS := ⟨(.agg (Ty.prod (Ty.sl yi) (Ty.prod (Ty.sl yy6) yy2))), (.agg (Ty.prod (Ty.sl yi) (Ty.prod (Ty.sl yy6) yy2))), r16own_pre, r16own⟩
theorem r16own_ok : SpecOk Tryz.prog 6 (fnSpec r16own_S) := SpecOk.tr r16own_S r16own_t (fn := Tryz.f6) tt_ok sp_r1own_ok mixed (by kernel_rfl) (ItsOk.nil _ _) (fun x => LpsOk.nil) (fun x => (by kernel_rfl)) fun x Q => (by kernel_rfl)
def sp_r16own : List (Nat × Ev.Spec) := (6, fnSpec r16own_S) :: sp_r1own
theorem sp_r16own_ok : SpecsOk Tryz.prog sp_r16own := SpecsOk.add (fn := Tryz.f6) (by kernel_rfl) r16own_ok sp_r1own_ok
noncomputable def r16lay_l0 (x : (((List I3) × ((List I2) × ((List I3) × (List I9)))) × ((Int × (Int × (List Int))) × Int))) : LoopD := ⟨[], ⟨pvs 192 0 [(2, .v (.one (.i .i64))), (3, .v (.one (.ptr 0 0))), (4, .v (.one (.ptr 5 0))), (6, .v (.one (.ptr 7 0))), (8, .v (.one (.full 8))), (9, .v (.one (.i .i64)))], [.cells [.full 1, .full 2, .full 3, .full 4] 26, .row yy3 0, .row yy2 0, .row yy3 0, .row yy9 0, .cells [.i .i64, .i .i64, .full 6] 29, .row yi 0, .cells [.raw, .raw, .i .i64, .i .i64] 32, .row yy6 2], 0, none, [], [0, 2, 3, 4, 5, 6, 7, 8, 9, 10, 11, 12], [13, 1], [(.l yy6), .i], [.i x.2.2, .l yy3 x.1.1, .l yy2 x.1.2.1, .l yy3 x.1.2.2.1, .l yy9 x.1.2.2.2, .i x.2.1.1, .i x.2.1.2.1, .l yi x.2.1.2.2, .v (.slice none 0 0), .v (.slice none 0 0), .i (0 : Int), .i (0 : Int)]⟩, [⟨.ret, .ret, ⟨pvs 192 0 [(6, .v (.one (.ptr 0 0))), (7, .v (.one (.i .i64)))], [.cells [.raw, .raw, .i .i64, .i .i64] 32], 0, none, [], [0, 1, 2, 3, 4], [], [], [.i (1 : Int), .v (.slice none 0 0), .v (.slice none 0 0), .i (0 : Int), .i (0 : Int)]⟩⟩, ⟨(.exit 0), .normal, ⟨pvs 192 0 [(2, .v (.one (.i .i64))), (4, .v (.one (.ptr 0 0))), (6, .v (.one (.ptr 2 0))), (8, .v (.one (.full 3)))], [.cells [.i .i64, .i .i64, .full 1] 29, .row yi 0, .cells [.raw, .raw, .i .i64, .i .i64] 32, .row yy6 2], 0, none, [], [0, 1, 2, 3, 4, 5, 6, 7], [8], [(.l yy6)], [.i x.2.2, .i x.2.1.1, .i x.2.1.2.1, .l yi x.2.1.2.2, .v (.slice none 0 0), .v (.slice none 0 0), .i (0 : Int), .i (0 : Int)]⟩⟩]⟩
noncomputable def r16lay_l0_step (x : (((List I3) × ((List I2) × ((List I3) × (List I9)))) × ((Int × (Int × (List Int))) × Int))) (s : ((List I6) × Int)) : ((List I6) × Int) ⊕ (Unit ⊕ (List I6)) :=
 (if (s.2 < (((List.length x.2.1.2.2) : Nat) : Int)) then
 (letV (r15facing (x.1, (List.getD x.2.1.2.2 (Int.toNat s.2) (0 : Int)))) fun y =>
 (if ((!y.2.2) = true) then
 (Sum.inr (Sum.inl ())) else
 (if ((y.1 != x.2.1.1) = true) then
 (Sum.inr (Sum.inl ())) else
 (if ((y.2.1 != x.2.1.2.1) = true) then
 (Sum.inr (Sum.inl ())) else
 (letV (r15shadow (x.1, ((List.getD x.2.1.2.2 (Int.toNat s.2) (0 : Int)), x.2.1.1))) fun y_1 =>
 (Sum.inl ((s.1 ++ [y_1.1]), (w64 (s.2 + (1 : Int)))))))))) else
 (Sum.inr (Sum.inr (s.1))))
noncomputable def r16lay_l0_pre (x : (((List I3) × ((List I2) × ((List I3) × (List I9)))) × ((Int × (Int × (List Int))) × Int))) (s : ((List I6) × Int)) : Prop :=
 ((s.2 < (((List.length x.2.1.2.2) : Nat) : Int)) →
 ((((0 : Int) ≤ s.2) ∧ (s.2 < (((List.length x.2.1.2.2) : Nat) : Int))) ∧
 (((Int.toNat s.2) < (List.length x.2.1.2.2)) ∧
 (((Int.toNat s.2) < (List.length x.2.1.2.2)) ∧
 ((r15facing_pre (x.1, (List.getD x.2.1.2.2 (Int.toNat s.2) (0 : Int)))) ∧
 letP (r15facing (x.1, (List.getD x.2.1.2.2 (Int.toNat s.2) (0 : Int)))) fun y =>
 (¬ ((!y.2.2) = true) →
 (¬ ((y.1 != x.2.1.1) = true) →
 (¬ ((y.2.1 != x.2.1.2.1) = true) →
 ((((0 : Int) ≤ s.2) ∧ (s.2 < (((List.length x.2.1.2.2) : Nat) : Int))) ∧
 (((Int.toNat s.2) < (List.length x.2.1.2.2)) ∧
 (((Int.toNat s.2) < (List.length x.2.1.2.2)) ∧
 ((r15shadow_pre (x.1, ((List.getD x.2.1.2.2 (Int.toNat s.2) (0 : Int)), x.2.1.1))) ∧
 letP (r15shadow (x.1, ((List.getD x.2.1.2.2 (Int.toNat s.2) (0 : Int)), x.2.1.1))) fun y_1 =>
 (((List.length s.1) + 1) < 1099511627776)))))))))))))
noncomputable def r16lay_l0_t (x : (((List I3) × ((List I2) × ((List I3) × (List I9)))) × ((Int × (Int × (List Int))) × Int))) (s : ((List I6) × Int)) : Tr (((List I6) × Int) ⊕ (Unit ⊕ (List I6))) true :=
 (.i10 (s.2 < (((List.length x.2.1.2.2) : Nat) : Int))
 (.oR s.2 (((List.length x.2.1.2.2) : Nat) : Int)
 (.od ((Int.toNat s.2) < (List.length x.2.1.2.2))
 (.od ((Int.toNat s.2) < (List.length x.2.1.2.2))
 (.fn r15facing_S (x.1, (List.getD x.2.1.2.2 (Int.toNat s.2) (0 : Int))) fun y =>
 (.b01 (!y.2.2)
 (.ret (.inr (Sum.inl ())))
 (.b01 (y.1 != x.2.1.1)
 (.ret (.inr (Sum.inl ())))
 (.b01 (y.2.1 != x.2.1.2.1)
 (.ret (.inr (Sum.inl ())))
 (.oR s.2 (((List.length x.2.1.2.2) : Nat) : Int)
 (.od ((Int.toNat s.2) < (List.length x.2.1.2.2))
 (.od ((Int.toNat s.2) < (List.length x.2.1.2.2))
 (.fn r15shadow_S (x.1, ((List.getD x.2.1.2.2 (Int.toNat s.2) (0 : Int)), x.2.1.1)) fun y_1 =>
 (.od (((List.length s.1) + 1) < 1099511627776)
 (.ret (.inl ((s.1 ++ [y_1.1]), (w64 (s.2 + (1 : Int))))))))))))))))))
 (.ret (.inr (Sum.inr (s.1)))))
noncomputable def r16lay_l2 (x : (((List I3) × ((List I2) × ((List I3) × (List I9)))) × ((Int × (Int × (List Int))) × Int))) : LoopD := ⟨[], ⟨pvs 192 0 [(2, .v (.one (.i .i64))), (4, .v (.one (.ptr 0 0))), (6, .v (.one (.ptr 2 0))), (8, .v (.one (.full 3))), (15, .v (.one (.ptr 4 0))), (16, .v (.one (.ptr 5 0))), (18, .v (.one (.full 6))), (19, .v (.one (.i .i64)))], [.cells [.i .i64, .i .i64, .full 1] 29, .row yi 0, .cells [.raw, .raw, .i .i64, .i .i64] 32, .row yy6 2, .cells [.i .i64, .i .i64] 34, .cells [.i .i64, .i .i64] 34, .row yy6 2], 0, none, [], [0, 2, 3, 4, 5, 6, 7, 8], [9, 10, 11, 12, 13, 14, 1], [(.l yy6), .i, .i, .i, .i, (.l yy6), .i], [.i x.2.2, .i x.2.1.1, .i x.2.1.2.1, .l yi x.2.1.2.2, .v (.slice none 0 0), .v (.slice none 0 0), .i (0 : Int), .i (0 : Int)]⟩, [⟨(.exit 2), .normal, ⟨pvs 192 0 [(2, .v (.one (.i .i64))), (4, .v (.one (.ptr 0 0))), (6, .v (.one (.ptr 2 0))), (15, .v (.one (.ptr 3 0))), (16, .v (.one (.ptr 4 0))), (18, .v (.one (.full 5)))], [.cells [.i .i64, .i .i64, .full 1] 29, .row yi 0, .cells [.raw, .raw, .i .i64, .i .i64] 32, .cells [.i .i64, .i .i64] 34, .cells [.i .i64, .i .i64] 34, .row yy6 2], 0, none, [], [0, 1, 2, 3, 4, 5, 6, 7], [8, 9, 10, 11, 12], [.i, .i, .i, .i, (.l yy6)], [.i x.2.2, .i x.2.1.1, .i x.2.1.2.1, .l yi x.2.1.2.2, .v (.slice none 0 0), .v (.slice none 0 0), .i (0 : Int), .i (0 : Int)]⟩⟩]⟩
noncomputable def r16lay_l2_step (x : (((List I3) × ((List I2) × ((List I3) × (List I9)))) × ((Int × (Int × (List Int))) × Int))) (s : ((List I6) × (Int × (Int × (Int × (Int × ((List I6) × Int))))))) : ((List I6) × (Int × (Int × (Int × (Int × ((List I6) × Int)))))) ⊕ (Int × (Int × (Int × (Int × (List I6))))) :=
 (if (s.2.2.2.2.2.2 < (((List.length s.1) : Nat) : Int)) then
 (Sum.inl (s.1, (s.2.1, (s.2.2.1, (s.2.2.2.1, (s.2.2.2.2.1, ((s.2.2.2.2.2.1 ++ [(((w64 ((w64 ((List.getD s.1 (Int.toNat s.2.2.2.2.2.2) (((0 : Int), (0 : Int)), (((0 : Int), (0 : Int)), ((0 : Int), (0 : Int))))).1.1 - s.2.1)) * x.2.2)), (w64 ((w64 ((List.getD s.1 (Int.toNat s.2.2.2.2.2.2) (((0 : Int), (0 : Int)), (((0 : Int), (0 : Int)), ((0 : Int), (0 : Int))))).1.2 - s.2.2.1)) * x.2.2))), (((w64 ((w64 ((List.getD s.1 (Int.toNat s.2.2.2.2.2.2) (((0 : Int), (0 : Int)), (((0 : Int), (0 : Int)), ((0 : Int), (0 : Int))))).2.1.1 - s.2.1)) * x.2.2)), (w64 ((w64 ((List.getD s.1 (Int.toNat s.2.2.2.2.2.2) (((0 : Int), (0 : Int)), (((0 : Int), (0 : Int)), ((0 : Int), (0 : Int))))).2.1.2 - s.2.2.1)) * x.2.2))), ((w64 ((w64 ((List.getD s.1 (Int.toNat s.2.2.2.2.2.2) (((0 : Int), (0 : Int)), (((0 : Int), (0 : Int)), ((0 : Int), (0 : Int))))).2.2.1 - s.2.1)) * x.2.2)), (w64 ((w64 ((List.getD s.1 (Int.toNat s.2.2.2.2.2.2) (((0 : Int), (0 : Int)), (((0 : Int), (0 : Int)), ((0 : Int), (0 : Int))))).2.2.2 - s.2.2.1)) * x.2.2)))))]), (w64 (s.2.2.2.2.2.2 + (1 : Int)))))))))) else
 (Sum.inr ((s.2.1, (s.2.2.1, (s.2.2.2.1, (s.2.2.2.2.1, s.2.2.2.2.2.1)))))))
noncomputable def r16lay_l2_pre (x : (((List I3) × ((List I2) × ((List I3) × (List I9)))) × ((Int × (Int × (List Int))) × Int))) (s : ((List I6) × (Int × (Int × (Int × (Int × ((List I6) × Int))))))) : Prop :=
 ((s.2.2.2.2.2.2 < (((List.length s.1) : Nat) : Int)) →
 ((((0 : Int) ≤ s.2.2.2.2.2.2) ∧ (s.2.2.2.2.2.2 < (((List.length s.1) : Nat) : Int))) ∧
 (((Int.toNat s.2.2.2.2.2.2) < (List.length s.1)) ∧
 (((Int.toNat s.2.2.2.2.2.2) < (List.length s.1)) ∧
 (((Int.toNat s.2.2.2.2.2.2) < (List.length s.1)) ∧
 (((Int.toNat s.2.2.2.2.2.2) < (List.length s.1)) ∧
 ((((0 : Int) ≤ s.2.2.2.2.2.2) ∧ (s.2.2.2.2.2.2 < (((List.length s.1) : Nat) : Int))) ∧
 (((Int.toNat s.2.2.2.2.2.2) < (List.length s.1)) ∧
 (((Int.toNat s.2.2.2.2.2.2) < (List.length s.1)) ∧
 (((Int.toNat s.2.2.2.2.2.2) < (List.length s.1)) ∧
 (((Int.toNat s.2.2.2.2.2.2) < (List.length s.1)) ∧
 ((((0 : Int) ≤ s.2.2.2.2.2.2) ∧ (s.2.2.2.2.2.2 < (((List.length s.1) : Nat) : Int))) ∧
 (((Int.toNat s.2.2.2.2.2.2) < (List.length s.1)) ∧
 (((Int.toNat s.2.2.2.2.2.2) < (List.length s.1)) ∧
 (((Int.toNat s.2.2.2.2.2.2) < (List.length s.1)) ∧
 (((Int.toNat s.2.2.2.2.2.2) < (List.length s.1)) ∧
 ((((0 : Int) ≤ s.2.2.2.2.2.2) ∧ (s.2.2.2.2.2.2 < (((List.length s.1) : Nat) : Int))) ∧
 (((Int.toNat s.2.2.2.2.2.2) < (List.length s.1)) ∧
 (((Int.toNat s.2.2.2.2.2.2) < (List.length s.1)) ∧
 (((Int.toNat s.2.2.2.2.2.2) < (List.length s.1)) ∧
 (((Int.toNat s.2.2.2.2.2.2) < (List.length s.1)) ∧
 ((((0 : Int) ≤ s.2.2.2.2.2.2) ∧ (s.2.2.2.2.2.2 < (((List.length s.1) : Nat) : Int))) ∧
 (((Int.toNat s.2.2.2.2.2.2) < (List.length s.1)) ∧
 (((Int.toNat s.2.2.2.2.2.2) < (List.length s.1)) ∧
 (((Int.toNat s.2.2.2.2.2.2) < (List.length s.1)) ∧
 (((Int.toNat s.2.2.2.2.2.2) < (List.length s.1)) ∧
 ((((0 : Int) ≤ s.2.2.2.2.2.2) ∧ (s.2.2.2.2.2.2 < (((List.length s.1) : Nat) : Int))) ∧
 (((Int.toNat s.2.2.2.2.2.2) < (List.length s.1)) ∧
 (((Int.toNat s.2.2.2.2.2.2) < (List.length s.1)) ∧
 (((Int.toNat s.2.2.2.2.2.2) < (List.length s.1)) ∧
 (((Int.toNat s.2.2.2.2.2.2) < (List.length s.1)) ∧
 (((List.length s.2.2.2.2.2.1) + 1) < 1099511627776))))))))))))))))))))))))))))))))
noncomputable def r16lay_l2_t (x : (((List I3) × ((List I2) × ((List I3) × (List I9)))) × ((Int × (Int × (List Int))) × Int))) (s : ((List I6) × (Int × (Int × (Int × (Int × ((List I6) × Int))))))) : Tr (((List I6) × (Int × (Int × (Int × (Int × ((List I6) × Int)))))) ⊕ (Int × (Int × (Int × (Int × (List I6)))))) true :=
 (.i10 (s.2.2.2.2.2.2 < (((List.length s.1) : Nat) : Int))
 (.oR s.2.2.2.2.2.2 (((List.length s.1) : Nat) : Int)
 (.od ((Int.toNat s.2.2.2.2.2.2) < (List.length s.1))
 (.od ((Int.toNat s.2.2.2.2.2.2) < (List.length s.1))
 (.od ((Int.toNat s.2.2.2.2.2.2) < (List.length s.1))
 (.od ((Int.toNat s.2.2.2.2.2.2) < (List.length s.1))
 (.oR s.2.2.2.2.2.2 (((List.length s.1) : Nat) : Int)
 (.od ((Int.toNat s.2.2.2.2.2.2) < (List.length s.1))
 (.od ((Int.toNat s.2.2.2.2.2.2) < (List.length s.1))
 (.od ((Int.toNat s.2.2.2.2.2.2) < (List.length s.1))
 (.od ((Int.toNat s.2.2.2.2.2.2) < (List.length s.1))
 (.oR s.2.2.2.2.2.2 (((List.length s.1) : Nat) : Int)
 (.od ((Int.toNat s.2.2.2.2.2.2) < (List.length s.1))
 (.od ((Int.toNat s.2.2.2.2.2.2) < (List.length s.1))
 (.od ((Int.toNat s.2.2.2.2.2.2) < (List.length s.1))
 (.od ((Int.toNat s.2.2.2.2.2.2) < (List.length s.1))
 (.oR s.2.2.2.2.2.2 (((List.length s.1) : Nat) : Int)
 (.od ((Int.toNat s.2.2.2.2.2.2) < (List.length s.1))
 (.od ((Int.toNat s.2.2.2.2.2.2) < (List.length s.1))
 (.od ((Int.toNat s.2.2.2.2.2.2) < (List.length s.1))
 (.od ((Int.toNat s.2.2.2.2.2.2) < (List.length s.1))
 (.oR s.2.2.2.2.2.2 (((List.length s.1) : Nat) : Int)
 (.od ((Int.toNat s.2.2.2.2.2.2) < (List.length s.1))
 (.od ((Int.toNat s.2.2.2.2.2.2) < (List.length s.1))
 (.od ((Int.toNat s.2.2.2.2.2.2) < (List.length s.1))
 (.od ((Int.toNat s.2.2.2.2.2.2) < (List.length s.1))
 (.oR s.2.2.2.2.2.2 (((List.length s.1) : Nat) : Int)
 (.od ((Int.toNat s.2.2.2.2.2.2) < (List.length s.1))
 (.od ((Int.toNat s.2.2.2.2.2.2) < (List.length s.1))
 (.od ((Int.toNat s.2.2.2.2.2.2) < (List.length s.1))
 (.od ((Int.toNat s.2.2.2.2.2.2) < (List.length s.1))
 (.od (((List.length s.2.2.2.2.2.1) + 1) < 1099511627776)
 (.ret (.inl (s.1, (s.2.1, (s.2.2.1, (s.2.2.2.1, (s.2.2.2.2.1, ((s.2.2.2.2.2.1 ++ [(((w64 ((w64 ((List.getD s.1 (Int.toNat s.2.2.2.2.2.2) zz6).1.1 - s.2.1)) * x.2.2)), (w64 ((w64 ((List.getD s.1 (Int.toNat s.2.2.2.2.2.2) zz6).1.2 - s.2.2.1)) * x.2.2))), (((w64 ((w64 ((List.getD s.1 (Int.toNat s.2.2.2.2.2.2) zz6).2.1.1 - s.2.1)) * x.2.2)), (w64 ((w64 ((List.getD s.1 (Int.toNat s.2.2.2.2.2.2) zz6).2.1.2 - s.2.2.1)) * x.2.2))), ((w64 ((w64 ((List.getD s.1 (Int.toNat s.2.2.2.2.2.2) zz6).2.2.1 - s.2.1)) * x.2.2)), (w64 ((w64 ((List.getD s.1 (Int.toNat s.2.2.2.2.2.2) zz6).2.2.2 - s.2.2.1)) * x.2.2)))))]), (w64 (s.2.2.2.2.2.2 + (1 : Int))))))))))))))))))))))))))))))))))))))))))
 (.ret (.inr ((s.2.1, (s.2.2.1, (s.2.2.2.1, (s.2.2.2.2.1, s.2.2.2.2.2.1))))))))
noncomputable def r16lay (x : (((List I3) × ((List I2) × ((List I3) × (List I9)))) × ((Int × (Int × (List Int))) × Int))) : (((List Int) × ((List I6) × I2)) × Int) :=
 (letV (r15tame x.1) fun y =>
 (if ((!y) = true) then
 (([], ([], ((0 : Int), (0 : Int)))), (1 : Int)) else
 (if (((((List.length x.2.1.2.2) : Nat) : Int) == (0 : Int)) = true) then
 (([], ([], ((0 : Int), (0 : Int)))), (1 : Int)) else
 (if (x.2.2 < (1 : Int)) then
 (([], ([], ((0 : Int), (0 : Int)))), (1 : Int)) else
 (if (x.2.2 > (64 : Int)) then
 (([], ([], ((0 : Int), (0 : Int)))), (1 : Int)) else
 (letV (run (r16lay_l0_step x) ([], (0 : Int))) fun r =>
 (Sum.elim (fun a =>
 (([], ([], ((0 : Int), (0 : Int)))), (1 : Int))) (fun b =>
 (letV (r16box b) fun y_1 =>
 (if ((w64 ((w64 (y_1.2.1.1 - y_1.1.1)) * x.2.2)) > (4096 : Int)) then
 (([], ([], ((0 : Int), (0 : Int)))), (2 : Int)) else
 (if ((w64 ((w64 (y_1.2.1.2 - y_1.1.2)) * x.2.2)) > (4096 : Int)) then
 (([], ([], ((0 : Int), (0 : Int)))), (2 : Int)) else
 (letV (run (r16lay_l2_step x) (b, (y_1.1.1, (y_1.1.2, (y_1.2.1.1, (y_1.2.1.2, ([], (0 : Int)))))))) fun r_1 =>
 (letV (r16apart r_1.2.2.2.2) fun y_2 =>
 (if ((!y_2) = true) then
 (([], ([], ((0 : Int), (0 : Int)))), (1 : Int)) else
 (letV (r16size (w64 ((w64 (r_1.2.2.1 - r_1.1)) * x.2.2))) fun y_3 =>
 (letV (r16size (w64 ((w64 (r_1.2.2.2.1 - r_1.2.1)) * x.2.2))) fun y_4 =>
 (letV (r1own x.2.1.2.2) fun y_5 =>
 ((y_5, (r_1.2.2.2.2, (y_3.1, y_4.1))), (0 : Int)))))))))))) r)))))))
noncomputable def r16lay_pre (x : (((List I3) × ((List I2) × ((List I3) × (List I9)))) × ((Int × (Int × (List Int))) × Int))) : Prop :=
 ((r15tame_pre x.1) ∧
 letP (r15tame x.1) fun y =>
 (¬ ((!y) = true) →
 (¬ (((((List.length x.2.1.2.2) : Nat) : Int) == (0 : Int)) = true) →
 (¬ (x.2.2 < (1 : Int)) →
 (¬ (x.2.2 > (64 : Int)) →
 (Term (r16lay_l0_step x) (r16lay_l0_pre x) ([], (0 : Int)) ∧
 letP (run (r16lay_l0_step x) ([], (0 : Int))) fun r =>
 (cS r (fun a =>
 True) (fun b =>
 ((r16box_pre b) ∧
 letP (r16box b) fun y_1 =>
 (¬ ((w64 ((w64 (y_1.2.1.1 - y_1.1.1)) * x.2.2)) > (4096 : Int)) →
 (¬ ((w64 ((w64 (y_1.2.1.2 - y_1.1.2)) * x.2.2)) > (4096 : Int)) →
 (Term (r16lay_l2_step x) (r16lay_l2_pre x) (b, (y_1.1.1, (y_1.1.2, (y_1.2.1.1, (y_1.2.1.2, ([], (0 : Int))))))) ∧
 letP (run (r16lay_l2_step x) (b, (y_1.1.1, (y_1.1.2, (y_1.2.1.1, (y_1.2.1.2, ([], (0 : Int)))))))) fun r_1 =>
 ((r16apart_pre r_1.2.2.2.2) ∧
 letP (r16apart r_1.2.2.2.2) fun y_2 =>
 (¬ ((!y_2) = true) →
 (letP (r16size (w64 ((w64 (r_1.2.2.1 - r_1.1)) * x.2.2))) fun y_3 =>
 (letP (r16size (w64 ((w64 (r_1.2.2.2.1 - r_1.2.1)) * x.2.2))) fun y_4 =>
 (r1own_pre x.2.1.2.2)))))))))))))))))
noncomputable def r16lay_t (x : (((List I3) × ((List I2) × ((List I3) × (List I9)))) × ((Int × (Int × (List Int))) × Int))) : Tr (((List Int) × ((List I6) × I2)) × Int) true :=
 (.fn r15tame_S x.1 fun y =>
 (.b01 (!y)
 (.ret (([], ([], zz2)), (1 : Int)))
 (.b01 ((((List.length x.2.1.2.2) : Nat) : Int) == (0 : Int))
 (.ret (([], ([], zz2)), (1 : Int)))
 (.i01 (x.2.2 < (1 : Int))
 (.ret (([], ([], zz2)), (1 : Int)))
 (.i01 (x.2.2 > (64 : Int))
 (.ret (([], ([], zz2)), (1 : Int)))
 (LoopD.lp (r16lay_l0 x) (r16lay_l0_t x) ([], (0 : Int)) fun r =>
 (.s01 r (fun a =>
 (.ret (([], ([], zz2)), (1 : Int)))) (fun b =>
 (.fn r16box_S b fun y_1 =>
 (.i01 ((w64 ((w64 (y_1.2.1.1 - y_1.1.1)) * x.2.2)) > (4096 : Int))
 (.ret (([], ([], zz2)), (2 : Int)))
 (.i01 ((w64 ((w64 (y_1.2.1.2 - y_1.1.2)) * x.2.2)) > (4096 : Int))
 (.ret (([], ([], zz2)), (2 : Int)))
 (LoopD.lp (r16lay_l2 x) (r16lay_l2_t x) (b, (y_1.1.1, (y_1.1.2, (y_1.2.1.1, (y_1.2.1.2, ([], (0 : Int))))))) fun r_1 =>
 (.fn r16apart_S r_1.2.2.2.2 fun y_2 =>
 (.b01 (!y_2)
 (.ret (([], ([], zz2)), (1 : Int)))
 (.fn0 r16size_S (w64 ((w64 (r_1.2.2.1 - r_1.1)) * x.2.2)) trivial fun y_3 =>
 (.fn0 r16size_S (w64 ((w64 (r_1.2.2.2.1 - r_1.2.1)) * x.2.2)) trivial fun y_4 =>
 (.fn r1own_S x.2.1.2.2 fun y_5 =>
 (.ret ((y_5, (r_1.2.2.2.2, (y_3.1, y_4.1))), (0 : Int))))))))))))))))))))
noncomputable abbrev r16lay_S : FnS := ⟨(.pair (.agg (Ty.prod (Ty.sl yy3) (Ty.prod (Ty.sl yy2) (Ty.prod (Ty.sl yy3) (Ty.sl yy9))))) (.pair (.agg (Ty.prod yi (Ty.prod yi (Ty.sl yi)))) (.one yi))), (.pair (.agg (Ty.prod (Ty.sl yi) (Ty.prod (Ty.sl yy6) yy2))) (.one yi)), r16lay_pre, r16lay⟩
theorem r16lay_ok : SpecOk Tryz.prog 8 (fnSpec r16lay_S) := SpecOk.tr r16lay_S r16lay_t (fn := Tryz.f8) tt_ok sp_r16own_ok mixed (by kernel_rfl) (ItsOk.nil _ _) (fun x => (LpsOk.tr tt_ok (SpecsOk.ctxI sp_r16own_ok (ItsOk.nil _ _)) mixed 0 (r16lay_l0 x) (r16lay_l0_t x) (LpsOk.tr tt_ok (SpecsOk.ctxI sp_r16own_ok (ItsOk.nil _ _)) mixed 2 (r16lay_l2 x) (r16lay_l2_t x) (LpsOk.unrollT tt_ok (SpecsOk.ctxI sp_r16own_ok (ItsOk.nil _ _)) mixed 4 4 LpsOk.nil (by kernel_rfl)) (by kernel_rfl) fun g s Q => (by kernel_rfl)) (by kernel_rfl) fun g s Q => (by kernel_rfl))) (fun x => (by kernel_rfl)) fun x Q => (by kernel_rfl)
def sp_r16lay : List (Nat × Ev.Spec) := (8, fnSpec r16lay_S) :: sp_r16own
theorem sp_r16lay_ok : SpecsOk Tryz.prog sp_r16lay := SpecsOk.add (fn := Tryz.f8) (by kernel_rfl) r16lay_ok sp_r16own_ok
noncomputable def r16move_l0 (x : (((List Int) × ((List I6) × I2)) × I2)) : LoopD := ⟨[], ⟨pvs 72 0 [(2, .v (.one (.ptr 0 0))), (3, .v (.one (.ptr 3 0))), (6, .v (.one (.full 4))), (7, .v (.one (.i .i64)))], [.cells [.full 1, .full 2, .i .i64, .i .i64] 32, .row yi 0, .row yy6 0, .cells [.i .i64, .i .i64] 34, .row yy6 2], 0, none, [], [1, 2, 3, 4, 5, 6], [7, 0], [(.l yy6), .i], [.i x.1.2.2.1, .i x.1.2.2.2, .l yi x.1.1, .l yy6 x.1.2.1, .i x.2.1, .i x.2.2]⟩, [⟨(.exit 0), .normal, ⟨pvs 72 0 [(6, .v (.one (.full 0)))], [.row yy6 2], 0, none, [], [], [0], [(.l yy6)], []⟩⟩]⟩
noncomputable def r16move_l0_step (x : (((List Int) × ((List I6) × I2)) × I2)) (s : ((List I6) × Int)) : ((List I6) × Int) ⊕ (List I6) :=
 (if (s.2 < (((List.length x.1.2.1) : Nat) : Int)) then
 (Sum.inl ((s.1 ++ [(((w64 ((List.getD x.1.2.1 (Int.toNat s.2) (((0 : Int), (0 : Int)), (((0 : Int), (0 : Int)), ((0 : Int), (0 : Int))))).1.1 + x.2.1)), (w64 ((List.getD x.1.2.1 (Int.toNat s.2) (((0 : Int), (0 : Int)), (((0 : Int), (0 : Int)), ((0 : Int), (0 : Int))))).1.2 + x.2.2))), (((w64 ((List.getD x.1.2.1 (Int.toNat s.2) (((0 : Int), (0 : Int)), (((0 : Int), (0 : Int)), ((0 : Int), (0 : Int))))).2.1.1 + x.2.1)), (w64 ((List.getD x.1.2.1 (Int.toNat s.2) (((0 : Int), (0 : Int)), (((0 : Int), (0 : Int)), ((0 : Int), (0 : Int))))).2.1.2 + x.2.2))), ((w64 ((List.getD x.1.2.1 (Int.toNat s.2) (((0 : Int), (0 : Int)), (((0 : Int), (0 : Int)), ((0 : Int), (0 : Int))))).2.2.1 + x.2.1)), (w64 ((List.getD x.1.2.1 (Int.toNat s.2) (((0 : Int), (0 : Int)), (((0 : Int), (0 : Int)), ((0 : Int), (0 : Int))))).2.2.2 + x.2.2)))))]), (w64 (s.2 + (1 : Int))))) else
 (Sum.inr (s.1)))
noncomputable def r16move_l0_pre (x : (((List Int) × ((List I6) × I2)) × I2)) (s : ((List I6) × Int)) : Prop :=
 ((s.2 < (((List.length x.1.2.1) : Nat) : Int)) →
 ((((0 : Int) ≤ s.2) ∧ (s.2 < (((List.length x.1.2.1) : Nat) : Int))) ∧
 (((Int.toNat s.2) < (List.length x.1.2.1)) ∧
 (((Int.toNat s.2) < (List.length x.1.2.1)) ∧
 (((Int.toNat s.2) < (List.length x.1.2.1)) ∧
 (((Int.toNat s.2) < (List.length x.1.2.1)) ∧
 ((((0 : Int) ≤ s.2) ∧ (s.2 < (((List.length x.1.2.1) : Nat) : Int))) ∧
 (((Int.toNat s.2) < (List.length x.1.2.1)) ∧
 (((Int.toNat s.2) < (List.length x.1.2.1)) ∧
 (((Int.toNat s.2) < (List.length x.1.2.1)) ∧
 (((Int.toNat s.2) < (List.length x.1.2.1)) ∧
 ((((0 : Int) ≤ s.2) ∧ (s.2 < (((List.length x.1.2.1) : Nat) : Int))) ∧
 (((Int.toNat s.2) < (List.length x.1.2.1)) ∧
 (((Int.toNat s.2) < (List.length x.1.2.1)) ∧
 (((Int.toNat s.2) < (List.length x.1.2.1)) ∧
 (((Int.toNat s.2) < (List.length x.1.2.1)) ∧
 ((((0 : Int) ≤ s.2) ∧ (s.2 < (((List.length x.1.2.1) : Nat) : Int))) ∧
 (((Int.toNat s.2) < (List.length x.1.2.1)) ∧
 (((Int.toNat s.2) < (List.length x.1.2.1)) ∧
 (((Int.toNat s.2) < (List.length x.1.2.1)) ∧
 (((Int.toNat s.2) < (List.length x.1.2.1)) ∧
 ((((0 : Int) ≤ s.2) ∧ (s.2 < (((List.length x.1.2.1) : Nat) : Int))) ∧
 (((Int.toNat s.2) < (List.length x.1.2.1)) ∧
 (((Int.toNat s.2) < (List.length x.1.2.1)) ∧
 (((Int.toNat s.2) < (List.length x.1.2.1)) ∧
 (((Int.toNat s.2) < (List.length x.1.2.1)) ∧
 ((((0 : Int) ≤ s.2) ∧ (s.2 < (((List.length x.1.2.1) : Nat) : Int))) ∧
 (((Int.toNat s.2) < (List.length x.1.2.1)) ∧
 (((Int.toNat s.2) < (List.length x.1.2.1)) ∧
 (((Int.toNat s.2) < (List.length x.1.2.1)) ∧
 (((Int.toNat s.2) < (List.length x.1.2.1)) ∧
 (((List.length s.1) + 1) < 1099511627776))))))))))))))))))))))))))))))))
noncomputable def r16move_l0_t (x : (((List Int) × ((List I6) × I2)) × I2)) (s : ((List I6) × Int)) : Tr (((List I6) × Int) ⊕ (List I6)) true :=
 (.i10 (s.2 < (((List.length x.1.2.1) : Nat) : Int))
 (.oR s.2 (((List.length x.1.2.1) : Nat) : Int)
 (.od ((Int.toNat s.2) < (List.length x.1.2.1))
 (.od ((Int.toNat s.2) < (List.length x.1.2.1))
 (.od ((Int.toNat s.2) < (List.length x.1.2.1))
 (.od ((Int.toNat s.2) < (List.length x.1.2.1))
 (.oR s.2 (((List.length x.1.2.1) : Nat) : Int)
 (.od ((Int.toNat s.2) < (List.length x.1.2.1))
 (.od ((Int.toNat s.2) < (List.length x.1.2.1))
 (.od ((Int.toNat s.2) < (List.length x.1.2.1))
 (.od ((Int.toNat s.2) < (List.length x.1.2.1))
 (.oR s.2 (((List.length x.1.2.1) : Nat) : Int)
 (.od ((Int.toNat s.2) < (List.length x.1.2.1))
 (.od ((Int.toNat s.2) < (List.length x.1.2.1))
 (.od ((Int.toNat s.2) < (List.length x.1.2.1))
 (.od ((Int.toNat s.2) < (List.length x.1.2.1))
 (.oR s.2 (((List.length x.1.2.1) : Nat) : Int)
 (.od ((Int.toNat s.2) < (List.length x.1.2.1))
 (.od ((Int.toNat s.2) < (List.length x.1.2.1))
 (.od ((Int.toNat s.2) < (List.length x.1.2.1))
 (.od ((Int.toNat s.2) < (List.length x.1.2.1))
 (.oR s.2 (((List.length x.1.2.1) : Nat) : Int)
 (.od ((Int.toNat s.2) < (List.length x.1.2.1))
 (.od ((Int.toNat s.2) < (List.length x.1.2.1))
 (.od ((Int.toNat s.2) < (List.length x.1.2.1))
 (.od ((Int.toNat s.2) < (List.length x.1.2.1))
 (.oR s.2 (((List.length x.1.2.1) : Nat) : Int)
 (.od ((Int.toNat s.2) < (List.length x.1.2.1))
 (.od ((Int.toNat s.2) < (List.length x.1.2.1))
 (.od ((Int.toNat s.2) < (List.length x.1.2.1))
 (.od ((Int.toNat s.2) < (List.length x.1.2.1))
 (.od (((List.length s.1) + 1) < 1099511627776)
 (.ret (.inl ((s.1 ++ [(((w64 ((List.getD x.1.2.1 (Int.toNat s.2) zz6).1.1 + x.2.1)), (w64 ((List.getD x.1.2.1 (Int.toNat s.2) zz6).1.2 + x.2.2))), (((w64 ((List.getD x.1.2.1 (Int.toNat s.2) zz6).2.1.1 + x.2.1)), (w64 ((List.getD x.1.2.1 (Int.toNat s.2) zz6).2.1.2 + x.2.2))), ((w64 ((List.getD x.1.2.1 (Int.toNat s.2) zz6).2.2.1 + x.2.1)), (w64 ((List.getD x.1.2.1 (Int.toNat s.2) zz6).2.2.2 + x.2.2)))))]), (w64 (s.2 + (1 : Int)))))))))))))))))))))))))))))))))))))
 (.ret (.inr (s.1))))
noncomputable def r16move (x : (((List Int) × ((List I6) × I2)) × I2)) : ((List I6) × Int) :=
 (letV (r16is x.1) fun y =>
 (if ((!y) = true) then
 ([], (1 : Int)) else
 (if (x.2.1 < (0 : Int)) then
 ([], (5 : Int)) else
 (if (x.2.1 > (65536 : Int)) then
 ([], (5 : Int)) else
 (if (x.2.2 < (0 : Int)) then
 ([], (5 : Int)) else
 (if (x.2.2 > (65536 : Int)) then
 ([], (5 : Int)) else
 (letV (run (r16move_l0_step x) ([], (0 : Int))) fun r =>
 (r, (0 : Int)))))))))
noncomputable def r16move_pre (x : (((List Int) × ((List I6) × I2)) × I2)) : Prop :=
 ((r16is_pre x.1) ∧
 letP (r16is x.1) fun y =>
 (¬ ((!y) = true) →
 (¬ (x.2.1 < (0 : Int)) →
 (¬ (x.2.1 > (65536 : Int)) →
 (¬ (x.2.2 < (0 : Int)) →
 (¬ (x.2.2 > (65536 : Int)) →
 (Term (r16move_l0_step x) (r16move_l0_pre x) ([], (0 : Int)))))))))
noncomputable def r16move_t (x : (((List Int) × ((List I6) × I2)) × I2)) : Tr ((List I6) × Int) true :=
 (.fn r16is_S x.1 fun y =>
 (.b01 (!y)
 (.ret ([], (1 : Int)))
 (.i01 (x.2.1 < (0 : Int))
 (.ret ([], (5 : Int)))
 (.i01 (x.2.1 > (65536 : Int))
 (.ret ([], (5 : Int)))
 (.i01 (x.2.2 < (0 : Int))
 (.ret ([], (5 : Int)))
 (.i01 (x.2.2 > (65536 : Int))
 (.ret ([], (5 : Int)))
 (LoopD.lp (r16move_l0 x) (r16move_l0_t x) ([], (0 : Int)) fun r =>
 (.ret (r, (0 : Int))))))))))
noncomputable abbrev r16move_S : FnS := ⟨(.pair (.agg (Ty.prod (Ty.sl yi) (Ty.prod (Ty.sl yy6) yy2))) (.agg yy2)), (.pair (.one (Ty.sl yy6)) (.one yi)), r16move_pre, r16move⟩
theorem r16move_ok : SpecOk Tryz.prog 10 (fnSpec r16move_S) := SpecOk.tr r16move_S r16move_t (fn := Tryz.f10) tt_ok sp_r16lay_ok mixed (by kernel_rfl) (ItsOk.nil _ _) (fun x => (LpsOk.tr tt_ok (SpecsOk.ctxI sp_r16lay_ok (ItsOk.nil _ _)) mixed 0 (r16move_l0 x) (r16move_l0_t x) (LpsOk.unrollT tt_ok (SpecsOk.ctxI sp_r16lay_ok (ItsOk.nil _ _)) mixed 2 4 LpsOk.nil (by kernel_rfl)) (by kernel_rfl) fun g s Q => (by kernel_rfl))) (fun x => (by kernel_rfl)) fun x Q => (by kernel_rfl)
def sp_r16move : List (Nat × Ev.Spec) := (10, fnSpec r16move_S) :: sp_r16lay
theorem sp_r16move_ok : SpecsOk Tryz.prog sp_r16move := SpecsOk.add (fn := Tryz.f10) (by kernel_rfl) r16move_ok sp_r16lay_ok
noncomputable def r16sametris_l0 (x : ((List I6) × (List I6))) : LoopD := ⟨[], ⟨pvs 26 0 [(0, .v (.one (.full 0))), (1, .v (.one (.full 1))), (5, .v (.one (.i .i64)))], [.row yy6 0, .row yy6 0], 0, none, [], [1, 2], [0], [.i], [.l yy6 x.1, .l yy6 x.2]⟩, [⟨.ret, .ret, ⟨pvs 26 0 [(4, .v (.one (.b)))], [], 0, none, [], [0], [], [], [.b false]⟩⟩, ⟨(.exit 0), .normal, ⟨pvs 26 0 [], [], 0, none, [], [], [], [], []⟩⟩]⟩
noncomputable def r16sametris_l0_step (x : ((List I6) × (List I6))) (s : Int) : Int ⊕ (Unit ⊕ Unit) :=
 (if (s < (((List.length x.1) : Nat) : Int)) then
 (if ((!((((List.getD x.1 (Int.toNat s) (((0 : Int), (0 : Int)), (((0 : Int), (0 : Int)), ((0 : Int), (0 : Int))))).1.1 == (List.getD x.2 (Int.toNat s) (((0 : Int), (0 : Int)), (((0 : Int), (0 : Int)), ((0 : Int), (0 : Int))))).1.1) && (((List.getD x.1 (Int.toNat s) (((0 : Int), (0 : Int)), (((0 : Int), (0 : Int)), ((0 : Int), (0 : Int))))).1.2 == (List.getD x.2 (Int.toNat s) (((0 : Int), (0 : Int)), (((0 : Int), (0 : Int)), ((0 : Int), (0 : Int))))).1.2) && true)) && ((((List.getD x.1 (Int.toNat s) (((0 : Int), (0 : Int)), (((0 : Int), (0 : Int)), ((0 : Int), (0 : Int))))).2.1.1 == (List.getD x.2 (Int.toNat s) (((0 : Int), (0 : Int)), (((0 : Int), (0 : Int)), ((0 : Int), (0 : Int))))).2.1.1) && (((List.getD x.1 (Int.toNat s) (((0 : Int), (0 : Int)), (((0 : Int), (0 : Int)), ((0 : Int), (0 : Int))))).2.1.2 == (List.getD x.2 (Int.toNat s) (((0 : Int), (0 : Int)), (((0 : Int), (0 : Int)), ((0 : Int), (0 : Int))))).2.1.2) && true)) && ((((List.getD x.1 (Int.toNat s) (((0 : Int), (0 : Int)), (((0 : Int), (0 : Int)), ((0 : Int), (0 : Int))))).2.2.1 == (List.getD x.2 (Int.toNat s) (((0 : Int), (0 : Int)), (((0 : Int), (0 : Int)), ((0 : Int), (0 : Int))))).2.2.1) && (((List.getD x.1 (Int.toNat s) (((0 : Int), (0 : Int)), (((0 : Int), (0 : Int)), ((0 : Int), (0 : Int))))).2.2.2 == (List.getD x.2 (Int.toNat s) (((0 : Int), (0 : Int)), (((0 : Int), (0 : Int)), ((0 : Int), (0 : Int))))).2.2.2) && true)) && true)))) = true) then
 (Sum.inr (Sum.inl ())) else
 (Sum.inl (w64 (s + (1 : Int))))) else
 (Sum.inr (Sum.inr (()))))
noncomputable def r16sametris_l0_pre (x : ((List I6) × (List I6))) (s : Int) : Prop :=
 ((s < (((List.length x.1) : Nat) : Int)) →
 ((((0 : Int) ≤ s) ∧ (s < (((List.length x.1) : Nat) : Int))) ∧
 (((Int.toNat s) < (List.length x.1)) ∧
 (((Int.toNat s) < (List.length x.1)) ∧
 ((((0 : Int) ≤ s) ∧ (s < (((List.length x.2) : Nat) : Int))) ∧
 (((Int.toNat s) < (List.length x.2)) ∧
 ((Int.toNat s) < (List.length x.2))))))))
noncomputable def r16sametris_l0_t (x : ((List I6) × (List I6))) (s : Int) : Tr (Int ⊕ (Unit ⊕ Unit)) true :=
 (.i10 (s < (((List.length x.1) : Nat) : Int))
 (.oR s (((List.length x.1) : Nat) : Int)
 (.od ((Int.toNat s) < (List.length x.1))
 (.od ((Int.toNat s) < (List.length x.1))
 (.oR s (((List.length x.2) : Nat) : Int)
 (.od ((Int.toNat s) < (List.length x.2))
 (.od ((Int.toNat s) < (List.length x.2))
 (.b00 (!((((List.getD x.1 (Int.toNat s) zz6).1.1 == (List.getD x.2 (Int.toNat s) zz6).1.1) && (((List.getD x.1 (Int.toNat s) zz6).1.2 == (List.getD x.2 (Int.toNat s) zz6).1.2) && true)) && ((((List.getD x.1 (Int.toNat s) zz6).2.1.1 == (List.getD x.2 (Int.toNat s) zz6).2.1.1) && (((List.getD x.1 (Int.toNat s) zz6).2.1.2 == (List.getD x.2 (Int.toNat s) zz6).2.1.2) && true)) && ((((List.getD x.1 (Int.toNat s) zz6).2.2.1 == (List.getD x.2 (Int.toNat s) zz6).2.2.1) && (((List.getD x.1 (Int.toNat s) zz6).2.2.2 == (List.getD x.2 (Int.toNat s) zz6).2.2.2) && true)) && true))))
 (.ret (.inr (Sum.inl ())))
 (.ret (.inl (w64 (s + (1 : Int))))))))))))
 (.ret (.inr (Sum.inr (())))))
noncomputable def r16sametris (x : ((List I6) × (List I6))) : Bool :=
 (if (((((List.length x.1) : Nat) : Int) != (((List.length x.2) : Nat) : Int)) = true) then
 false else
 (letV (run (r16sametris_l0_step x) (0 : Int)) fun r =>
 (Sum.elim (fun a =>
 false) (fun b =>
 true) r)))
noncomputable def r16sametris_pre (x : ((List I6) × (List I6))) : Prop :=
 (¬ (((((List.length x.1) : Nat) : Int) != (((List.length x.2) : Nat) : Int)) = true) →
 (Term (r16sametris_l0_step x) (r16sametris_l0_pre x) (0 : Int)))
noncomputable def r16sametris_t (x : ((List I6) × (List I6))) : Tr Bool true :=
 (.b01 ((((List.length x.1) : Nat) : Int) != (((List.length x.2) : Nat) : Int))
 (.ret false)
 (LoopD.lp (r16sametris_l0 x) (r16sametris_l0_t x) (0 : Int) fun r =>
 (.s00 r (fun a =>
 (.ret false)) (fun b =>
 (.ret true)))))
noncomputable abbrev r16sametris_S : FnS := ⟨(.pair (.one (Ty.sl yy6)) (.one (Ty.sl yy6))), (.one Ty.bool), r16sametris_pre, r16sametris⟩
theorem r16sametris_ok : SpecOk Tryz.prog 16 (fnSpec r16sametris_S) := SpecOk.tr r16sametris_S r16sametris_t (fn := Tryz.f16) tt_ok sp_r16move_ok mixed (by kernel_rfl) (ItsOk.nil _ _) (fun x => (LpsOk.tr tt_ok (SpecsOk.ctxI sp_r16move_ok (ItsOk.nil _ _)) mixed 0 (r16sametris_l0 x) (r16sametris_l0_t x) LpsOk.nil (by kernel_rfl) fun g s Q => (by kernel_rfl))) (fun x => (by kernel_rfl)) fun x Q => (by kernel_rfl)
def sp_r16sametris : List (Nat × Ev.Spec) := (16, fnSpec r16sametris_S) :: sp_r16move
theorem sp_r16sametris_ok : SpecsOk Tryz.prog sp_r16sametris := SpecsOk.add (fn := Tryz.f16) (by kernel_rfl) r16sametris_ok sp_r16move_ok
noncomputable def r16same (x : (((List Int) × ((List I6) × I2)) × ((List Int) × ((List I6) × I2)))) : Bool :=
 (if ((x.1.2.2.1 == x.2.2.2.1) = true) then
 (if ((x.1.2.2.2 == x.2.2.2.2) = true) then
 (letV (r1same (x.1.1, x.2.1)) fun y =>
 (if (y = true) then
 (letV (r16sametris (x.1.2.1, x.2.2.1)) fun y_1 =>
 y_1) else
 false)) else
 false) else
 false)
noncomputable def r16same_pre (x : (((List Int) × ((List I6) × I2)) × ((List Int) × ((List I6) × I2)))) : Prop :=
 (((x.1.2.2.1 == x.2.2.2.1) = true) →
 (((x.1.2.2.2 == x.2.2.2.2) = true) →
 ((r1same_pre (x.1.1, x.2.1)) ∧
 letP (r1same (x.1.1, x.2.1)) fun y =>
 ((y = true) →
 (r16sametris_pre (x.1.2.1, x.2.2.1))))))
noncomputable def r16same_t (x : (((List Int) × ((List I6) × I2)) × ((List Int) × ((List I6) × I2)))) : Tr Bool true :=
 (.b10 (x.1.2.2.1 == x.2.2.2.1)
 (.b10 (x.1.2.2.2 == x.2.2.2.2)
 (.fn r1same_S (x.1.1, x.2.1) fun y =>
 (.b10 y
 (.fn r16sametris_S (x.1.2.1, x.2.2.1) fun y_1 =>
 (.ret y_1))
 (.ret false)))
 (.ret false))
 (.ret false))
noncomputable abbrev r16same_S : FnS := ⟨(.pair (.agg (Ty.prod (Ty.sl yi) (Ty.prod (Ty.sl yy6) yy2))) (.agg (Ty.prod (Ty.sl yi) (Ty.prod (Ty.sl yy6) yy2)))), (.one Ty.bool), r16same_pre, r16same⟩
theorem r16same_ok : SpecOk Tryz.prog 15 (fnSpec r16same_S) := SpecOk.tr r16same_S r16same_t (fn := Tryz.f15) tt_ok sp_r16sametris_ok mixed (by kernel_rfl) (ItsOk.nil _ _) (fun x => LpsOk.nil) (fun x => (by kernel_rfl)) fun x Q => (by kernel_rfl)
def sp_r16same : List (Nat × Ev.Spec) := (15, fnSpec r16same_S) :: sp_r16sametris
theorem sp_r16same_ok : SpecsOk Tryz.prog sp_r16same := SpecsOk.add (fn := Tryz.f15) (by kernel_rfl) r16same_ok sp_r16sametris_ok
end Go.Proofs.YtpbbnoggkbfkoaaGreat
