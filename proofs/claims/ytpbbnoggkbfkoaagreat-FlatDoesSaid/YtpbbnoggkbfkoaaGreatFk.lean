/- The model of FlatDoes. -/
import Derived.Test.YtpbbnoggkbfkoaaGreatFj
namespace Go.Proofs.YtpbbnoggkbfkoaaGreat
open Go Go.Ev Go.Proofs
set_option linter.unusedVariables false
noncomputable def l16does_l0 (x : (((List I3) × ((List I2) × ((List I3) × (List I9)))) × ((Int × (Int × (List Int))) × (Int × (((List Int) × ((List I6) × I2)) × (I2 × Int)))))) : LoopD := ⟨[], ⟨pvs 165 0 [(9, .v (.one (.ptr 0 0))), (13, .v (.one (.ptr 3 0))), (18, .v (.one (.full 6))), (32, .v (.one (.b))), (33, .v (.one (.i .i64)))], [.cells [.full 1, .full 2, .i .i64, .i .i64] 32, .row yi 0, .row yy6 0, .cells [.full 4, .full 5, .i .i64, .i .i64] 32, .row yi 2, .row yy6 2, .row yy6 2], 0, none, [], [2, 3, 4, 5], [8, 9, 6, 7, 10, 0, 1], [(.l yi), (.l yy6), .i, .i, (.l yy6), .b, .i], [.i x.2.2.2.1.2.2.1, .i x.2.2.2.1.2.2.2, .l yi x.2.2.2.1.1, .l yy6 x.2.2.2.1.2.1]⟩, [⟨(.exit 0), .normal, ⟨pvs 165 0 [(9, .v (.one (.ptr 0 0))), (13, .v (.one (.ptr 3 0))), (32, .v (.one (.b)))], [.cells [.full 1, .full 2, .i .i64, .i .i64] 32, .row yi 0, .row yy6 0, .cells [.full 4, .full 5, .i .i64, .i .i64] 32, .row yi 2, .row yy6 2], 0, none, [], [1, 2, 3, 4], [7, 8, 5, 6, 0], [(.l yi), (.l yy6), .i, .i, .b], [.i x.2.2.2.1.2.2.1, .i x.2.2.2.1.2.2.2, .l yi x.2.2.2.1.1, .l yy6 x.2.2.2.1.2.1]⟩⟩]⟩
noncomputable def l16does_l0_step (x : (((List I3) × ((List I2) × ((List I3) × (List I9)))) × ((Int × (Int × (List Int))) × (Int × (((List Int) × ((List I6) × I2)) × (I2 × Int)))))) (s : ((List Int) × ((List I6) × (Int × (Int × ((List I6) × (Bool × Int))))))) : ((List Int) × ((List I6) × (Int × (Int × ((List I6) × (Bool × Int)))))) ⊕ ((List Int) × ((List I6) × (Int × (Int × Bool)))) :=
 (if (s.2.2.2.2.2.2 < (((List.length s.2.2.2.2.1) : Nat) : Int)) then
 (letV (List.set s.2.2.2.2.1 (Int.toNat s.2.2.2.2.2.2) (((77 : Int), (List.getD s.2.2.2.2.1 (Int.toNat s.2.2.2.2.2.2) (((0 : Int), (0 : Int)), (((0 : Int), (0 : Int)), ((0 : Int), (0 : Int))))).1.2), (List.getD s.2.2.2.2.1 (Int.toNat s.2.2.2.2.2.2) (((0 : Int), (0 : Int)), (((0 : Int), (0 : Int)), ((0 : Int), (0 : Int))))).2)) fun y =>
 (Sum.inl (s.1, (s.2.1, (s.2.2.1, (s.2.2.2.1, (y, (s.2.2.2.2.2.1, (w64 (s.2.2.2.2.2.2 + (1 : Int))))))))))) else
 (Sum.inr ((s.1, (s.2.1, (s.2.2.1, (s.2.2.2.1, s.2.2.2.2.2.1)))))))
noncomputable def l16does_l0_pre (x : (((List I3) × ((List I2) × ((List I3) × (List I9)))) × ((Int × (Int × (List Int))) × (Int × (((List Int) × ((List I6) × I2)) × (I2 × Int)))))) (s : ((List Int) × ((List I6) × (Int × (Int × ((List I6) × (Bool × Int))))))) : Prop :=
 ((s.2.2.2.2.2.2 < (((List.length s.2.2.2.2.1) : Nat) : Int)) →
 ((((0 : Int) ≤ s.2.2.2.2.2.2) ∧ (s.2.2.2.2.2.2 < (((List.length s.2.2.2.2.1) : Nat) : Int))) ∧
 (((Int.toNat s.2.2.2.2.2.2) < (List.length s.2.2.2.2.1)) ∧
 (((Int.toNat s.2.2.2.2.2.2) < (List.length s.2.2.2.2.1)) ∧
 (((Int.toNat s.2.2.2.2.2.2) < (List.length s.2.2.2.2.1)) ∧
 ((Int.toNat s.2.2.2.2.2.2) < (List.length s.2.2.2.2.1)))))))
noncomputable def l16does_l0_t (x : (((List I3) × ((List I2) × ((List I3) × (List I9)))) × ((Int × (Int × (List Int))) × (Int × (((List Int) × ((List I6) × I2)) × (I2 × Int)))))) (s : ((List Int) × ((List I6) × (Int × (Int × ((List I6) × (Bool × Int))))))) : Tr (((List Int) × ((List I6) × (Int × (Int × ((List I6) × (Bool × Int)))))) ⊕ ((List Int) × ((List I6) × (Int × (Int × Bool))))) true :=
 (.i10 (s.2.2.2.2.2.2 < (((List.length s.2.2.2.2.1) : Nat) : Int))
 (.oR s.2.2.2.2.2.2 (((List.length s.2.2.2.2.1) : Nat) : Int)
 (.od ((Int.toNat s.2.2.2.2.2.2) < (List.length s.2.2.2.2.1))
 (.od ((Int.toNat s.2.2.2.2.2.2) < (List.length s.2.2.2.2.1))
 (.od ((Int.toNat s.2.2.2.2.2.2) < (List.length s.2.2.2.2.1))
 (.od ((Int.toNat s.2.2.2.2.2.2) < (List.length s.2.2.2.2.1))
 (.lt (List.set s.2.2.2.2.1 (Int.toNat s.2.2.2.2.2.2) (((77 : Int), (List.getD s.2.2.2.2.1 (Int.toNat s.2.2.2.2.2.2) zz6).1.2), (List.getD s.2.2.2.2.1 (Int.toNat s.2.2.2.2.2.2) zz6).2)) fun y =>
 (.ret (.inl (s.1, (s.2.1, (s.2.2.1, (s.2.2.2.1, (y, (s.2.2.2.2.2.1, (w64 (s.2.2.2.2.2.2 + (1 : Int)))))))))))))))))
 (.ret (.inr ((s.1, (s.2.1, (s.2.2.1, (s.2.2.2.1, s.2.2.2.2.2.1))))))))
noncomputable def l16does (x : (((List I3) × ((List I2) × ((List I3) × (List I9)))) × ((Int × (Int × (List Int))) × (Int × (((List Int) × ((List I6) × I2)) × (I2 × Int)))))) : Bool :=
 (letV (r15few (x.1, [x.2.1])) fun y =>
 (if ((!y) = true) then
 true else
 (letV (r16big x.2.2.2.1) fun y_1 =>
 (if (y_1 = true) then
 true else
 (letV (r16own x.2.2.2.1) fun y_2 =>
 (letV (flay (x.1, (x.2.1, x.2.2.1))) fun y_3 =>
 (letV (r16lay (x.1, (x.2.1, x.2.2.1))) fun y_4 =>
 (letV (fmove (x.2.2.2.1, x.2.2.2.2.1)) fun y_5 =>
 (letV (r16move (y_2, x.2.2.2.2.1)) fun y_6 =>
 (letV (fbox x.2.2.2.1.2.1) fun y_7 =>
 (letV (r16box y_2.2.1) fun y_8 =>
 (letV (fsize x.2.2.2.2.2) fun y_9 =>
 (letV (r16size x.2.2.2.2.2) fun y_10 =>
 (letV (r16same (y_3.1, y_4.1)) fun y_11 =>
 (if (y_11 = true) then
 (if ((y_3.2 == y_4.2) = true) then
 (letV (r16sametris (y_5.1, y_6.1)) fun y_12 =>
 (if (y_12 = true) then
 (if ((y_5.2 == y_6.2) = true) then
 (if (((y_7.1.1 == y_8.1.1) && ((y_7.1.2 == y_8.1.2) && true)) = true) then
 (if (((y_7.2.1.1 == y_8.2.1.1) && ((y_7.2.1.2 == y_8.2.1.2) && true)) = true) then
 (if ((y_7.2.2 == y_8.2.2) = true) then
 (if ((y_9.1 == y_10.1) = true) then
 (letV (run (l16does_l0_step x) (y_2.1, (y_2.2.1, (y_2.2.2.1, (y_2.2.2.2, (y_5.1, ((y_9.2 == y_10.2), (0 : Int)))))))) fun r =>
 (letV (l16laid false) fun y_13 =>
 (if (y_13 = true) then
 (if (r.2.2.2.2 = true) then
 (letV (fis x.2.2.2.1) fun y_14 =>
 (letV (r16is (r.1, (r.2.1, (r.2.2.1, r.2.2.2.1)))) fun y_15 =>
 (if ((y_14 == y_15) = true) then
 (letV (r16same (x.2.2.2.1, (r.1, (r.2.1, (r.2.2.1, r.2.2.2.1))))) fun y_16 =>
 y_16) else
 false))) else
 false) else
 false))) else
 (letV (run (l16does_l0_step x) (y_2.1, (y_2.2.1, (y_2.2.2.1, (y_2.2.2.2, (y_5.1, (false, (0 : Int)))))))) fun r =>
 (letV (l16laid false) fun y_13 =>
 (if (y_13 = true) then
 (if (r.2.2.2.2 = true) then
 (letV (fis x.2.2.2.1) fun y_14 =>
 (letV (r16is (r.1, (r.2.1, (r.2.2.1, r.2.2.2.1)))) fun y_15 =>
 (if ((y_14 == y_15) = true) then
 (letV (r16same (x.2.2.2.1, (r.1, (r.2.1, (r.2.2.1, r.2.2.2.1))))) fun y_16 =>
 y_16) else
 false))) else
 false) else
 false)))) else
 (letV (run (l16does_l0_step x) (y_2.1, (y_2.2.1, (y_2.2.2.1, (y_2.2.2.2, (y_5.1, (false, (0 : Int)))))))) fun r =>
 (letV (l16laid false) fun y_13 =>
 (if (y_13 = true) then
 (if (r.2.2.2.2 = true) then
 (letV (fis x.2.2.2.1) fun y_14 =>
 (letV (r16is (r.1, (r.2.1, (r.2.2.1, r.2.2.2.1)))) fun y_15 =>
 (if ((y_14 == y_15) = true) then
 (letV (r16same (x.2.2.2.1, (r.1, (r.2.1, (r.2.2.1, r.2.2.2.1))))) fun y_16 =>
 y_16) else
 false))) else
 false) else
 false)))) else
 (letV (run (l16does_l0_step x) (y_2.1, (y_2.2.1, (y_2.2.2.1, (y_2.2.2.2, (y_5.1, (false, (0 : Int)))))))) fun r =>
 (letV (l16laid false) fun y_13 =>
 (if (y_13 = true) then
 (if (r.2.2.2.2 = true) then
 (letV (fis x.2.2.2.1) fun y_14 =>
 (letV (r16is (r.1, (r.2.1, (r.2.2.1, r.2.2.2.1)))) fun y_15 =>
 (if ((y_14 == y_15) = true) then
 (letV (r16same (x.2.2.2.1, (r.1, (r.2.1, (r.2.2.1, r.2.2.2.1))))) fun y_16 =>
 y_16) else
 false))) else
 false) else
 false)))) else
 (letV (run (l16does_l0_step x) (y_2.1, (y_2.2.1, (y_2.2.2.1, (y_2.2.2.2, (y_5.1, (false, (0 : Int)))))))) fun r =>
 (letV (l16laid false) fun y_13 =>
 (if (y_13 = true) then
 (if (r.2.2.2.2 = true) then
 (letV (fis x.2.2.2.1) fun y_14 =>
 (letV (r16is (r.1, (r.2.1, (r.2.2.1, r.2.2.2.1)))) fun y_15 =>
 (if ((y_14 == y_15) = true) then
 (letV (r16same (x.2.2.2.1, (r.1, (r.2.1, (r.2.2.1, r.2.2.2.1))))) fun y_16 =>
 y_16) else
 false))) else
 false) else
 false)))) else
 (letV (run (l16does_l0_step x) (y_2.1, (y_2.2.1, (y_2.2.2.1, (y_2.2.2.2, (y_5.1, (false, (0 : Int)))))))) fun r =>
 (letV (l16laid false) fun y_13 =>
 (if (y_13 = true) then
 (if (r.2.2.2.2 = true) then
 (letV (fis x.2.2.2.1) fun y_14 =>
 (letV (r16is (r.1, (r.2.1, (r.2.2.1, r.2.2.2.1)))) fun y_15 =>
 (if ((y_14 == y_15) = true) then
 (letV (r16same (x.2.2.2.1, (r.1, (r.2.1, (r.2.2.1, r.2.2.2.1))))) fun y_16 =>
 y_16) else
 false))) else
 false) else
 false)))) else
 (letV (run (l16does_l0_step x) (y_2.1, (y_2.2.1, (y_2.2.2.1, (y_2.2.2.2, (y_5.1, (false, (0 : Int)))))))) fun r =>
 (letV (l16laid false) fun y_13 =>
 (if (y_13 = true) then
 (if (r.2.2.2.2 = true) then
 (letV (fis x.2.2.2.1) fun y_14 =>
 (letV (r16is (r.1, (r.2.1, (r.2.2.1, r.2.2.2.1)))) fun y_15 =>
 (if ((y_14 == y_15) = true) then
 (letV (r16same (x.2.2.2.1, (r.1, (r.2.1, (r.2.2.1, r.2.2.2.1))))) fun y_16 =>
 y_16) else
 false))) else
 false) else
 false))))) else
 (letV (run (l16does_l0_step x) (y_2.1, (y_2.2.1, (y_2.2.2.1, (y_2.2.2.2, (y_5.1, (false, (0 : Int)))))))) fun r =>
 (letV (l16laid false) fun y_12 =>
 (if (y_12 = true) then
 (if (r.2.2.2.2 = true) then
 (letV (fis x.2.2.2.1) fun y_13 =>
 (letV (r16is (r.1, (r.2.1, (r.2.2.1, r.2.2.2.1)))) fun y_14 =>
 (if ((y_13 == y_14) = true) then
 (letV (r16same (x.2.2.2.1, (r.1, (r.2.1, (r.2.2.1, r.2.2.2.1))))) fun y_15 =>
 y_15) else
 false))) else
 false) else
 false)))) else
 (letV (run (l16does_l0_step x) (y_2.1, (y_2.2.1, (y_2.2.2.1, (y_2.2.2.2, (y_5.1, (false, (0 : Int)))))))) fun r =>
 (letV (l16laid false) fun y_12 =>
 (if (y_12 = true) then
 (if (r.2.2.2.2 = true) then
 (letV (fis x.2.2.2.1) fun y_13 =>
 (letV (r16is (r.1, (r.2.1, (r.2.2.1, r.2.2.2.1)))) fun y_14 =>
 (if ((y_13 == y_14) = true) then
 (letV (r16same (x.2.2.2.1, (r.1, (r.2.1, (r.2.2.1, r.2.2.2.1))))) fun y_15 =>
 y_15) else
 false))) else
 false) else
 false))))))))))))))))))
noncomputable def l16does_pre (x : (((List I3) × ((List I2) × ((List I3) × (List I9)))) × ((Int × (Int × (List Int))) × (Int × (((List Int) × ((List I6) × I2)) × (I2 × Int)))))) : Prop :=
 ((r15few_pre (x.1, [x.2.1])) ∧
 letP (r15few (x.1, [x.2.1])) fun y =>
 (¬ ((!y) = true) →
 (letP (r16big x.2.2.2.1) fun y_1 =>
 (¬ (y_1 = true) →
 ((r16own_pre x.2.2.2.1) ∧
 letP (r16own x.2.2.2.1) fun y_2 =>
 ((flay_pre (x.1, (x.2.1, x.2.2.1))) ∧
 letP (flay (x.1, (x.2.1, x.2.2.1))) fun y_3 =>
 ((r16lay_pre (x.1, (x.2.1, x.2.2.1))) ∧
 letP (r16lay (x.1, (x.2.1, x.2.2.1))) fun y_4 =>
 ((fmove_pre (x.2.2.2.1, x.2.2.2.2.1)) ∧
 letP (fmove (x.2.2.2.1, x.2.2.2.2.1)) fun y_5 =>
 ((r16move_pre (y_2, x.2.2.2.2.1)) ∧
 letP (r16move (y_2, x.2.2.2.2.1)) fun y_6 =>
 ((fbox_pre x.2.2.2.1.2.1) ∧
 letP (fbox x.2.2.2.1.2.1) fun y_7 =>
 ((r16box_pre y_2.2.1) ∧
 letP (r16box y_2.2.1) fun y_8 =>
 (letP (fsize x.2.2.2.2.2) fun y_9 =>
 (letP (r16size x.2.2.2.2.2) fun y_10 =>
 ((r16same_pre (y_3.1, y_4.1)) ∧
 letP (r16same (y_3.1, y_4.1)) fun y_11 =>
 (((y_11 = true) →
 ((((y_3.2 == y_4.2) = true) →
 ((r16sametris_pre (y_5.1, y_6.1)) ∧
 letP (r16sametris (y_5.1, y_6.1)) fun y_12 =>
 (((y_12 = true) →
 ((((y_5.2 == y_6.2) = true) →
 (((((y_7.1.1 == y_8.1.1) && ((y_7.1.2 == y_8.1.2) && true)) = true) →
 (((((y_7.2.1.1 == y_8.2.1.1) && ((y_7.2.1.2 == y_8.2.1.2) && true)) = true) →
 ((((y_7.2.2 == y_8.2.2) = true) →
 ((((y_9.1 == y_10.1) = true) →
 (Term (l16does_l0_step x) (l16does_l0_pre x) (y_2.1, (y_2.2.1, (y_2.2.2.1, (y_2.2.2.2, (y_5.1, ((y_9.2 == y_10.2), (0 : Int))))))) ∧
 letP (run (l16does_l0_step x) (y_2.1, (y_2.2.1, (y_2.2.2.1, (y_2.2.2.2, (y_5.1, ((y_9.2 == y_10.2), (0 : Int)))))))) fun r =>
 ((l16laid_pre false) ∧
 letP (l16laid false) fun y_13 =>
 ((y_13 = true) →
 ((r.2.2.2.2 = true) →
 ((fis_pre x.2.2.2.1) ∧
 letP (fis x.2.2.2.1) fun y_14 =>
 ((r16is_pre (r.1, (r.2.1, (r.2.2.1, r.2.2.2.1)))) ∧
 letP (r16is (r.1, (r.2.1, (r.2.2.1, r.2.2.2.1)))) fun y_15 =>
 (((y_14 == y_15) = true) →
 (r16same_pre (x.2.2.2.1, (r.1, (r.2.1, (r.2.2.1, r.2.2.2.1))))))))))))) ∧
 (¬ ((y_9.1 == y_10.1) = true) →
 (Term (l16does_l0_step x) (l16does_l0_pre x) (y_2.1, (y_2.2.1, (y_2.2.2.1, (y_2.2.2.2, (y_5.1, (false, (0 : Int))))))) ∧
 letP (run (l16does_l0_step x) (y_2.1, (y_2.2.1, (y_2.2.2.1, (y_2.2.2.2, (y_5.1, (false, (0 : Int)))))))) fun r =>
 ((l16laid_pre false) ∧
 letP (l16laid false) fun y_13 =>
 ((y_13 = true) →
 ((r.2.2.2.2 = true) →
 ((fis_pre x.2.2.2.1) ∧
 letP (fis x.2.2.2.1) fun y_14 =>
 ((r16is_pre (r.1, (r.2.1, (r.2.2.1, r.2.2.2.1)))) ∧
 letP (r16is (r.1, (r.2.1, (r.2.2.1, r.2.2.2.1)))) fun y_15 =>
 (((y_14 == y_15) = true) →
 (r16same_pre (x.2.2.2.1, (r.1, (r.2.1, (r.2.2.1, r.2.2.2.1))))))))))))))) ∧
 (¬ ((y_7.2.2 == y_8.2.2) = true) →
 (Term (l16does_l0_step x) (l16does_l0_pre x) (y_2.1, (y_2.2.1, (y_2.2.2.1, (y_2.2.2.2, (y_5.1, (false, (0 : Int))))))) ∧
 letP (run (l16does_l0_step x) (y_2.1, (y_2.2.1, (y_2.2.2.1, (y_2.2.2.2, (y_5.1, (false, (0 : Int)))))))) fun r =>
 ((l16laid_pre false) ∧
 letP (l16laid false) fun y_13 =>
 ((y_13 = true) →
 ((r.2.2.2.2 = true) →
 ((fis_pre x.2.2.2.1) ∧
 letP (fis x.2.2.2.1) fun y_14 =>
 ((r16is_pre (r.1, (r.2.1, (r.2.2.1, r.2.2.2.1)))) ∧
 letP (r16is (r.1, (r.2.1, (r.2.2.1, r.2.2.2.1)))) fun y_15 =>
 (((y_14 == y_15) = true) →
 (r16same_pre (x.2.2.2.1, (r.1, (r.2.1, (r.2.2.1, r.2.2.2.1))))))))))))))) ∧
 (¬ (((y_7.2.1.1 == y_8.2.1.1) && ((y_7.2.1.2 == y_8.2.1.2) && true)) = true) →
 (Term (l16does_l0_step x) (l16does_l0_pre x) (y_2.1, (y_2.2.1, (y_2.2.2.1, (y_2.2.2.2, (y_5.1, (false, (0 : Int))))))) ∧
 letP (run (l16does_l0_step x) (y_2.1, (y_2.2.1, (y_2.2.2.1, (y_2.2.2.2, (y_5.1, (false, (0 : Int)))))))) fun r =>
 ((l16laid_pre false) ∧
 letP (l16laid false) fun y_13 =>
 ((y_13 = true) →
 ((r.2.2.2.2 = true) →
 ((fis_pre x.2.2.2.1) ∧
 letP (fis x.2.2.2.1) fun y_14 =>
 ((r16is_pre (r.1, (r.2.1, (r.2.2.1, r.2.2.2.1)))) ∧
 letP (r16is (r.1, (r.2.1, (r.2.2.1, r.2.2.2.1)))) fun y_15 =>
 (((y_14 == y_15) = true) →
 (r16same_pre (x.2.2.2.1, (r.1, (r.2.1, (r.2.2.1, r.2.2.2.1))))))))))))))) ∧
 (¬ (((y_7.1.1 == y_8.1.1) && ((y_7.1.2 == y_8.1.2) && true)) = true) →
 (Term (l16does_l0_step x) (l16does_l0_pre x) (y_2.1, (y_2.2.1, (y_2.2.2.1, (y_2.2.2.2, (y_5.1, (false, (0 : Int))))))) ∧
 letP (run (l16does_l0_step x) (y_2.1, (y_2.2.1, (y_2.2.2.1, (y_2.2.2.2, (y_5.1, (false, (0 : Int)))))))) fun r =>
 ((l16laid_pre false) ∧
 letP (l16laid false) fun y_13 =>
 ((y_13 = true) →
 ((r.2.2.2.2 = true) →
 ((fis_pre x.2.2.2.1) ∧
 letP (fis x.2.2.2.1) fun y_14 =>
 ((r16is_pre (r.1, (r.2.1, (r.2.2.1, r.2.2.2.1)))) ∧
 letP (r16is (r.1, (r.2.1, (r.2.2.1, r.2.2.2.1)))) fun y_15 =>
 (((y_14 == y_15) = true) →
 (r16same_pre (x.2.2.2.1, (r.1, (r.2.1, (r.2.2.1, r.2.2.2.1))))))))))))))) ∧
 (¬ ((y_5.2 == y_6.2) = true) →
 (Term (l16does_l0_step x) (l16does_l0_pre x) (y_2.1, (y_2.2.1, (y_2.2.2.1, (y_2.2.2.2, (y_5.1, (false, (0 : Int))))))) ∧
 letP (run (l16does_l0_step x) (y_2.1, (y_2.2.1, (y_2.2.2.1, (y_2.2.2.2, (y_5.1, (false, (0 : Int)))))))) fun r =>
 ((l16laid_pre false) ∧
 letP (l16laid false) fun y_13 =>
 ((y_13 = true) →
 ((r.2.2.2.2 = true) →
 ((fis_pre x.2.2.2.1) ∧
 letP (fis x.2.2.2.1) fun y_14 =>
 ((r16is_pre (r.1, (r.2.1, (r.2.2.1, r.2.2.2.1)))) ∧
 letP (r16is (r.1, (r.2.1, (r.2.2.1, r.2.2.2.1)))) fun y_15 =>
 (((y_14 == y_15) = true) →
 (r16same_pre (x.2.2.2.1, (r.1, (r.2.1, (r.2.2.1, r.2.2.2.1))))))))))))))) ∧
 (¬ (y_12 = true) →
 (Term (l16does_l0_step x) (l16does_l0_pre x) (y_2.1, (y_2.2.1, (y_2.2.2.1, (y_2.2.2.2, (y_5.1, (false, (0 : Int))))))) ∧
 letP (run (l16does_l0_step x) (y_2.1, (y_2.2.1, (y_2.2.2.1, (y_2.2.2.2, (y_5.1, (false, (0 : Int)))))))) fun r =>
 ((l16laid_pre false) ∧
 letP (l16laid false) fun y_13 =>
 ((y_13 = true) →
 ((r.2.2.2.2 = true) →
 ((fis_pre x.2.2.2.1) ∧
 letP (fis x.2.2.2.1) fun y_14 =>
 ((r16is_pre (r.1, (r.2.1, (r.2.2.1, r.2.2.2.1)))) ∧
 letP (r16is (r.1, (r.2.1, (r.2.2.1, r.2.2.2.1)))) fun y_15 =>
 (((y_14 == y_15) = true) →
 (r16same_pre (x.2.2.2.1, (r.1, (r.2.1, (r.2.2.1, r.2.2.2.1)))))))))))))))) ∧
 (¬ ((y_3.2 == y_4.2) = true) →
 (Term (l16does_l0_step x) (l16does_l0_pre x) (y_2.1, (y_2.2.1, (y_2.2.2.1, (y_2.2.2.2, (y_5.1, (false, (0 : Int))))))) ∧
 letP (run (l16does_l0_step x) (y_2.1, (y_2.2.1, (y_2.2.2.1, (y_2.2.2.2, (y_5.1, (false, (0 : Int)))))))) fun r =>
 ((l16laid_pre false) ∧
 letP (l16laid false) fun y_12 =>
 ((y_12 = true) →
 ((r.2.2.2.2 = true) →
 ((fis_pre x.2.2.2.1) ∧
 letP (fis x.2.2.2.1) fun y_13 =>
 ((r16is_pre (r.1, (r.2.1, (r.2.2.1, r.2.2.2.1)))) ∧
 letP (r16is (r.1, (r.2.1, (r.2.2.1, r.2.2.2.1)))) fun y_14 =>
 (((y_13 == y_14) = true) →
 (r16same_pre (x.2.2.2.1, (r.1, (r.2.1, (r.2.2.1, r.2.2.2.1))))))))))))))) ∧
 (¬ (y_11 = true) →
 (Term (l16does_l0_step x) (l16does_l0_pre x) (y_2.1, (y_2.2.1, (y_2.2.2.1, (y_2.2.2.2, (y_5.1, (false, (0 : Int))))))) ∧
 letP (run (l16does_l0_step x) (y_2.1, (y_2.2.1, (y_2.2.2.1, (y_2.2.2.2, (y_5.1, (false, (0 : Int)))))))) fun r =>
 ((l16laid_pre false) ∧
 letP (l16laid false) fun y_12 =>
 ((y_12 = true) →
 ((r.2.2.2.2 = true) →
 ((fis_pre x.2.2.2.1) ∧
 letP (fis x.2.2.2.1) fun y_13 =>
 ((r16is_pre (r.1, (r.2.1, (r.2.2.1, r.2.2.2.1)))) ∧
 letP (r16is (r.1, (r.2.1, (r.2.2.1, r.2.2.2.1)))) fun y_14 =>
 (((y_13 == y_14) = true) →
 (r16same_pre (x.2.2.2.1, (r.1, (r.2.1, (r.2.2.1, r.2.2.2.1))))))))))))))))))))))))))))
noncomputable def l16does_t (x : (((List I3) × ((List I2) × ((List I3) × (List I9)))) × ((Int × (Int × (List Int))) × (Int × (((List Int) × ((List I6) × I2)) × (I2 × Int)))))) : Tr Bool true :=
 (.fn r15few_S (x.1, [x.2.1]) fun y =>
 (.b01 (!y)
 (.ret true)
 (.fn0 r16big_S x.2.2.2.1 trivial fun y_1 =>
 (.b01 y_1
 (.ret true)
 (.fn r16own_S x.2.2.2.1 fun y_2 =>
 (.fn flay_S (x.1, (x.2.1, x.2.2.1)) fun y_3 =>
 (.fn r16lay_S (x.1, (x.2.1, x.2.2.1)) fun y_4 =>
 (.fn fmove_S (x.2.2.2.1, x.2.2.2.2.1) fun y_5 =>
 (.fn r16move_S (y_2, x.2.2.2.2.1) fun y_6 =>
 (.fn fbox_S x.2.2.2.1.2.1 fun y_7 =>
 (.fn r16box_S y_2.2.1 fun y_8 =>
 (.fn0 fsize_S x.2.2.2.2.2 trivial fun y_9 =>
 (.fn0 r16size_S x.2.2.2.2.2 trivial fun y_10 =>
 (.fn r16same_S (y_3.1, y_4.1) fun y_11 =>
 (.b11 y_11
 (.b11 (y_3.2 == y_4.2)
 (.fn r16sametris_S (y_5.1, y_6.1) fun y_12 =>
 (.b11 y_12
 (.b11 (y_5.2 == y_6.2)
 (.b11 ((y_7.1.1 == y_8.1.1) && ((y_7.1.2 == y_8.1.2) && true))
 (.b11 ((y_7.2.1.1 == y_8.2.1.1) && ((y_7.2.1.2 == y_8.2.1.2) && true))
 (.b11 (y_7.2.2 == y_8.2.2)
 (.b11 (y_9.1 == y_10.1)
 (LoopD.lp (l16does_l0 x) (l16does_l0_t x) (y_2.1, (y_2.2.1, (y_2.2.2.1, (y_2.2.2.2, (y_5.1, ((y_9.2 == y_10.2), (0 : Int))))))) fun r =>
 (.fn l16laid_S false fun y_13 =>
 (.b10 y_13
 (.b10 r.2.2.2.2
 (.fn fis_S x.2.2.2.1 fun y_14 =>
 (.fn r16is_S (r.1, (r.2.1, (r.2.2.1, r.2.2.2.1))) fun y_15 =>
 (.b10 (y_14 == y_15)
 (.fn r16same_S (x.2.2.2.1, (r.1, (r.2.1, (r.2.2.1, r.2.2.2.1)))) fun y_16 =>
 (.ret y_16))
 (.ret false))))
 (.ret false))
 (.ret false))))
 (LoopD.lp (l16does_l0 x) (l16does_l0_t x) (y_2.1, (y_2.2.1, (y_2.2.2.1, (y_2.2.2.2, (y_5.1, (false, (0 : Int))))))) fun r =>
 (.fn l16laid_S false fun y_13 =>
 (.b10 y_13
 (.b10 r.2.2.2.2
 (.fn fis_S x.2.2.2.1 fun y_14 =>
 (.fn r16is_S (r.1, (r.2.1, (r.2.2.1, r.2.2.2.1))) fun y_15 =>
 (.b10 (y_14 == y_15)
 (.fn r16same_S (x.2.2.2.1, (r.1, (r.2.1, (r.2.2.1, r.2.2.2.1)))) fun y_16 =>
 (.ret y_16))
 (.ret false))))
 (.ret false))
 (.ret false)))))
 (LoopD.lp (l16does_l0 x) (l16does_l0_t x) (y_2.1, (y_2.2.1, (y_2.2.2.1, (y_2.2.2.2, (y_5.1, (false, (0 : Int))))))) fun r =>
 (.fn l16laid_S false fun y_13 =>
 (.b10 y_13
 (.b10 r.2.2.2.2
 (.fn fis_S x.2.2.2.1 fun y_14 =>
 (.fn r16is_S (r.1, (r.2.1, (r.2.2.1, r.2.2.2.1))) fun y_15 =>
 (.b10 (y_14 == y_15)
 (.fn r16same_S (x.2.2.2.1, (r.1, (r.2.1, (r.2.2.1, r.2.2.2.1)))) fun y_16 =>
 (.ret y_16))
 (.ret false))))
 (.ret false))
 (.ret false)))))
 (LoopD.lp (l16does_l0 x) (l16does_l0_t x) (y_2.1, (y_2.2.1, (y_2.2.2.1, (y_2.2.2.2, (y_5.1, (false, (0 : Int))))))) fun r =>
 (.fn l16laid_S false fun y_13 =>
 (.b10 y_13
 (.b10 r.2.2.2.2
 (.fn fis_S x.2.2.2.1 fun y_14 =>
 (.fn r16is_S (r.1, (r.2.1, (r.2.2.1, r.2.2.2.1))) fun y_15 =>
 (.b10 (y_14 == y_15)
 (.fn r16same_S (x.2.2.2.1, (r.1, (r.2.1, (r.2.2.1, r.2.2.2.1)))) fun y_16 =>
 (.ret y_16))
 (.ret false))))
 (.ret false))
 (.ret false)))))
 (LoopD.lp (l16does_l0 x) (l16does_l0_t x) (y_2.1, (y_2.2.1, (y_2.2.2.1, (y_2.2.2.2, (y_5.1, (false, (0 : Int))))))) fun r =>
 (.fn l16laid_S false fun y_13 =>
 (.b10 y_13
 (.b10 r.2.2.2.2
 (.fn fis_S x.2.2.2.1 fun y_14 =>
 (.fn r16is_S (r.1, (r.2.1, (r.2.2.1, r.2.2.2.1))) fun y_15 =>
 (.b10 (y_14 == y_15)
 (.fn r16same_S (x.2.2.2.1, (r.1, (r.2.1, (r.2.2.1, r.2.2.2.1)))) fun y_16 =>
 (.ret y_16))
 (.ret false))))
 (.ret false))
 (.ret false)))))
 (LoopD.lp (l16does_l0 x) (l16does_l0_t x) (y_2.1, (y_2.2.1, (y_2.2.2.1, (y_2.2.2.2, (y_5.1, (false, (0 : Int))))))) fun r =>
 (.fn l16laid_S false fun y_13 =>
 (.b10 y_13
 (.b10 r.2.2.2.2
 (.fn fis_S x.2.2.2.1 fun y_14 =>
 (.fn r16is_S (r.1, (r.2.1, (r.2.2.1, r.2.2.2.1))) fun y_15 =>
 (.b10 (y_14 == y_15)
 (.fn r16same_S (x.2.2.2.1, (r.1, (r.2.1, (r.2.2.1, r.2.2.2.1)))) fun y_16 =>
 (.ret y_16))
 (.ret false))))
 (.ret false))
 (.ret false)))))
 (LoopD.lp (l16does_l0 x) (l16does_l0_t x) (y_2.1, (y_2.2.1, (y_2.2.2.1, (y_2.2.2.2, (y_5.1, (false, (0 : Int))))))) fun r =>
 (.fn l16laid_S false fun y_13 =>
 (.b10 y_13
 (.b10 r.2.2.2.2
 (.fn fis_S x.2.2.2.1 fun y_14 =>
 (.fn r16is_S (r.1, (r.2.1, (r.2.2.1, r.2.2.2.1))) fun y_15 =>
 (.b10 (y_14 == y_15)
 (.fn r16same_S (x.2.2.2.1, (r.1, (r.2.1, (r.2.2.1, r.2.2.2.1)))) fun y_16 =>
 (.ret y_16))
 (.ret false))))
 (.ret false))
 (.ret false))))))
 (LoopD.lp (l16does_l0 x) (l16does_l0_t x) (y_2.1, (y_2.2.1, (y_2.2.2.1, (y_2.2.2.2, (y_5.1, (false, (0 : Int))))))) fun r =>
 (.fn l16laid_S false fun y_12 =>
 (.b10 y_12
 (.b10 r.2.2.2.2
 (.fn fis_S x.2.2.2.1 fun y_13 =>
 (.fn r16is_S (r.1, (r.2.1, (r.2.2.1, r.2.2.2.1))) fun y_14 =>
 (.b10 (y_13 == y_14)
 (.fn r16same_S (x.2.2.2.1, (r.1, (r.2.1, (r.2.2.1, r.2.2.2.1)))) fun y_15 =>
 (.ret y_15))
 (.ret false))))
 (.ret false))
 (.ret false)))))
 (LoopD.lp (l16does_l0 x) (l16does_l0_t x) (y_2.1, (y_2.2.1, (y_2.2.2.1, (y_2.2.2.2, (y_5.1, (false, (0 : Int))))))) fun r =>
 (.fn l16laid_S false fun y_12 =>
 (.b10 y_12
 (.b10 r.2.2.2.2
 (.fn fis_S x.2.2.2.1 fun y_13 =>
 (.fn r16is_S (r.1, (r.2.1, (r.2.2.1, r.2.2.2.1))) fun y_14 =>
 (.b10 (y_13 == y_14)
 (.fn r16same_S (x.2.2.2.1, (r.1, (r.2.1, (r.2.2.1, r.2.2.2.1)))) fun y_15 =>
 (.ret y_15))
 (.ret false))))
 (.ret false))
 (.ret false)))))))))))))))))))
noncomputable abbrev l16does_S : FnS := ⟨(.pair (.agg (Ty.prod (Ty.sl yy3) (Ty.prod (Ty.sl yy2) (Ty.prod (Ty.sl yy3) (Ty.sl yy9))))) (.pair (.agg (Ty.prod yi (Ty.prod yi (Ty.sl yi)))) (.pair (.one yi) (.pair (.agg (Ty.prod (Ty.sl yi) (Ty.prod (Ty.sl yy6) yy2))) (.pair (.agg yy2) (.one yi)))))), (.one Ty.bool), l16does_pre, l16does⟩
theorem l16does_ok : SpecOk Tryz.prog 3 (fnSpec l16does_S) := SpecOk.tr l16does_S l16does_t (fn := Tryz.f3) tt_ok sp_r16same_ok mixed (by kernel_rfl) (ItsOk.nil _ _) (fun x => (LpsOk.tr tt_ok (SpecsOk.ctxI sp_r16same_ok (ItsOk.nil _ _)) mixed 0 (l16does_l0 x) (l16does_l0_t x) LpsOk.nil (by kernel_rfl) fun g s Q => (by kernel_rfl))) (fun x => (by kernel_rfl)) fun x Q => (by kernel_rfl)
def sp_l16does : List (Nat × Ev.Spec) := (3, fnSpec l16does_S) :: sp_r16same
theorem sp_l16does_ok : SpecsOk Tryz.prog sp_l16does := SpecsOk.add (fn := Tryz.f3) (by kernel_rfl) l16does_ok sp_r16same_ok
end Go.Proofs.YtpbbnoggkbfkoaaGreat
