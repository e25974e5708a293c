/- Models of the law's functions. -/
import Derived.Test.YtojielnkfeoccaaGreatSa
namespace Go.Proofs.YtojielnkfeoccaaGreat
open Go Go.Ev Go.Proofs
set_option linter.unusedVariables false
noncomputable def leveled_i0 : ItsB Tryz.prog := ⟨_, (ItsOk.walk tt_ok sp_r1same_ok mixed 55 (fn := Tryz.f55) (by kernel_rfl) (ItsOk.nil _ _) fun ys hy => LpsOk.nil)⟩
noncomputable def leveled_i1 : ItsB Tryz.prog := ⟨_, (ItsOk.walk tt_ok sp_r1same_ok mixed 30 (fn := Tryz.f30) (by kernel_rfl) leveled_i0.ok fun ys hy => (LpsOk.unrollT tt_ok ⟨sp_r1same_ok, hy, leveled_i0.ok⟩ mixed 0 1 LpsOk.nil (by kernel_rfl)))⟩
noncomputable def leveled_i2 : ItsB Tryz.prog := ⟨_, (ItsOk.walk tt_ok sp_r1same_ok mixed 13 (fn := Tryz.f13) (by kernel_rfl) leveled_i1.ok fun ys hy => (LpsOk.unrollT tt_ok ⟨sp_r1same_ok, hy, leveled_i1.ok⟩ mixed 0 1 LpsOk.nil (by kernel_rfl)))⟩
noncomputable def leveled_i3 : ItsB Tryz.prog := ⟨_, (ItsOk.walk tt_ok sp_r1same_ok mixed 70 (fn := Tryz.f70) (by kernel_rfl) leveled_i2.ok fun ys hy => LpsOk.nil)⟩
noncomputable def leveled_i4 : ItsB Tryz.prog := ⟨_, (ItsOk.walk tt_ok sp_r1same_ok mixed 71 (fn := Tryz.f71) (by kernel_rfl) leveled_i3.ok fun ys hy => (LpsOk.unrollT tt_ok ⟨sp_r1same_ok, hy, leveled_i3.ok⟩ mixed 0 1 LpsOk.nil (by kernel_rfl)))⟩
noncomputable def leveled_i5 : ItsB Tryz.prog := ⟨_, (ItsOk.walk tt_ok sp_r1same_ok mixed 72 (fn := Tryz.f72) (by kernel_rfl) leveled_i4.ok fun ys hy => (LpsOk.unrollT tt_ok ⟨sp_r1same_ok, hy, leveled_i4.ok⟩ mixed 0 1 LpsOk.nil (by kernel_rfl)))⟩
noncomputable def leveled_i6 : ItsB Tryz.prog := ⟨_, (ItsOk.walk tt_ok sp_r1same_ok mixed 47 (fn := Tryz.f47) (by kernel_rfl) leveled_i5.ok fun ys hy => (LpsOk.unrollT tt_ok ⟨sp_r1same_ok, hy, leveled_i5.ok⟩ mixed 0 1 (LpsOk.unrollT tt_ok ⟨sp_r1same_ok, hy, leveled_i5.ok⟩ mixed 2 1 LpsOk.nil (by kernel_rfl)) (by kernel_rfl)))⟩
noncomputable def leveled_i7 : ItsB Tryz.prog := ⟨_, (ItsOk.walk tt_ok sp_r1same_ok mixed 91 (fn := Tryz.f91) (by kernel_rfl) leveled_i6.ok fun ys hy => (LpsOk.unrollT tt_ok ⟨sp_r1same_ok, hy, leveled_i6.ok⟩ mixed 0 1 LpsOk.nil (by kernel_rfl)))⟩
noncomputable def leveled_i8 : ItsB Tryz.prog := ⟨_, (ItsOk.walk tt_ok sp_r1same_ok mixed 67 (fn := Tryz.f67) (by kernel_rfl) leveled_i7.ok fun ys hy => LpsOk.nil)⟩
noncomputable def leveled_i9 : ItsB Tryz.prog := ⟨_, (ItsOk.walk tt_ok sp_r1same_ok mixed 39 (fn := Tryz.f39) (by kernel_rfl) leveled_i8.ok fun ys hy => LpsOk.nil)⟩
noncomputable def leveled_i10 : ItsB Tryz.prog := ⟨_, (ItsOk.walk tt_ok sp_r1same_ok mixed 25 (fn := Tryz.f25) (by kernel_rfl) leveled_i9.ok fun ys hy => (LpsOk.unrollT tt_ok ⟨sp_r1same_ok, hy, leveled_i9.ok⟩ mixed 0 1 (LpsOk.unrollT tt_ok ⟨sp_r1same_ok, hy, leveled_i9.ok⟩ mixed 2 1 LpsOk.nil (by kernel_rfl)) (by kernel_rfl)))⟩
noncomputable def leveled_i11 : ItsB Tryz.prog := ⟨_, (ItsOk.walk tt_ok sp_r1same_ok mixed 12 (fn := Tryz.f12) (by kernel_rfl) leveled_i10.ok fun ys hy => (LpsOk.unrollT tt_ok ⟨sp_r1same_ok, hy, leveled_i10.ok⟩ mixed 0 1 (LpsOk.unrollT tt_ok ⟨sp_r1same_ok, hy, leveled_i10.ok⟩ mixed 2 1 (LpsOk.unrollT tt_ok ⟨sp_r1same_ok, hy, leveled_i10.ok⟩ mixed 4 1 LpsOk.nil (by kernel_rfl)) (by kernel_rfl)) (by kernel_rfl)))⟩
noncomputable def leveled_i12 : ItsB Tryz.prog := ⟨_, (ItsOk.walk tt_ok sp_r1same_ok mixed 20 (fn := Tryz.f20) (by kernel_rfl) leveled_i11.ok fun ys hy => LpsOk.nil)⟩
noncomputable def leveled (x : Bool) : Bool :=
 (letV (level ((3 : Int), ([(10 : Int), (-1 : Int), (20 : Int), (5 : Int), (5 : Int), (5 : Int)], [(((0 : Int), (0 : Int)), ((2 : Int), (0 : Int))), (((0 : Int), (0 : Int)), ((1 : Int), (0 : Int)))]))) fun y =>
 (letV (level ((3 : Int), ([(10 : Int), (-1 : Int)], [(((0 : Int), (0 : Int)), ((2 : Int), (0 : Int))), (((0 : Int), (0 : Int)), ((1 : Int), (0 : Int)))]))) fun y_1 =>
 (letV (along (((0 : Int), (0 : Int)), (((9 : Int), (-9 : Int)), (4 : Int)))) fun y_2 =>
 (if ((y.2 == (0 : Int)) = true) then
 (letV (r1same (y.1, [(15 : Int), (-1 : Int), (15 : Int), (5 : Int), (5 : Int), (5 : Int)])) fun y_3 =>
 (if (y_3 = true) then
 (if ((y_1.2 == (1 : Int)) = true) then
 (if ((y_2.2 == (0 : Int)) = true) then
 (if (((y_2.1.1 == (4 : Int)) && ((y_2.1.2 == (-5 : Int)) && true)) = true) then
 true else
 false) else
 false) else
 false) else
 false)) else
 false))))
noncomputable def leveled_pre (x : Bool) : Prop :=
 ((level_pre ((3 : Int), ([(10 : Int), (-1 : Int), (20 : Int), (5 : Int), (5 : Int), (5 : Int)], [(((0 : Int), (0 : Int)), ((2 : Int), (0 : Int))), (((0 : Int), (0 : Int)), ((1 : Int), (0 : Int)))]))) ∧
 letP (level ((3 : Int), ([(10 : Int), (-1 : Int), (20 : Int), (5 : Int), (5 : Int), (5 : Int)], [(((0 : Int), (0 : Int)), ((2 : Int), (0 : Int))), (((0 : Int), (0 : Int)), ((1 : Int), (0 : Int)))]))) fun y =>
 ((level_pre ((3 : Int), ([(10 : Int), (-1 : Int)], [(((0 : Int), (0 : Int)), ((2 : Int), (0 : Int))), (((0 : Int), (0 : Int)), ((1 : Int), (0 : Int)))]))) ∧
 letP (level ((3 : Int), ([(10 : Int), (-1 : Int)], [(((0 : Int), (0 : Int)), ((2 : Int), (0 : Int))), (((0 : Int), (0 : Int)), ((1 : Int), (0 : Int)))]))) fun y_1 =>
 ((along_pre (((0 : Int), (0 : Int)), (((9 : Int), (-9 : Int)), (4 : Int)))) ∧
 letP (along (((0 : Int), (0 : Int)), (((9 : Int), (-9 : Int)), (4 : Int)))) fun y_2 =>
 (((y.2 == (0 : Int)) = true) →
 (r1same_pre (y.1, [(15 : Int), (-1 : Int), (15 : Int), (5 : Int), (5 : Int), (5 : Int)]))))))
noncomputable def leveled_t (x : Bool) : Tr Bool true :=
 (.fn level_S ((3 : Int), ([(10 : Int), (-1 : Int), (20 : Int), (5 : Int), (5 : Int), (5 : Int)], [(zz2, ((2 : Int), (0 : Int))), (zz2, ((1 : Int), (0 : Int)))])) fun y =>
 (.fn level_S ((3 : Int), ([(10 : Int), (-1 : Int)], [(zz2, ((2 : Int), (0 : Int))), (zz2, ((1 : Int), (0 : Int)))])) fun y_1 =>
 (.fn along_S (zz2, (((9 : Int), (-9 : Int)), (4 : Int))) fun y_2 =>
 (.allE
 (.allE
 (.allE
 (.allE
 (.allE
 (.pn 4 17
 (.pn 3 15
 (.pn 2 13
 (.pn 1 9
 (.pn 0 6
 (.allE
 (.allE
 (.allE
 (.allE
 (.pn 8 31
 (.allE
 (.pn 9 33
 (.allE
 (.pn 10 34
 (.allE
 (.pn 11 35
 (.pn 7 29
 (.allE
 (.allE
 (.pn 13 37
 (.pn 12 36
 (.pn 6 27
 (.pn 5 22
 (.b10 (y.2 == (0 : Int))
 (.fn r1same_S (y.1, [(15 : Int), (-1 : Int), (15 : Int), (5 : Int), (5 : Int), (5 : Int)]) fun y_3 =>
 (.b00 y_3
 (.b00 (y_1.2 == (1 : Int))
 (.b00 (y_2.2 == (0 : Int))
 (.b00 ((y_2.1.1 == (4 : Int)) && ((y_2.1.2 == (-5 : Int)) && true))
 (.ret true)
 (.ret false))
 (.ret false))
 (.ret false))
 (.ret false)))
 (.ret false)))))))))))))))))))))))))))))))))
noncomputable abbrev leveled_S : FnS := ⟨.none, (.one Ty.bool), leveled_pre, leveled⟩
theorem leveled_ok : SpecOk Tryz.prog 8 (fnSpec leveled_S) := SpecOk.tr leveled_S leveled_t (fn := Tryz.f8) tt_ok sp_r1same_ok mixed (by kernel_rfl) leveled_i12.ok (fun x => LpsOk.nil) (fun x => (by kernel_rfl)) fun x Q => (by kernel_rfl)
def sp_leveled : List (Nat × Ev.Spec) := (8, fnSpec leveled_S) :: sp_r1same
theorem sp_leveled_ok : SpecsOk Tryz.prog sp_leveled := SpecsOk.add (fn := Tryz.f8) (by kernel_rfl) leveled_ok sp_r1same_ok
noncomputable def l27between_l0 (x : (Int × ((List Int) × (List (I2 × I2))))) : LoopD := ⟨[], ⟨pvs 122 0 [(1, .v (.one (.full 0))), (7, .v (.one (.full 1))), (9, .v (.one (.i .i64))), (10, .v (.one (.i .i64))), (11, .v (.one (.i .i64)))], [.row yi 0, .row yi 2], 0, none, [], [3], [4, 0, 1, 2], [(.l yi), .i, .i, .i], [.l yi x.2.1]⟩, [⟨(.exit 0), .normal, ⟨pvs 122 0 [(1, .v (.one (.full 0))), (7, .v (.one (.full 1))), (9, .v (.one (.i .i64))), (10, .v (.one (.i .i64)))], [.row yi 0, .row yi 2], 0, none, [], [2], [3, 0, 1], [(.l yi), .i, .i], [.l yi x.2.1]⟩⟩]⟩
noncomputable def l27between_l0_step (x : (Int × ((List Int) × (List (I2 × I2))))) (s : ((List Int) × I3)) : ((List Int) × I3) ⊕ ((List Int) × I2) :=
 (if (s.2.2.2 < (((List.length x.2.1) : Nat) : Int)) then
 (if ((List.getD x.2.1 (Int.toNat s.2.2.2) (0 : Int)) ≥ (0 : Int)) then
 (Sum.inl (s.1, ((minI s.2.1 (List.getD x.2.1 (Int.toNat s.2.2.2) (0 : Int))), ((maxI s.2.2.1 (List.getD x.2.1 (Int.toNat s.2.2.2) (0 : Int))), (w64 (s.2.2.2 + (1 : Int))))))) else
 (Sum.inl (s.1, (s.2.1, (s.2.2.1, (w64 (s.2.2.2 + (1 : Int)))))))) else
 (Sum.inr ((s.1, (s.2.1, s.2.2.1)))))
noncomputable def l27between_l0_pre (x : (Int × ((List Int) × (List (I2 × I2))))) (s : ((List Int) × I3)) : Prop :=
 ((s.2.2.2 < (((List.length x.2.1) : Nat) : Int)) →
 ((((0 : Int) ≤ s.2.2.2) ∧ (s.2.2.2 < (((List.length x.2.1) : Nat) : Int))) ∧
 (((Int.toNat s.2.2.2) < (List.length x.2.1)) ∧
 (((Int.toNat s.2.2.2) < (List.length x.2.1)) ∧
 (((List.getD x.2.1 (Int.toNat s.2.2.2) (0 : Int)) ≥ (0 : Int)) →
 ((((0 : Int) ≤ s.2.2.2) ∧ (s.2.2.2 < (((List.length x.2.1) : Nat) : Int))) ∧
 (((Int.toNat s.2.2.2) < (List.length x.2.1)) ∧
 (((Int.toNat s.2.2.2) < (List.length x.2.1)) ∧
 ((((0 : Int) ≤ s.2.2.2) ∧ (s.2.2.2 < (((List.length x.2.1) : Nat) : Int))) ∧
 (((Int.toNat s.2.2.2) < (List.length x.2.1)) ∧
 ((Int.toNat s.2.2.2) < (List.length x.2.1))))))))))))
noncomputable def l27between_l0_t (x : (Int × ((List Int) × (List (I2 × I2))))) (s : ((List Int) × I3)) : Tr (((List Int) × I3) ⊕ ((List Int) × I2)) true :=
 (.i10 (s.2.2.2 < (((List.length x.2.1) : Nat) : Int))
 (.oR s.2.2.2 (((List.length x.2.1) : Nat) : Int)
 (.od ((Int.toNat s.2.2.2) < (List.length x.2.1))
 (.od ((Int.toNat s.2.2.2) < (List.length x.2.1))
 (.i10 ((List.getD x.2.1 (Int.toNat s.2.2.2) (0 : Int)) ≥ (0 : Int))
 (.oR s.2.2.2 (((List.length x.2.1) : Nat) : Int)
 (.od ((Int.toNat s.2.2.2) < (List.length x.2.1))
 (.od ((Int.toNat s.2.2.2) < (List.length x.2.1))
 (.oR s.2.2.2 (((List.length x.2.1) : Nat) : Int)
 (.od ((Int.toNat s.2.2.2) < (List.length x.2.1))
 (.od ((Int.toNat s.2.2.2) < (List.length x.2.1))
 (.ret (.inl (s.1, ((minI s.2.1 (List.getD x.2.1 (Int.toNat s.2.2.2) (0 : Int))), ((maxI s.2.2.1 (List.getD x.2.1 (Int.toNat s.2.2.2) (0 : Int))), (w64 (s.2.2.2 + (1 : Int))))))))))))))
 (.ret (.inl (s.1, (s.2.1, (s.2.2.1, (w64 (s.2.2.2 + (1 : Int))))))))))))
 (.ret (.inr ((s.1, (s.2.1, s.2.2.1))))))
noncomputable def l27between_l2 (x : (Int × ((List Int) × (List (I2 × I2))))) : LoopD := ⟨[], ⟨pvs 122 0 [(1, .v (.one (.full 0))), (7, .v (.one (.full 1))), (9, .v (.one (.i .i64))), (10, .v (.one (.i .i64))), (12, .v (.one (.i .i64)))], [.row yi 0, .row yi 2], 0, none, [], [3], [4, 0, 1, 2], [(.l yi), .i, .i, .i], [.l yi x.2.1]⟩, [⟨.ret, .ret, ⟨pvs 122 0 [(6, .v (.one (.b)))], [], 0, none, [], [0], [], [], [.b false]⟩⟩, ⟨(.exit 2), .normal, ⟨pvs 122 0 [(1, .v (.one (.full 0))), (7, .v (.one (.full 1))), (9, .v (.one (.i .i64))), (10, .v (.one (.i .i64)))], [.row yi 0, .row yi 2], 0, none, [], [2], [3, 0, 1], [(.l yi), .i, .i], [.l yi x.2.1]⟩⟩]⟩
noncomputable def l27between_l2_step (x : (Int × ((List Int) × (List (I2 × I2))))) (s : ((List Int) × I3)) : ((List Int) × I3) ⊕ (Unit ⊕ ((List Int) × I2)) :=
 (if (s.2.2.2 < (((List.length s.1) : Nat) : Int)) then
 (if ((!((decide ((List.getD s.1 (Int.toNat s.2.2.2) (0 : Int)) < (0 : Int))) == (decide ((List.getD x.2.1 (Int.toNat s.2.2.2) (0 : Int)) < (0 : Int))))) = true) then
 (Sum.inr (Sum.inl ())) else
 (if ((List.getD s.1 (Int.toNat s.2.2.2) (0 : Int)) < (-1 : Int)) then
 (Sum.inr (Sum.inl ())) else
 (if ((List.getD s.1 (Int.toNat s.2.2.2) (0 : Int)) ≥ (0 : Int)) then
 (if ((List.getD s.1 (Int.toNat s.2.2.2) (0 : Int)) < s.2.1) then
 (Sum.inr (Sum.inl ())) else
 (if ((List.getD s.1 (Int.toNat s.2.2.2) (0 : Int)) > s.2.2.1) then
 (Sum.inr (Sum.inl ())) else
 (Sum.inl (s.1, (s.2.1, (s.2.2.1, (w64 (s.2.2.2 + (1 : Int))))))))) else
 (Sum.inl (s.1, (s.2.1, (s.2.2.1, (w64 (s.2.2.2 + (1 : Int)))))))))) else
 (Sum.inr (Sum.inr ((s.1, (s.2.1, s.2.2.1))))))
noncomputable def l27between_l2_pre (x : (Int × ((List Int) × (List (I2 × I2))))) (s : ((List Int) × I3)) : Prop :=
 ((s.2.2.2 < (((List.length s.1) : Nat) : Int)) →
 ((((0 : Int) ≤ s.2.2.2) ∧ (s.2.2.2 < (((List.length s.1) : Nat) : Int))) ∧
 (((Int.toNat s.2.2.2) < (List.length s.1)) ∧
 (((Int.toNat s.2.2.2) < (List.length s.1)) ∧
 ((((0 : Int) ≤ s.2.2.2) ∧ (s.2.2.2 < (((List.length x.2.1) : Nat) : Int))) ∧
 (((Int.toNat s.2.2.2) < (List.length x.2.1)) ∧
 (((Int.toNat s.2.2.2) < (List.length x.2.1)) ∧
 (¬ ((!((decide ((List.getD s.1 (Int.toNat s.2.2.2) (0 : Int)) < (0 : Int))) == (decide ((List.getD x.2.1 (Int.toNat s.2.2.2) (0 : Int)) < (0 : Int))))) = true) →
 ((((0 : Int) ≤ s.2.2.2) ∧ (s.2.2.2 < (((List.length s.1) : Nat) : Int))) ∧
 (((Int.toNat s.2.2.2) < (List.length s.1)) ∧
 (((Int.toNat s.2.2.2) < (List.length s.1)) ∧
 (¬ ((List.getD s.1 (Int.toNat s.2.2.2) (0 : Int)) < (-1 : Int)) →
 ((((0 : Int) ≤ s.2.2.2) ∧ (s.2.2.2 < (((List.length s.1) : Nat) : Int))) ∧
 (((Int.toNat s.2.2.2) < (List.length s.1)) ∧
 (((Int.toNat s.2.2.2) < (List.length s.1)) ∧
 (((List.getD s.1 (Int.toNat s.2.2.2) (0 : Int)) ≥ (0 : Int)) →
 ((((0 : Int) ≤ s.2.2.2) ∧ (s.2.2.2 < (((List.length s.1) : Nat) : Int))) ∧
 (((Int.toNat s.2.2.2) < (List.length s.1)) ∧
 (((Int.toNat s.2.2.2) < (List.length s.1)) ∧
 (¬ ((List.getD s.1 (Int.toNat s.2.2.2) (0 : Int)) < s.2.1) →
 ((((0 : Int) ≤ s.2.2.2) ∧ (s.2.2.2 < (((List.length s.1) : Nat) : Int))) ∧
 (((Int.toNat s.2.2.2) < (List.length s.1)) ∧
 ((Int.toNat s.2.2.2) < (List.length s.1))))))))))))))))))))))))
noncomputable def l27between_l2_t (x : (Int × ((List Int) × (List (I2 × I2))))) (s : ((List Int) × I3)) : Tr (((List Int) × I3) ⊕ (Unit ⊕ ((List Int) × I2))) true :=
 (.i10 (s.2.2.2 < (((List.length s.1) : Nat) : Int))
 (.oR s.2.2.2 (((List.length s.1) : Nat) : Int)
 (.od ((Int.toNat s.2.2.2) < (List.length s.1))
 (.od ((Int.toNat s.2.2.2) < (List.length s.1))
 (.oR s.2.2.2 (((List.length x.2.1) : Nat) : Int)
 (.od ((Int.toNat s.2.2.2) < (List.length x.2.1))
 (.od ((Int.toNat s.2.2.2) < (List.length x.2.1))
 (.b01 (!((decide ((List.getD s.1 (Int.toNat s.2.2.2) (0 : Int)) < (0 : Int))) == (decide ((List.getD x.2.1 (Int.toNat s.2.2.2) (0 : Int)) < (0 : Int)))))
 (.ret (.inr (Sum.inl ())))
 (.oR s.2.2.2 (((List.length s.1) : Nat) : Int)
 (.od ((Int.toNat s.2.2.2) < (List.length s.1))
 (.od ((Int.toNat s.2.2.2) < (List.length s.1))
 (.i01 ((List.getD s.1 (Int.toNat s.2.2.2) (0 : Int)) < (-1 : Int))
 (.ret (.inr (Sum.inl ())))
 (.oR s.2.2.2 (((List.length s.1) : Nat) : Int)
 (.od ((Int.toNat s.2.2.2) < (List.length s.1))
 (.od ((Int.toNat s.2.2.2) < (List.length s.1))
 (.i10 ((List.getD s.1 (Int.toNat s.2.2.2) (0 : Int)) ≥ (0 : Int))
 (.oR s.2.2.2 (((List.length s.1) : Nat) : Int)
 (.od ((Int.toNat s.2.2.2) < (List.length s.1))
 (.od ((Int.toNat s.2.2.2) < (List.length s.1))
 (.i01 ((List.getD s.1 (Int.toNat s.2.2.2) (0 : Int)) < s.2.1)
 (.ret (.inr (Sum.inl ())))
 (.oR s.2.2.2 (((List.length s.1) : Nat) : Int)
 (.od ((Int.toNat s.2.2.2) < (List.length s.1))
 (.od ((Int.toNat s.2.2.2) < (List.length s.1))
 (.i00 ((List.getD s.1 (Int.toNat s.2.2.2) (0 : Int)) > s.2.2.1)
 (.ret (.inr (Sum.inl ())))
 (.ret (.inl (s.1, (s.2.1, (s.2.2.1, (w64 (s.2.2.2 + (1 : Int))))))))))))))))
 (.ret (.inl (s.1, (s.2.1, (s.2.2.1, (w64 (s.2.2.2 + (1 : Int)))))))))))))))))))))))
 (.ret (.inr (Sum.inr ((s.1, (s.2.1, s.2.2.1)))))))
noncomputable def l27between (x : (Int × ((List Int) × (List (I2 × I2))))) : Bool :=
 (if ((((List.length x.2.1) : Nat) : Int) > (80 : Int)) then
 true else
 (if ((((List.length x.2.2) : Nat) : Int) > (20 : Int)) then
 true else
 (letV (level x) fun y =>
 (if ((y.2 != (0 : Int)) = true) then
 (letV (leveled false) fun y_1 =>
 (if (y_1 = true) then
 ((((List.length y.1) : Nat) : Int) == (0 : Int)) else
 false)) else
 (letV (run (l27between_l0_step x) (y.1, ((255 : Int), ((0 : Int), (0 : Int))))) fun r =>
 (if (((((List.length r.1) : Nat) : Int) != (((List.length x.2.1) : Nat) : Int)) = true) then
 false else
 (letV (run (l27between_l2_step x) (r.1, (r.2.1, (r.2.2, (0 : Int))))) fun r_1 =>
 (Sum.elim (fun a =>
 false) (fun b =>
 (letV (leveled false) fun y_1 =>
 (if (y_1 = true) then
 (if ((b.2.1 != b.2.2) = true) then
 true else
 (letV (r1same (b.1, x.2.1)) fun y_2 =>
 y_2)) else
 false))) r_1))))))))
noncomputable def l27between_pre (x : (Int × ((List Int) × (List (I2 × I2))))) : Prop :=
 (¬ ((((List.length x.2.1) : Nat) : Int) > (80 : Int)) →
 (¬ ((((List.length x.2.2) : Nat) : Int) > (20 : Int)) →
 ((level_pre x) ∧
 letP (level x) fun y =>
 ((((y.2 != (0 : Int)) = true) →
 (leveled_pre false)) ∧
 (¬ ((y.2 != (0 : Int)) = true) →
 (Term (l27between_l0_step x) (l27between_l0_pre x) (y.1, ((255 : Int), ((0 : Int), (0 : Int)))) ∧
 letP (run (l27between_l0_step x) (y.1, ((255 : Int), ((0 : Int), (0 : Int))))) fun r =>
 (¬ (((((List.length r.1) : Nat) : Int) != (((List.length x.2.1) : Nat) : Int)) = true) →
 (Term (l27between_l2_step x) (l27between_l2_pre x) (r.1, (r.2.1, (r.2.2, (0 : Int)))) ∧
 letP (run (l27between_l2_step x) (r.1, (r.2.1, (r.2.2, (0 : Int))))) fun r_1 =>
 (cS r_1 (fun a =>
 True) (fun b =>
 ((leveled_pre false) ∧
 letP (leveled false) fun y_1 =>
 ((y_1 = true) →
 (¬ ((b.2.1 != b.2.2) = true) →
 (r1same_pre (b.1, x.2.1)))))))))))))))
noncomputable def l27between_t (x : (Int × ((List Int) × (List (I2 × I2))))) : Tr Bool true :=
 (.i01 ((((List.length x.2.1) : Nat) : Int) > (80 : Int))
 (.ret true)
 (.i01 ((((List.length x.2.2) : Nat) : Int) > (20 : Int))
 (.ret true)
 (.fn level_S x fun y =>
 (.b11 (y.2 != (0 : Int))
 (.fn leveled_S false fun y_1 =>
 (.b00 y_1
 (.ret ((((List.length y.1) : Nat) : Int) == (0 : Int)))
 (.ret false)))
 (LoopD.lp (l27between_l0 x) (l27between_l0_t x) (y.1, ((255 : Int), zz2)) fun r =>
 (.b01 ((((List.length r.1) : Nat) : Int) != (((List.length x.2.1) : Nat) : Int))
 (.ret false)
 (LoopD.lp (l27between_l2 x) (l27between_l2_t x) (r.1, (r.2.1, (r.2.2, (0 : Int)))) fun r_1 =>
 (.s01 r_1 (fun a =>
 (.ret false)) (fun b =>
 (.fn leveled_S false fun y_1 =>
 (.b10 y_1
 (.b01 (b.2.1 != b.2.2)
 (.ret true)
 (.fn r1same_S (b.1, x.2.1) fun y_2 =>
 (.ret y_2)))
 (.ret false))))))))))))
noncomputable abbrev l27between_S : FnS := ⟨(.pair (.one yi) (.pair (.one (Ty.sl yi)) (.one (Ty.sl (Ty.prod yy2 yy2))))), (.one Ty.bool), l27between_pre, l27between⟩
theorem l27between_ok : SpecOk Tryz.prog 3 (fnSpec l27between_S) := SpecOk.tr l27between_S l27between_t (fn := Tryz.f3) tt_ok sp_leveled_ok mixed (by kernel_rfl) (ItsOk.nil _ _) (fun x => (LpsOk.tr tt_ok (SpecsOk.ctxI sp_leveled_ok (ItsOk.nil _ _)) mixed 0 (l27between_l0 x) (l27between_l0_t x) (LpsOk.tr tt_ok (SpecsOk.ctxI sp_leveled_ok (ItsOk.nil _ _)) mixed 2 (l27between_l2 x) (l27between_l2_t x) LpsOk.nil (by kernel_rfl) fun g s Q => (by kernel_rfl)) (by kernel_rfl) fun g s Q => (by kernel_rfl))) (fun x => (by kernel_rfl)) fun x Q => (by kernel_rfl)
def sp_l27between : List (Nat × Ev.Spec) := (3, fnSpec l27between_S) :: sp_leveled
theorem sp_l27between_ok : SpecsOk Tryz.prog sp_l27between := SpecsOk.add (fn := Tryz.f3) (by kernel_rfl) l27between_ok sp_leveled_ok
noncomputable def l27round_l0 (x : (Int × ((List Int) × (List (I2 × I2))))) : LoopD := ⟨[], ⟨pvs 88 0 [(0, .v (.one (.i .i64))), (1, .v (.one (.full 0))), (2, .v (.one (.full 1))), (7, .v (.one (.full 2))), (8, .v (.one (.i .i64)))], [.row yi 0, .row (Ty.prod yy2 yy2) 0, .row (Ty.prod yy2 yy2) 2], 0, none, [], [0, 2, 3], [4, 1], [(.l (Ty.prod yy2 yy2)), .i], [.i x.1, .l yi x.2.1, .l (Ty.prod yy2 yy2) x.2.2]⟩, [⟨(.exit 0), .normal, ⟨pvs 88 0 [(0, .v (.one (.i .i64))), (1, .v (.one (.full 0))), (2, .v (.one (.full 1))), (7, .v (.one (.full 2)))], [.row yi 0, .row (Ty.prod yy2 yy2) 0, .row (Ty.prod yy2 yy2) 2], 0, none, [], [0, 1, 2], [3], [(.l (Ty.prod yy2 yy2))], [.i x.1, .l yi x.2.1, .l (Ty.prod yy2 yy2) x.2.2]⟩⟩]⟩
noncomputable def l27round_l0_step (x : (Int × ((List Int) × (List (I2 × I2))))) (s : ((List (I2 × I2)) × Int)) : ((List (I2 × I2)) × Int) ⊕ (List (I2 × I2)) :=
 (if (s.2 ≥ (0 : Int)) then
 (Sum.inl ((s.1 ++ [((List.getD x.2.2 (Int.toNat s.2) (((0 : Int), (0 : Int)), ((0 : Int), (0 : Int)))).2, (List.getD x.2.2 (Int.toNat s.2) (((0 : Int), (0 : Int)), ((0 : Int), (0 : Int)))).1)]), (w64 (s.2 - (1 : Int))))) else
 (Sum.inr (s.1)))
noncomputable def l27round_l0_pre (x : (Int × ((List Int) × (List (I2 × I2))))) (s : ((List (I2 × I2)) × Int)) : Prop :=
 ((s.2 ≥ (0 : Int)) →
 ((((0 : Int) ≤ s.2) ∧ (s.2 < (((List.length x.2.2) : Nat) : Int))) ∧
 (((Int.toNat s.2) < (List.length x.2.2)) ∧
 (((Int.toNat s.2) < (List.length x.2.2)) ∧
 (((Int.toNat s.2) < (List.length x.2.2)) ∧
 ((((0 : Int) ≤ s.2) ∧ (s.2 < (((List.length x.2.2) : Nat) : Int))) ∧
 (((Int.toNat s.2) < (List.length x.2.2)) ∧
 (((Int.toNat s.2) < (List.length x.2.2)) ∧
 (((Int.toNat s.2) < (List.length x.2.2)) ∧
 (((List.length s.1) + 1) < 1099511627776))))))))))
noncomputable def l27round_l0_t (x : (Int × ((List Int) × (List (I2 × I2))))) (s : ((List (I2 × I2)) × Int)) : Tr (((List (I2 × I2)) × Int) ⊕ (List (I2 × I2))) true :=
 (.i10 (s.2 ≥ (0 : Int))
 (.oR s.2 (((List.length x.2.2) : Nat) : Int)
 (.od ((Int.toNat s.2) < (List.length x.2.2))
 (.od ((Int.toNat s.2) < (List.length x.2.2))
 (.od ((Int.toNat s.2) < (List.length x.2.2))
 (.oR s.2 (((List.length x.2.2) : Nat) : Int)
 (.od ((Int.toNat s.2) < (List.length x.2.2))
 (.od ((Int.toNat s.2) < (List.length x.2.2))
 (.od ((Int.toNat s.2) < (List.length x.2.2))
 (.od (((List.length s.1) + 1) < 1099511627776)
 (.ret (.inl ((s.1 ++ [((List.getD x.2.2 (Int.toNat s.2) (zz2, zz2)).2, (List.getD x.2.2 (Int.toNat s.2) (zz2, zz2)).1)]), (w64 (s.2 - (1 : Int)))))))))))))))
 (.ret (.inr (s.1))))
noncomputable def l27round (x : (Int × ((List Int) × (List (I2 × I2))))) : Bool :=
 (if ((((List.length x.2.1) : Nat) : Int) > (80 : Int)) then
 true else
 (if ((((List.length x.2.2) : Nat) : Int) > (20 : Int)) then
 true else
 (letV (run (l27round_l0_step x) ([], (w64 ((((List.length x.2.2) : Nat) : Int) - (1 : Int))))) fun r =>
 (letV (level x) fun y =>
 (letV (level (x.1, (x.2.1, r))) fun y_1 =>
 (letV (level (x.1, (x.2.1, []))) fun y_2 =>
 (letV (leveled false) fun y_3 =>
 (if (y_3 = true) then
 (if ((y.2 == y_1.2) = true) then
 (letV (r1same (y.1, y_1.1)) fun y_4 =>
 (if (y_4 = true) then
 (if ((y.2 != (0 : Int)) = true) then
 true else
 (if ((y_2.2 == (0 : Int)) = true) then
 (letV (r1same (y_2.1, x.2.1)) fun y_5 =>
 y_5) else
 false)) else
 false)) else
 false) else
 false))))))))
noncomputable def l27round_pre (x : (Int × ((List Int) × (List (I2 × I2))))) : Prop :=
 (¬ ((((List.length x.2.1) : Nat) : Int) > (80 : Int)) →
 (¬ ((((List.length x.2.2) : Nat) : Int) > (20 : Int)) →
 (Term (l27round_l0_step x) (l27round_l0_pre x) ([], (w64 ((((List.length x.2.2) : Nat) : Int) - (1 : Int)))) ∧
 letP (run (l27round_l0_step x) ([], (w64 ((((List.length x.2.2) : Nat) : Int) - (1 : Int))))) fun r =>
 ((level_pre x) ∧
 letP (level x) fun y =>
 ((level_pre (x.1, (x.2.1, r))) ∧
 letP (level (x.1, (x.2.1, r))) fun y_1 =>
 ((level_pre (x.1, (x.2.1, []))) ∧
 letP (level (x.1, (x.2.1, []))) fun y_2 =>
 ((leveled_pre false) ∧
 letP (leveled false) fun y_3 =>
 ((y_3 = true) →
 (((y.2 == y_1.2) = true) →
 ((r1same_pre (y.1, y_1.1)) ∧
 letP (r1same (y.1, y_1.1)) fun y_4 =>
 ((y_4 = true) →
 (¬ ((y.2 != (0 : Int)) = true) →
 (((y_2.2 == (0 : Int)) = true) →
 (r1same_pre (y_2.1, x.2.1)))))))))))))))
noncomputable def l27round_t (x : (Int × ((List Int) × (List (I2 × I2))))) : Tr Bool true :=
 (.i01 ((((List.length x.2.1) : Nat) : Int) > (80 : Int))
 (.ret true)
 (.i01 ((((List.length x.2.2) : Nat) : Int) > (20 : Int))
 (.ret true)
 (LoopD.lp (l27round_l0 x) (l27round_l0_t x) ([], (w64 ((((List.length x.2.2) : Nat) : Int) - (1 : Int)))) fun r =>
 (.fn level_S x fun y =>
 (.fn level_S (x.1, (x.2.1, r)) fun y_1 =>
 (.fn level_S (x.1, (x.2.1, [])) fun y_2 =>
 (.fn leveled_S false fun y_3 =>
 (.b10 y_3
 (.b10 (y.2 == y_1.2)
 (.fn r1same_S (y.1, y_1.1) fun y_4 =>
 (.b10 y_4
 (.b01 (y.2 != (0 : Int))
 (.ret true)
 (.b10 (y_2.2 == (0 : Int))
 (.fn r1same_S (y_2.1, x.2.1) fun y_5 =>
 (.ret y_5))
 (.ret false)))
 (.ret false)))
 (.ret false))
 (.ret false)))))))))
noncomputable abbrev l27round_S : FnS := ⟨(.pair (.one yi) (.pair (.one (Ty.sl yi)) (.one (Ty.sl (Ty.prod yy2 yy2))))), (.one Ty.bool), l27round_pre, l27round⟩
theorem l27round_ok : SpecOk Tryz.prog 4 (fnSpec l27round_S) := SpecOk.tr l27round_S l27round_t (fn := Tryz.f4) tt_ok sp_l27between_ok mixed (by kernel_rfl) (ItsOk.nil _ _) (fun x => (LpsOk.tr tt_ok (SpecsOk.ctxI sp_l27between_ok (ItsOk.nil _ _)) mixed 0 (l27round_l0 x) (l27round_l0_t x) LpsOk.nil (by kernel_rfl) fun g s Q => (by kernel_rfl))) (fun x => (by kernel_rfl)) fun x Q => (by kernel_rfl)
def sp_l27round : List (Nat × Ev.Spec) := (4, fnSpec l27round_S) :: sp_l27between
theorem sp_l27round_ok : SpecsOk Tryz.prog sp_l27round := SpecsOk.add (fn := Tryz.f4) (by kernel_rfl) l27round_ok sp_l27between_ok
noncomputable def l27along (x : (I2 × (I2 × Int))) : Bool :=
 (letV (along x) fun y =>
 (if ((y.2 != (0 : Int)) = true) then
 (letV (leveled false) fun y_1 =>
 (if (y_1 = true) then
 ((y.1.1 == (0 : Int)) && ((y.1.2 == (0 : Int)) && true)) else
 false)) else
 (letV (along (x.1, (x.2.1, (0 : Int)))) fun y_1 =>
 (letV (along (x.1, (x.2.1, (8 : Int)))) fun y_2 =>
 (letV (along (x.1, (x.1, x.2.2))) fun y_3 =>
 (letV (leveled false) fun y_4 =>
 (if (y_4 = true) then
 (if ((y_1.2 == (0 : Int)) = true) then
 (if (((y_1.1.1 == x.1.1) && ((y_1.1.2 == x.1.2) && true)) = true) then
 (if ((y_2.2 == (0 : Int)) = true) then
 (if (((y_2.1.1 == x.2.1.1) && ((y_2.1.2 == x.2.1.2) && true)) = true) then
 (if ((y_3.2 == (0 : Int)) = true) then
 (if (((y_3.1.1 == x.1.1) && ((y_3.1.2 == x.1.2) && true)) = true) then
 (if (y.1.1 ≥ (minI x.1.1 x.2.1.1)) then
 (if (y.1.1 ≤ (maxI x.1.1 x.2.1.1)) then
 (if (y.1.2 ≥ (minI x.1.2 x.2.1.2)) then
 (decide (y.1.2 ≤ (maxI x.1.2 x.2.1.2))) else
 false) else
 false) else
 false) else
 false) else
 false) else
 false) else
 false) else
 false) else
 false) else
 false)))))))
noncomputable def l27along_pre (x : (I2 × (I2 × Int))) : Prop :=
 ((along_pre x) ∧
 letP (along x) fun y =>
 ((((y.2 != (0 : Int)) = true) →
 (leveled_pre false)) ∧
 (¬ ((y.2 != (0 : Int)) = true) →
 ((along_pre (x.1, (x.2.1, (0 : Int)))) ∧
 letP (along (x.1, (x.2.1, (0 : Int)))) fun y_1 =>
 ((along_pre (x.1, (x.2.1, (8 : Int)))) ∧
 letP (along (x.1, (x.2.1, (8 : Int)))) fun y_2 =>
 ((along_pre (x.1, (x.1, x.2.2))) ∧
 letP (along (x.1, (x.1, x.2.2))) fun y_3 =>
 (leveled_pre false)))))))
noncomputable def l27along_t (x : (I2 × (I2 × Int))) : Tr Bool true :=
 (.fn along_S x fun y =>
 (.b11 (y.2 != (0 : Int))
 (.fn leveled_S false fun y_1 =>
 (.b00 y_1
 (.ret ((y.1.1 == (0 : Int)) && ((y.1.2 == (0 : Int)) && true)))
 (.ret false)))
 (.fn along_S (x.1, (x.2.1, (0 : Int))) fun y_1 =>
 (.fn along_S (x.1, (x.2.1, (8 : Int))) fun y_2 =>
 (.fn along_S (x.1, (x.1, x.2.2)) fun y_3 =>
 (.fn leveled_S false fun y_4 =>
 (.b00 y_4
 (.b00 (y_1.2 == (0 : Int))
 (.b00 ((y_1.1.1 == x.1.1) && ((y_1.1.2 == x.1.2) && true))
 (.b00 (y_2.2 == (0 : Int))
 (.b00 ((y_2.1.1 == x.2.1.1) && ((y_2.1.2 == x.2.1.2) && true))
 (.b00 (y_3.2 == (0 : Int))
 (.b00 ((y_3.1.1 == x.1.1) && ((y_3.1.2 == x.1.2) && true))
 (.i00 (y.1.1 ≥ (minI x.1.1 x.2.1.1))
 (.i00 (y.1.1 ≤ (maxI x.1.1 x.2.1.1))
 (.i00 (y.1.2 ≥ (minI x.1.2 x.2.1.2))
 (.ret (decide (y.1.2 ≤ (maxI x.1.2 x.2.1.2))))
 (.ret false))
 (.ret false))
 (.ret false))
 (.ret false))
 (.ret false))
 (.ret false))
 (.ret false))
 (.ret false))
 (.ret false))
 (.ret false))))))))
noncomputable abbrev l27along_S : FnS := ⟨(.pair (.agg yy2) (.pair (.agg yy2) (.one yi))), (.one Ty.bool), l27along_pre, l27along⟩
theorem l27along_ok : SpecOk Tryz.prog 5 (fnSpec l27along_S) := SpecOk.tr l27along_S l27along_t (fn := Tryz.f5) tt_ok sp_l27round_ok mixed (by kernel_rfl) (ItsOk.nil _ _) (fun x => LpsOk.nil) (fun x => (by kernel_rfl)) fun x Q => (by kernel_rfl)
def sp_l27along : List (Nat × Ev.Spec) := (5, fnSpec l27along_S) :: sp_l27round
theorem sp_l27along_ok : SpecsOk Tryz.prog sp_l27along := SpecsOk.add (fn := Tryz.f5) (by kernel_rfl) l27along_ok sp_l27round_ok
end Go.Proofs.YtojielnkfeoccaaGreat
