/- Models of the references of layers 8, 15, 16. -/
import Derived.Test.YtpbbnoggkbfkoaaGreatFh
namespace Go.Proofs.YtpbbnoggkbfkoaaGreat
open Go Go.Ev Go.Proofs
set_option linter.unusedVariables false
noncomputable def r8within (x : I3) : Bool :=
 (if (x.1 ≥ x.2.1) then
 (decide (x.1 ≤ x.2.2)) else
 false)
noncomputable def r8within_pre (_ : I3) : Prop := True
noncomputable def r8within_t (x : I3) : Tr Bool false :=
 (.i00 (x.1 ≥ x.2.1)
 (.ret (decide (x.1 ≤ x.2.2)))
 (.ret false))
noncomputable abbrev r8within_S : FnS := ⟨(.pair (.one yi) (.pair (.one yi) (.one yi))), (.one Ty.bool), r8within_pre, r8within⟩
theorem r8within_ok : SpecOk Tryz.prog 67 (fnSpec r8within_S) := SpecOk.tr r8within_S r8within_t (fn := Tryz.f67) tt_ok sp_r10overlap_ok mixed (by kernel_rfl) (ItsOk.nil _ _) (fun x => LpsOk.nil) (fun x => (by kernel_rfl)) fun x Q => (by kernel_rfl)
def sp_r8within : List (Nat × Ev.Spec) := (67, fnSpec r8within_S) :: sp_r10overlap
theorem sp_r8within_ok : SpecsOk Tryz.prog sp_r8within := SpecsOk.add (fn := Tryz.f67) (by kernel_rfl) r8within_ok sp_r10overlap_ok
noncomputable def r8is_l0 (x : ((List I3) × ((List I2) × ((List I3) × (List I9))))) : LoopD := ⟨[], ⟨pvs 120 0 [(1, .v (.one (.ptr 0 0))), (3, .v (.one (.i .i64)))], [.cells [.full 1, .full 2, .full 3, .full 4] 26, .row yy3 0, .row yy2 0, .row yy3 0, .row yy9 0], 0, none, [], [1, 2, 3, 4], [0], [.i], [.l yy3 x.1, .l yy2 x.2.1, .l yy3 x.2.2.1, .l yy9 x.2.2.2]⟩, [⟨.ret, .ret, ⟨pvs 120 0 [(2, .v (.one (.b)))], [], 0, none, [], [0], [], [], [.b false]⟩⟩, ⟨(.exit 0), .normal, ⟨pvs 120 0 [], [], 0, none, [], [], [], [], []⟩⟩]⟩
noncomputable def r8is_l0_step (x : ((List I3) × ((List I2) × ((List I3) × (List I9))))) (s : Int) : Int ⊕ (Unit ⊕ Unit) :=
 (if (s < (((List.length x.2.2.2) : Nat) : Int)) then
 (letV (r8within ((List.getD x.2.2.2 (Int.toNat s) (((0 : Int), ((0 : Int), (0 : Int))), (((0 : Int), ((0 : Int), (0 : Int))), ((0 : Int), ((0 : Int), (0 : Int)))))).1.1, ((0 : Int), (w64 ((((List.length x.1) : Nat) : Int) - (1 : Int)))))) fun y =>
 (if ((!y) = true) then
 (Sum.inr (Sum.inl ())) else
 (letV (r8within ((List.getD x.2.2.2 (Int.toNat s) (((0 : Int), ((0 : Int), (0 : Int))), (((0 : Int), ((0 : Int), (0 : Int))), ((0 : Int), ((0 : Int), (0 : Int)))))).1.2.1, ((-1 : Int), (w64 ((((List.length x.2.1) : Nat) : Int) - (1 : Int)))))) fun y_1 =>
 (if ((!y_1) = true) then
 (Sum.inr (Sum.inl ())) else
 (letV (r8within ((List.getD x.2.2.2 (Int.toNat s) (((0 : Int), ((0 : Int), (0 : Int))), (((0 : Int), ((0 : Int), (0 : Int))), ((0 : Int), ((0 : Int), (0 : Int)))))).1.2.2, ((-1 : Int), (w64 ((((List.length x.2.2.1) : Nat) : Int) - (1 : Int)))))) fun y_2 =>
 (if ((!y_2) = true) then
 (Sum.inr (Sum.inl ())) else
 (if ((!((decide ((List.getD x.2.2.2 (Int.toNat s) (((0 : Int), ((0 : Int), (0 : Int))), (((0 : Int), ((0 : Int), (0 : Int))), ((0 : Int), ((0 : Int), (0 : Int)))))).1.2.1 < (0 : Int))) == (decide ((List.getD x.2.2.2 (Int.toNat s) (((0 : Int), ((0 : Int), (0 : Int))), (((0 : Int), ((0 : Int), (0 : Int))), ((0 : Int), ((0 : Int), (0 : Int)))))).1.2.1 < (0 : Int))))) = true) then
 (Sum.inr (Sum.inl ())) else
 (if ((!((decide ((List.getD x.2.2.2 (Int.toNat s) (((0 : Int), ((0 : Int), (0 : Int))), (((0 : Int), ((0 : Int), (0 : Int))), ((0 : Int), ((0 : Int), (0 : Int)))))).1.2.2 < (0 : Int))) == (decide ((List.getD x.2.2.2 (Int.toNat s) (((0 : Int), ((0 : Int), (0 : Int))), (((0 : Int), ((0 : Int), (0 : Int))), ((0 : Int), ((0 : Int), (0 : Int)))))).1.2.2 < (0 : Int))))) = true) then
 (Sum.inr (Sum.inl ())) else
 (letV (r8within ((List.getD x.2.2.2 (Int.toNat s) (((0 : Int), ((0 : Int), (0 : Int))), (((0 : Int), ((0 : Int), (0 : Int))), ((0 : Int), ((0 : Int), (0 : Int)))))).2.1.1, ((0 : Int), (w64 ((((List.length x.1) : Nat) : Int) - (1 : Int)))))) fun y_3 =>
 (if ((!y_3) = true) then
 (Sum.inr (Sum.inl ())) else
 (letV (r8within ((List.getD x.2.2.2 (Int.toNat s) (((0 : Int), ((0 : Int), (0 : Int))), (((0 : Int), ((0 : Int), (0 : Int))), ((0 : Int), ((0 : Int), (0 : Int)))))).2.1.2.1, ((-1 : Int), (w64 ((((List.length x.2.1) : Nat) : Int) - (1 : Int)))))) fun y_4 =>
 (if ((!y_4) = true) then
 (Sum.inr (Sum.inl ())) else
 (letV (r8within ((List.getD x.2.2.2 (Int.toNat s) (((0 : Int), ((0 : Int), (0 : Int))), (((0 : Int), ((0 : Int), (0 : Int))), ((0 : Int), ((0 : Int), (0 : Int)))))).2.1.2.2, ((-1 : Int), (w64 ((((List.length x.2.2.1) : Nat) : Int) - (1 : Int)))))) fun y_5 =>
 (if ((!y_5) = true) then
 (Sum.inr (Sum.inl ())) else
 (if ((!((decide ((List.getD x.2.2.2 (Int.toNat s) (((0 : Int), ((0 : Int), (0 : Int))), (((0 : Int), ((0 : Int), (0 : Int))), ((0 : Int), ((0 : Int), (0 : Int)))))).2.1.2.1 < (0 : Int))) == (decide ((List.getD x.2.2.2 (Int.toNat s) (((0 : Int), ((0 : Int), (0 : Int))), (((0 : Int), ((0 : Int), (0 : Int))), ((0 : Int), ((0 : Int), (0 : Int)))))).1.2.1 < (0 : Int))))) = true) then
 (Sum.inr (Sum.inl ())) else
 (if ((!((decide ((List.getD x.2.2.2 (Int.toNat s) (((0 : Int), ((0 : Int), (0 : Int))), (((0 : Int), ((0 : Int), (0 : Int))), ((0 : Int), ((0 : Int), (0 : Int)))))).2.1.2.2 < (0 : Int))) == (decide ((List.getD x.2.2.2 (Int.toNat s) (((0 : Int), ((0 : Int), (0 : Int))), (((0 : Int), ((0 : Int), (0 : Int))), ((0 : Int), ((0 : Int), (0 : Int)))))).1.2.2 < (0 : Int))))) = true) then
 (Sum.inr (Sum.inl ())) else
 (letV (r8within ((List.getD x.2.2.2 (Int.toNat s) (((0 : Int), ((0 : Int), (0 : Int))), (((0 : Int), ((0 : Int), (0 : Int))), ((0 : Int), ((0 : Int), (0 : Int)))))).2.2.1, ((0 : Int), (w64 ((((List.length x.1) : Nat) : Int) - (1 : Int)))))) fun y_6 =>
 (if ((!y_6) = true) then
 (Sum.inr (Sum.inl ())) else
 (letV (r8within ((List.getD x.2.2.2 (Int.toNat s) (((0 : Int), ((0 : Int), (0 : Int))), (((0 : Int), ((0 : Int), (0 : Int))), ((0 : Int), ((0 : Int), (0 : Int)))))).2.2.2.1, ((-1 : Int), (w64 ((((List.length x.2.1) : Nat) : Int) - (1 : Int)))))) fun y_7 =>
 (if ((!y_7) = true) then
 (Sum.inr (Sum.inl ())) else
 (letV (r8within ((List.getD x.2.2.2 (Int.toNat s) (((0 : Int), ((0 : Int), (0 : Int))), (((0 : Int), ((0 : Int), (0 : Int))), ((0 : Int), ((0 : Int), (0 : Int)))))).2.2.2.2, ((-1 : Int), (w64 ((((List.length x.2.2.1) : Nat) : Int) - (1 : Int)))))) fun y_8 =>
 (if ((!y_8) = true) then
 (Sum.inr (Sum.inl ())) else
 (if ((!((decide ((List.getD x.2.2.2 (Int.toNat s) (((0 : Int), ((0 : Int), (0 : Int))), (((0 : Int), ((0 : Int), (0 : Int))), ((0 : Int), ((0 : Int), (0 : Int)))))).2.2.2.1 < (0 : Int))) == (decide ((List.getD x.2.2.2 (Int.toNat s) (((0 : Int), ((0 : Int), (0 : Int))), (((0 : Int), ((0 : Int), (0 : Int))), ((0 : Int), ((0 : Int), (0 : Int)))))).1.2.1 < (0 : Int))))) = true) then
 (Sum.inr (Sum.inl ())) else
 (if ((!((decide ((List.getD x.2.2.2 (Int.toNat s) (((0 : Int), ((0 : Int), (0 : Int))), (((0 : Int), ((0 : Int), (0 : Int))), ((0 : Int), ((0 : Int), (0 : Int)))))).2.2.2.2 < (0 : Int))) == (decide ((List.getD x.2.2.2 (Int.toNat s) (((0 : Int), ((0 : Int), (0 : Int))), (((0 : Int), ((0 : Int), (0 : Int))), ((0 : Int), ((0 : Int), (0 : Int)))))).1.2.2 < (0 : Int))))) = true) then
 (Sum.inr (Sum.inl ())) else
 (Sum.inl (w64 (s + (1 : Int)))))))))))))))))))))))))))) else
 (Sum.inr (Sum.inr (()))))
noncomputable def r8is_l0_pre (x : ((List I3) × ((List I2) × ((List I3) × (List I9))))) (s : Int) : Prop :=
 ((s < (((List.length x.2.2.2) : Nat) : Int)) →
 ((((0 : Int) ≤ s) ∧ (s < (((List.length x.2.2.2) : Nat) : Int))) ∧
 (((Int.toNat s) < (List.length x.2.2.2)) ∧
 ((Int.toNat s) < (List.length x.2.2.2)))))
noncomputable def r8is_l0_t (x : ((List I3) × ((List I2) × ((List I3) × (List I9))))) (s : Int) : Tr (Int ⊕ (Unit ⊕ Unit)) true :=
 (.i10 (s < (((List.length x.2.2.2) : Nat) : Int))
 (.oR s (((List.length x.2.2.2) : Nat) : Int)
 (.od ((Int.toNat s) < (List.length x.2.2.2))
 (.od ((Int.toNat s) < (List.length x.2.2.2))
 (.fn0 r8within_S ((List.getD x.2.2.2 (Int.toNat s) zz9).1.1, ((0 : Int), (w64 ((((List.length x.1) : Nat) : Int) - (1 : Int))))) trivial fun y =>
 (.b00 (!y)
 (.ret (.inr (Sum.inl ())))
 (.fn0 r8within_S ((List.getD x.2.2.2 (Int.toNat s) zz9).1.2.1, ((-1 : Int), (w64 ((((List.length x.2.1) : Nat) : Int) - (1 : Int))))) trivial fun y_1 =>
 (.b00 (!y_1)
 (.ret (.inr (Sum.inl ())))
 (.fn0 r8within_S ((List.getD x.2.2.2 (Int.toNat s) zz9).1.2.2, ((-1 : Int), (w64 ((((List.length x.2.2.1) : Nat) : Int) - (1 : Int))))) trivial fun y_2 =>
 (.b00 (!y_2)
 (.ret (.inr (Sum.inl ())))
 (.b00 (!((decide ((List.getD x.2.2.2 (Int.toNat s) zz9).1.2.1 < (0 : Int))) == (decide ((List.getD x.2.2.2 (Int.toNat s) zz9).1.2.1 < (0 : Int)))))
 (.ret (.inr (Sum.inl ())))
 (.b00 (!((decide ((List.getD x.2.2.2 (Int.toNat s) zz9).1.2.2 < (0 : Int))) == (decide ((List.getD x.2.2.2 (Int.toNat s) zz9).1.2.2 < (0 : Int)))))
 (.ret (.inr (Sum.inl ())))
 (.fn0 r8within_S ((List.getD x.2.2.2 (Int.toNat s) zz9).2.1.1, ((0 : Int), (w64 ((((List.length x.1) : Nat) : Int) - (1 : Int))))) trivial fun y_3 =>
 (.b00 (!y_3)
 (.ret (.inr (Sum.inl ())))
 (.fn0 r8within_S ((List.getD x.2.2.2 (Int.toNat s) zz9).2.1.2.1, ((-1 : Int), (w64 ((((List.length x.2.1) : Nat) : Int) - (1 : Int))))) trivial fun y_4 =>
 (.b00 (!y_4)
 (.ret (.inr (Sum.inl ())))
 (.fn0 r8within_S ((List.getD x.2.2.2 (Int.toNat s) zz9).2.1.2.2, ((-1 : Int), (w64 ((((List.length x.2.2.1) : Nat) : Int) - (1 : Int))))) trivial fun y_5 =>
 (.b00 (!y_5)
 (.ret (.inr (Sum.inl ())))
 (.b00 (!((decide ((List.getD x.2.2.2 (Int.toNat s) zz9).2.1.2.1 < (0 : Int))) == (decide ((List.getD x.2.2.2 (Int.toNat s) zz9).1.2.1 < (0 : Int)))))
 (.ret (.inr (Sum.inl ())))
 (.b00 (!((decide ((List.getD x.2.2.2 (Int.toNat s) zz9).2.1.2.2 < (0 : Int))) == (decide ((List.getD x.2.2.2 (Int.toNat s) zz9).1.2.2 < (0 : Int)))))
 (.ret (.inr (Sum.inl ())))
 (.fn0 r8within_S ((List.getD x.2.2.2 (Int.toNat s) zz9).2.2.1, ((0 : Int), (w64 ((((List.length x.1) : Nat) : Int) - (1 : Int))))) trivial fun y_6 =>
 (.b00 (!y_6)
 (.ret (.inr (Sum.inl ())))
 (.fn0 r8within_S ((List.getD x.2.2.2 (Int.toNat s) zz9).2.2.2.1, ((-1 : Int), (w64 ((((List.length x.2.1) : Nat) : Int) - (1 : Int))))) trivial fun y_7 =>
 (.b00 (!y_7)
 (.ret (.inr (Sum.inl ())))
 (.fn0 r8within_S ((List.getD x.2.2.2 (Int.toNat s) zz9).2.2.2.2, ((-1 : Int), (w64 ((((List.length x.2.2.1) : Nat) : Int) - (1 : Int))))) trivial fun y_8 =>
 (.b00 (!y_8)
 (.ret (.inr (Sum.inl ())))
 (.b00 (!((decide ((List.getD x.2.2.2 (Int.toNat s) zz9).2.2.2.1 < (0 : Int))) == (decide ((List.getD x.2.2.2 (Int.toNat s) zz9).1.2.1 < (0 : Int)))))
 (.ret (.inr (Sum.inl ())))
 (.b00 (!((decide ((List.getD x.2.2.2 (Int.toNat s) zz9).2.2.2.2 < (0 : Int))) == (decide ((List.getD x.2.2.2 (Int.toNat s) zz9).1.2.2 < (0 : Int)))))
 (.ret (.inr (Sum.inl ())))
 (.ret (.inl (w64 (s + (1 : Int))))))))))))))))))))))))))))))))
 (.ret (.inr (Sum.inr (())))))
noncomputable def r8is (x : ((List I3) × ((List I2) × ((List I3) × (List I9))))) : Bool :=
 (if ((((List.length x.1) : Nat) : Int) > (2000 : Int)) then
 false else
 (if ((((List.length x.2.1) : Nat) : Int) > (2000 : Int)) then
 false else
 (if ((((List.length x.2.2.1) : Nat) : Int) > (2000 : Int)) then
 false else
 (if ((((List.length x.2.2.2) : Nat) : Int) > (500 : Int)) then
 false else
 (letV (r4all3 x.1) fun y =>
 (if ((!y) = true) then
 false else
 (letV (r4all2 x.2.1) fun y_1 =>
 (if ((!y_1) = true) then
 false else
 (letV (r4all3 x.2.2.1) fun y_2 =>
 (if ((!y_2) = true) then
 false else
 (letV (run (r8is_l0_step x) (0 : Int)) fun r =>
 (Sum.elim (fun a =>
 false) (fun b =>
 true) r))))))))))))
noncomputable def r8is_pre (x : ((List I3) × ((List I2) × ((List I3) × (List I9))))) : Prop :=
 (¬ ((((List.length x.1) : Nat) : Int) > (2000 : Int)) →
 (¬ ((((List.length x.2.1) : Nat) : Int) > (2000 : Int)) →
 (¬ ((((List.length x.2.2.1) : Nat) : Int) > (2000 : Int)) →
 (¬ ((((List.length x.2.2.2) : Nat) : Int) > (500 : Int)) →
 ((r4all3_pre x.1) ∧
 letP (r4all3 x.1) fun y =>
 (¬ ((!y) = true) →
 ((r4all2_pre x.2.1) ∧
 letP (r4all2 x.2.1) fun y_1 =>
 (¬ ((!y_1) = true) →
 ((r4all3_pre x.2.2.1) ∧
 letP (r4all3 x.2.2.1) fun y_2 =>
 (¬ ((!y_2) = true) →
 (Term (r8is_l0_step x) (r8is_l0_pre x) (0 : Int))))))))))))
noncomputable def r8is_t (x : ((List I3) × ((List I2) × ((List I3) × (List I9))))) : Tr Bool true :=
 (.i01 ((((List.length x.1) : Nat) : Int) > (2000 : Int))
 (.ret false)
 (.i01 ((((List.length x.2.1) : Nat) : Int) > (2000 : Int))
 (.ret false)
 (.i01 ((((List.length x.2.2.1) : Nat) : Int) > (2000 : Int))
 (.ret false)
 (.i01 ((((List.length x.2.2.2) : Nat) : Int) > (500 : Int))
 (.ret false)
 (.fn r4all3_S x.1 fun y =>
 (.b01 (!y)
 (.ret false)
 (.fn r4all2_S x.2.1 fun y_1 =>
 (.b01 (!y_1)
 (.ret false)
 (.fn r4all3_S x.2.2.1 fun y_2 =>
 (.b01 (!y_2)
 (.ret false)
 (LoopD.lp (r8is_l0 x) (r8is_l0_t x) (0 : Int) fun r =>
 (.s00 r (fun a =>
 (.ret false)) (fun b =>
 (.ret true))))))))))))))
noncomputable abbrev r8is_S : FnS := ⟨(.agg (Ty.prod (Ty.sl yy3) (Ty.prod (Ty.sl yy2) (Ty.prod (Ty.sl yy3) (Ty.sl yy9))))), (.one Ty.bool), r8is_pre, r8is⟩
theorem r8is_ok : SpecOk Tryz.prog 49 (fnSpec r8is_S) := SpecOk.tr r8is_S r8is_t (fn := Tryz.f49) tt_ok sp_r8within_ok mixed (by kernel_rfl) (ItsOk.nil _ _) (fun x => (LpsOk.tr tt_ok (SpecsOk.ctxI sp_r8within_ok (ItsOk.nil _ _)) mixed 0 (r8is_l0 x) (r8is_l0_t x) (LpsOk.unrollT tt_ok (SpecsOk.ctxI sp_r8within_ok (ItsOk.nil _ _)) mixed 2 4 LpsOk.nil (by kernel_rfl)) (by kernel_rfl) fun g s Q => (by kernel_rfl))) (fun x => (by kernel_rfl)) fun x Q => (by kernel_rfl)
def sp_r8is : List (Nat × Ev.Spec) := (49, fnSpec r8is_S) :: sp_r8within
theorem sp_r8is_ok : SpecsOk Tryz.prog sp_r8is := SpecsOk.add (fn := Tryz.f49) (by kernel_rfl) r8is_ok sp_r8within_ok
noncomputable def r15within (x : Int) : Bool :=
 (if (x ≥ (-4096 : Int)) then
 (decide (x ≤ (4096 : Int))) else
 false)
noncomputable def r15within_pre (_ : Int) : Prop := True
noncomputable def r15within_t (x : Int) : Tr Bool false :=
 (.i00 (x ≥ (-4096 : Int))
 (.ret (decide (x ≤ (4096 : Int))))
 (.ret false))
noncomputable abbrev r15within_S : FnS := ⟨(.one yi), (.one Ty.bool), r15within_pre, r15within⟩
theorem r15within_ok : SpecOk Tryz.prog 48 (fnSpec r15within_S) := SpecOk.tr r15within_S r15within_t (fn := Tryz.f48) tt_ok sp_r8is_ok mixed (by kernel_rfl) (ItsOk.nil _ _) (fun x => LpsOk.nil) (fun x => (by kernel_rfl)) fun x Q => (by kernel_rfl)
def sp_r15within : List (Nat × Ev.Spec) := (48, fnSpec r15within_S) :: sp_r8is
theorem sp_r15within_ok : SpecsOk Tryz.prog sp_r15within := SpecsOk.add (fn := Tryz.f48) (by kernel_rfl) r15within_ok sp_r8is_ok
noncomputable def r15tame_l0 (x : ((List I3) × ((List I2) × ((List I3) × (List I9))))) : LoopD := ⟨[], ⟨pvs 41 0 [(1, .v (.one (.ptr 0 0))), (3, .v (.one (.i .i64)))], [.cells [.full 1, .full 2, .full 3, .full 4] 26, .row yy3 0, .row yy2 0, .row yy3 0, .row yy9 0], 0, none, [], [1, 2, 3, 4], [0], [.i], [.l yy3 x.1, .l yy2 x.2.1, .l yy3 x.2.2.1, .l yy9 x.2.2.2]⟩, [⟨.ret, .ret, ⟨pvs 41 0 [(2, .v (.one (.b)))], [], 0, none, [], [0], [], [], [.b false]⟩⟩, ⟨(.exit 0), .normal, ⟨pvs 41 0 [(1, .v (.one (.ptr 0 0)))], [.cells [.full 1, .full 2, .full 3, .full 4] 26, .row yy3 0, .row yy2 0, .row yy3 0, .row yy9 0], 0, none, [], [0, 1, 2, 3], [], [], [.l yy3 x.1, .l yy2 x.2.1, .l yy3 x.2.2.1, .l yy9 x.2.2.2]⟩⟩]⟩
noncomputable def r15tame_l0_step (x : ((List I3) × ((List I2) × ((List I3) × (List I9))))) (s : Int) : Int ⊕ (Unit ⊕ Unit) :=
 (if (s < (((List.length x.1) : Nat) : Int)) then
 (letV (r15within (List.getD x.1 (Int.toNat s) ((0 : Int), ((0 : Int), (0 : Int)))).1) fun y =>
 (if ((!y) = true) then
 (Sum.inr (Sum.inl ())) else
 (letV (r15within (List.getD x.1 (Int.toNat s) ((0 : Int), ((0 : Int), (0 : Int)))).2.1) fun y_1 =>
 (if ((!y_1) = true) then
 (Sum.inr (Sum.inl ())) else
 (letV (r15within (List.getD x.1 (Int.toNat s) ((0 : Int), ((0 : Int), (0 : Int)))).2.2) fun y_2 =>
 (if ((!y_2) = true) then
 (Sum.inr (Sum.inl ())) else
 (Sum.inl (w64 (s + (1 : Int)))))))))) else
 (Sum.inr (Sum.inr (()))))
noncomputable def r15tame_l0_pre (x : ((List I3) × ((List I2) × ((List I3) × (List I9))))) (s : Int) : Prop :=
 ((s < (((List.length x.1) : Nat) : Int)) →
 ((((0 : Int) ≤ s) ∧ (s < (((List.length x.1) : Nat) : Int))) ∧
 (((Int.toNat s) < (List.length x.1)) ∧
 (((Int.toNat s) < (List.length x.1)) ∧
 (((Int.toNat s) < (List.length x.1)) ∧
 (letP (r15within (List.getD x.1 (Int.toNat s) ((0 : Int), ((0 : Int), (0 : Int)))).1) fun y =>
 (¬ ((!y) = true) →
 ((((0 : Int) ≤ s) ∧ (s < (((List.length x.1) : Nat) : Int))) ∧
 (((Int.toNat s) < (List.length x.1)) ∧
 (((Int.toNat s) < (List.length x.1)) ∧
 (((Int.toNat s) < (List.length x.1)) ∧
 (letP (r15within (List.getD x.1 (Int.toNat s) ((0 : Int), ((0 : Int), (0 : Int)))).2.1) fun y_1 =>
 (¬ ((!y_1) = true) →
 ((((0 : Int) ≤ s) ∧ (s < (((List.length x.1) : Nat) : Int))) ∧
 (((Int.toNat s) < (List.length x.1)) ∧
 (((Int.toNat s) < (List.length x.1)) ∧
 ((Int.toNat s) < (List.length x.1))))))))))))))))))
noncomputable def r15tame_l0_t (x : ((List I3) × ((List I2) × ((List I3) × (List I9))))) (s : Int) : Tr (Int ⊕ (Unit ⊕ Unit)) true :=
 (.i10 (s < (((List.length x.1) : Nat) : Int))
 (.oR s (((List.length x.1) : Nat) : Int)
 (.od ((Int.toNat s) < (List.length x.1))
 (.od ((Int.toNat s) < (List.length x.1))
 (.od ((Int.toNat s) < (List.length x.1))
 (.fn0 r15within_S (List.getD x.1 (Int.toNat s) zz3).1 trivial fun y =>
 (.b01 (!y)
 (.ret (.inr (Sum.inl ())))
 (.oR s (((List.length x.1) : Nat) : Int)
 (.od ((Int.toNat s) < (List.length x.1))
 (.od ((Int.toNat s) < (List.length x.1))
 (.od ((Int.toNat s) < (List.length x.1))
 (.fn0 r15within_S (List.getD x.1 (Int.toNat s) zz3).2.1 trivial fun y_1 =>
 (.b01 (!y_1)
 (.ret (.inr (Sum.inl ())))
 (.oR s (((List.length x.1) : Nat) : Int)
 (.od ((Int.toNat s) < (List.length x.1))
 (.od ((Int.toNat s) < (List.length x.1))
 (.od ((Int.toNat s) < (List.length x.1))
 (.fn0 r15within_S (List.getD x.1 (Int.toNat s) zz3).2.2 trivial fun y_2 =>
 (.b00 (!y_2)
 (.ret (.inr (Sum.inl ())))
 (.ret (.inl (w64 (s + (1 : Int)))))))))))))))))))))))
 (.ret (.inr (Sum.inr (())))))
noncomputable def r15tame (x : ((List I3) × ((List I2) × ((List I3) × (List I9))))) : Bool :=
 (letV (run (r15tame_l0_step x) (0 : Int)) fun r =>
 (Sum.elim (fun a =>
 false) (fun b =>
 (letV (r8is x) fun y =>
 y)) r))
noncomputable def r15tame_pre (x : ((List I3) × ((List I2) × ((List I3) × (List I9))))) : Prop :=
 (Term (r15tame_l0_step x) (r15tame_l0_pre x) (0 : Int) ∧
 letP (run (r15tame_l0_step x) (0 : Int)) fun r =>
 (cS r (fun a =>
 True) (fun b =>
 (r8is_pre x))))
noncomputable def r15tame_t (x : ((List I3) × ((List I2) × ((List I3) × (List I9))))) : Tr Bool true :=
 (LoopD.lp (r15tame_l0 x) (r15tame_l0_t x) (0 : Int) fun r =>
 (.s01 r (fun a =>
 (.ret false)) (fun b =>
 (.fn r8is_S x fun y =>
 (.ret y)))))
noncomputable abbrev r15tame_S : FnS := ⟨(.agg (Ty.prod (Ty.sl yy3) (Ty.prod (Ty.sl yy2) (Ty.prod (Ty.sl yy3) (Ty.sl yy9))))), (.one Ty.bool), r15tame_pre, r15tame⟩
theorem r15tame_ok : SpecOk Tryz.prog 29 (fnSpec r15tame_S) := SpecOk.tr r15tame_S r15tame_t (fn := Tryz.f29) tt_ok sp_r15within_ok mixed (by kernel_rfl) (ItsOk.nil _ _) (fun x => (LpsOk.tr tt_ok (SpecsOk.ctxI sp_r15within_ok (ItsOk.nil _ _)) mixed 0 (r15tame_l0 x) (r15tame_l0_t x) LpsOk.nil (by kernel_rfl) fun g s Q => (by kernel_rfl))) (fun x => (by kernel_rfl)) fun x Q => (by kernel_rfl)
def sp_r15tame : List (Nat × Ev.Spec) := (29, fnSpec r15tame_S) :: sp_r15within
theorem sp_r15tame_ok : SpecsOk Tryz.prog sp_r15tame := SpecsOk.add (fn := Tryz.f29) (by kernel_rfl) r15tame_ok sp_r15within_ok
noncomputable def r15place (x : (((List I3) × ((List I2) × ((List I3) × (List I9)))) × Int)) : Bool :=
 (if (x.2 ≥ (0 : Int)) then
 (decide (x.2 < (((List.length x.1.2.2.2) : Nat) : Int))) else
 false)
noncomputable def r15place_pre (_ : (((List I3) × ((List I2) × ((List I3) × (List I9)))) × Int)) : Prop := True
noncomputable def r15place_t (x : (((List I3) × ((List I2) × ((List I3) × (List I9)))) × Int)) : Tr Bool false :=
 (.i00 (x.2 ≥ (0 : Int))
 (.ret (decide (x.2 < (((List.length x.1.2.2.2) : Nat) : Int))))
 (.ret false))
noncomputable abbrev r15place_S : FnS := ⟨(.pair (.agg (Ty.prod (Ty.sl yy3) (Ty.prod (Ty.sl yy2) (Ty.prod (Ty.sl yy3) (Ty.sl yy9))))) (.one yi)), (.one Ty.bool), r15place_pre, r15place⟩
theorem r15place_ok : SpecOk Tryz.prog 50 (fnSpec r15place_S) := SpecOk.tr r15place_S r15place_t (fn := Tryz.f50) tt_ok sp_r15tame_ok mixed (by kernel_rfl) (ItsOk.nil _ _) (fun x => LpsOk.nil) (fun x => (by kernel_rfl)) fun x Q => (by kernel_rfl)
def sp_r15place : List (Nat × Ev.Spec) := (50, fnSpec r15place_S) :: sp_r15tame
theorem sp_r15place_ok : SpecsOk Tryz.prog sp_r15place := SpecsOk.add (fn := Tryz.f50) (by kernel_rfl) r15place_ok sp_r15tame_ok
noncomputable def r15points (x : (((List I3) × ((List I2) × ((List I3) × (List I9)))) × Int)) : I9 :=
 ((List.getD x.1.1 (Int.toNat (List.getD x.1.2.2.2 (Int.toNat x.2) (((0 : Int), ((0 : Int), (0 : Int))), (((0 : Int), ((0 : Int), (0 : Int))), ((0 : Int), ((0 : Int), (0 : Int)))))).1.1) ((0 : Int), ((0 : Int), (0 : Int)))), ((List.getD x.1.1 (Int.toNat (List.getD x.1.2.2.2 (Int.toNat x.2) (((0 : Int), ((0 : Int), (0 : Int))), (((0 : Int), ((0 : Int), (0 : Int))), ((0 : Int), ((0 : Int), (0 : Int)))))).2.1.1) ((0 : Int), ((0 : Int), (0 : Int)))), (List.getD x.1.1 (Int.toNat (List.getD x.1.2.2.2 (Int.toNat x.2) (((0 : Int), ((0 : Int), (0 : Int))), (((0 : Int), ((0 : Int), (0 : Int))), ((0 : Int), ((0 : Int), (0 : Int)))))).2.2.1) ((0 : Int), ((0 : Int), (0 : Int))))))
noncomputable def r15points_pre (x : (((List I3) × ((List I2) × ((List I3) × (List I9)))) × Int)) : Prop :=
 ((((0 : Int) ≤ x.2) ∧ (x.2 < (((List.length x.1.2.2.2) : Nat) : Int))) ∧
 (((Int.toNat x.2) < (List.length x.1.2.2.2)) ∧
 (((Int.toNat x.2) < (List.length x.1.2.2.2)) ∧
 ((((0 : Int) ≤ (List.getD x.1.2.2.2 (Int.toNat x.2) (((0 : Int), ((0 : Int), (0 : Int))), (((0 : Int), ((0 : Int), (0 : Int))), ((0 : Int), ((0 : Int), (0 : Int)))))).1.1) ∧ ((List.getD x.1.2.2.2 (Int.toNat x.2) (((0 : Int), ((0 : Int), (0 : Int))), (((0 : Int), ((0 : Int), (0 : Int))), ((0 : Int), ((0 : Int), (0 : Int)))))).1.1 < (((List.length x.1.1) : Nat) : Int))) ∧
 (((Int.toNat (List.getD x.1.2.2.2 (Int.toNat x.2) (((0 : Int), ((0 : Int), (0 : Int))), (((0 : Int), ((0 : Int), (0 : Int))), ((0 : Int), ((0 : Int), (0 : Int)))))).1.1) < (List.length x.1.1)) ∧
 (((Int.toNat (List.getD x.1.2.2.2 (Int.toNat x.2) (((0 : Int), ((0 : Int), (0 : Int))), (((0 : Int), ((0 : Int), (0 : Int))), ((0 : Int), ((0 : Int), (0 : Int)))))).1.1) < (List.length x.1.1)) ∧
 ((((0 : Int) ≤ (List.getD x.1.2.2.2 (Int.toNat x.2) (((0 : Int), ((0 : Int), (0 : Int))), (((0 : Int), ((0 : Int), (0 : Int))), ((0 : Int), ((0 : Int), (0 : Int)))))).2.1.1) ∧ ((List.getD x.1.2.2.2 (Int.toNat x.2) (((0 : Int), ((0 : Int), (0 : Int))), (((0 : Int), ((0 : Int), (0 : Int))), ((0 : Int), ((0 : Int), (0 : Int)))))).2.1.1 < (((List.length x.1.1) : Nat) : Int))) ∧
 (((Int.toNat (List.getD x.1.2.2.2 (Int.toNat x.2) (((0 : Int), ((0 : Int), (0 : Int))), (((0 : Int), ((0 : Int), (0 : Int))), ((0 : Int), ((0 : Int), (0 : Int)))))).2.1.1) < (List.length x.1.1)) ∧
 (((Int.toNat (List.getD x.1.2.2.2 (Int.toNat x.2) (((0 : Int), ((0 : Int), (0 : Int))), (((0 : Int), ((0 : Int), (0 : Int))), ((0 : Int), ((0 : Int), (0 : Int)))))).2.1.1) < (List.length x.1.1)) ∧
 ((((0 : Int) ≤ (List.getD x.1.2.2.2 (Int.toNat x.2) (((0 : Int), ((0 : Int), (0 : Int))), (((0 : Int), ((0 : Int), (0 : Int))), ((0 : Int), ((0 : Int), (0 : Int)))))).2.2.1) ∧ ((List.getD x.1.2.2.2 (Int.toNat x.2) (((0 : Int), ((0 : Int), (0 : Int))), (((0 : Int), ((0 : Int), (0 : Int))), ((0 : Int), ((0 : Int), (0 : Int)))))).2.2.1 < (((List.length x.1.1) : Nat) : Int))) ∧
 (((Int.toNat (List.getD x.1.2.2.2 (Int.toNat x.2) (((0 : Int), ((0 : Int), (0 : Int))), (((0 : Int), ((0 : Int), (0 : Int))), ((0 : Int), ((0 : Int), (0 : Int)))))).2.2.1) < (List.length x.1.1)) ∧
 ((Int.toNat (List.getD x.1.2.2.2 (Int.toNat x.2) (((0 : Int), ((0 : Int), (0 : Int))), (((0 : Int), ((0 : Int), (0 : Int))), ((0 : Int), ((0 : Int), (0 : Int)))))).2.2.1) < (List.length x.1.1)))))))))))))
noncomputable def r15points_t (x : (((List I3) × ((List I2) × ((List I3) × (List I9)))) × Int)) : Tr I9 true :=
 (.oR x.2 (((List.length x.1.2.2.2) : Nat) : Int)
 (.od ((Int.toNat x.2) < (List.length x.1.2.2.2))
 (.od ((Int.toNat x.2) < (List.length x.1.2.2.2))
 (.oR (List.getD x.1.2.2.2 (Int.toNat x.2) zz9).1.1 (((List.length x.1.1) : Nat) : Int)
 (.od ((Int.toNat (List.getD x.1.2.2.2 (Int.toNat x.2) zz9).1.1) < (List.length x.1.1))
 (.od ((Int.toNat (List.getD x.1.2.2.2 (Int.toNat x.2) zz9).1.1) < (List.length x.1.1))
 (.oR (List.getD x.1.2.2.2 (Int.toNat x.2) zz9).2.1.1 (((List.length x.1.1) : Nat) : Int)
 (.od ((Int.toNat (List.getD x.1.2.2.2 (Int.toNat x.2) zz9).2.1.1) < (List.length x.1.1))
 (.od ((Int.toNat (List.getD x.1.2.2.2 (Int.toNat x.2) zz9).2.1.1) < (List.length x.1.1))
 (.oR (List.getD x.1.2.2.2 (Int.toNat x.2) zz9).2.2.1 (((List.length x.1.1) : Nat) : Int)
 (.od ((Int.toNat (List.getD x.1.2.2.2 (Int.toNat x.2) zz9).2.2.1) < (List.length x.1.1))
 (.od ((Int.toNat (List.getD x.1.2.2.2 (Int.toNat x.2) zz9).2.2.1) < (List.length x.1.1))
 (.ret ((List.getD x.1.1 (Int.toNat (List.getD x.1.2.2.2 (Int.toNat x.2) zz9).1.1) zz3), ((List.getD x.1.1 (Int.toNat (List.getD x.1.2.2.2 (Int.toNat x.2) zz9).2.1.1) zz3), (List.getD x.1.1 (Int.toNat (List.getD x.1.2.2.2 (Int.toNat x.2) zz9).2.2.1) zz3))))))))))))))))
noncomputable abbrev r15points_S : FnS := ⟨(.pair (.agg (Ty.prod (Ty.sl yy3) (Ty.prod (Ty.sl yy2) (Ty.prod (Ty.sl yy3) (Ty.sl yy9))))) (.one yi)), (.agg yy9), r15points_pre, r15points⟩
theorem r15points_ok : SpecOk Tryz.prog 51 (fnSpec r15points_S) := SpecOk.tr r15points_S r15points_t (fn := Tryz.f51) tt_ok sp_r15place_ok mixed (by kernel_rfl) (ItsOk.nil _ _) (fun x => LpsOk.nil) (fun x => (by kernel_rfl)) fun x Q => (by kernel_rfl)
def sp_r15points : List (Nat × Ev.Spec) := (51, fnSpec r15points_S) :: sp_r15place
theorem sp_r15points_ok : SpecsOk Tryz.prog sp_r15points := SpecsOk.add (fn := Tryz.f51) (by kernel_rfl) r15points_ok sp_r15place_ok
noncomputable def r15facing (x : (((List I3) × ((List I2) × ((List I3) × (List I9)))) × Int)) : (Int × (Int × Bool)) :=
 (letV (r15tame x.1) fun y =>
 (if ((!y) = true) then
 ((0 : Int), ((0 : Int), false)) else
 (letV (r15place x) fun y_1 =>
 (if ((!y_1) = true) then
 ((0 : Int), ((0 : Int), false)) else
 (letV (r15points x) fun y_2 =>
 (letV (r9facing y_2) fun y_3 =>
 (y_3.1, (y_3.2.1, (y_3.2.2 == (0 : Int))))))))))
noncomputable def r15facing_pre (x : (((List I3) × ((List I2) × ((List I3) × (List I9)))) × Int)) : Prop :=
 ((r15tame_pre x.1) ∧
 letP (r15tame x.1) fun y =>
 (¬ ((!y) = true) →
 (letP (r15place x) fun y_1 =>
 (¬ ((!y_1) = true) →
 ((r15points_pre x) ∧
 letP (r15points x) fun y_2 =>
 (r9facing_pre y_2))))))
noncomputable def r15facing_t (x : (((List I3) × ((List I2) × ((List I3) × (List I9)))) × Int)) : Tr (Int × (Int × Bool)) true :=
 (.fn r15tame_S x.1 fun y =>
 (.b01 (!y)
 (.ret ((0 : Int), ((0 : Int), false)))
 (.fn0 r15place_S x trivial fun y_1 =>
 (.b01 (!y_1)
 (.ret ((0 : Int), ((0 : Int), false)))
 (.fn r15points_S x fun y_2 =>
 (.fn r9facing_S y_2 fun y_3 =>
 (.ret (y_3.1, (y_3.2.1, (y_3.2.2 == (0 : Int)))))))))))
noncomputable abbrev r15facing_S : FnS := ⟨(.pair (.agg (Ty.prod (Ty.sl yy3) (Ty.prod (Ty.sl yy2) (Ty.prod (Ty.sl yy3) (Ty.sl yy9))))) (.one yi)), (.pair (.one yi) (.pair (.one yi) (.one Ty.bool))), r15facing_pre, r15facing⟩
theorem r15facing_ok : SpecOk Tryz.prog 30 (fnSpec r15facing_S) := SpecOk.tr r15facing_S r15facing_t (fn := Tryz.f30) tt_ok sp_r15points_ok mixed (by kernel_rfl) (ItsOk.nil _ _) (fun x => LpsOk.nil) (fun x => (by kernel_rfl)) fun x Q => (by kernel_rfl)
def sp_r15facing : List (Nat × Ev.Spec) := (30, fnSpec r15facing_S) :: sp_r15points
theorem sp_r15facing_ok : SpecsOk Tryz.prog sp_r15facing := SpecsOk.add (fn := Tryz.f30) (by kernel_rfl) r15facing_ok sp_r15points_ok
noncomputable def r15shadow (x : (((List I3) × ((List I2) × ((List I3) × (List I9)))) × I2)) : (I6 × Int) :=
 (letV (r15tame x.1) fun y =>
 (if ((!y) = true) then
 ((((0 : Int), (0 : Int)), (((0 : Int), (0 : Int)), ((0 : Int), (0 : Int)))), (1 : Int)) else
 (letV (r15place (x.1, x.2.1)) fun y_1 =>
 (if ((!y_1) = true) then
 ((((0 : Int), (0 : Int)), (((0 : Int), (0 : Int)), ((0 : Int), (0 : Int)))), (1 : Int)) else
 (if (x.2.2 < (0 : Int)) then
 ((((0 : Int), (0 : Int)), (((0 : Int), (0 : Int)), ((0 : Int), (0 : Int)))), (1 : Int)) else
 (if (x.2.2 > (2 : Int)) then
 ((((0 : Int), (0 : Int)), (((0 : Int), (0 : Int)), ((0 : Int), (0 : Int)))), (1 : Int)) else
 (letV (r15points (x.1, x.2.1)) fun y_2 =>
 (letV (r4drop (y_2.1, x.2.2)) fun y_3 =>
 (letV (r4drop (y_2.2.1, x.2.2)) fun y_4 =>
 (letV (r4drop (y_2.2.2, x.2.2)) fun y_5 =>
 ((y_3.1, (y_4.1, y_5.1)), (0 : Int))))))))))))
noncomputable def r15shadow_pre (x : (((List I3) × ((List I2) × ((List I3) × (List I9)))) × I2)) : Prop :=
 ((r15tame_pre x.1) ∧
 letP (r15tame x.1) fun y =>
 (¬ ((!y) = true) →
 (letP (r15place (x.1, x.2.1)) fun y_1 =>
 (¬ ((!y_1) = true) →
 (¬ (x.2.2 < (0 : Int)) →
 (¬ (x.2.2 > (2 : Int)) →
 (r15points_pre (x.1, x.2.1))))))))
noncomputable def r15shadow_t (x : (((List I3) × ((List I2) × ((List I3) × (List I9)))) × I2)) : Tr (I6 × Int) true :=
 (.fn r15tame_S x.1 fun y =>
 (.b01 (!y)
 (.ret (zz6, (1 : Int)))
 (.fn0 r15place_S (x.1, x.2.1) trivial fun y_1 =>
 (.b01 (!y_1)
 (.ret (zz6, (1 : Int)))
 (.i01 (x.2.2 < (0 : Int))
 (.ret (zz6, (1 : Int)))
 (.i01 (x.2.2 > (2 : Int))
 (.ret (zz6, (1 : Int)))
 (.fn r15points_S (x.1, x.2.1) fun y_2 =>
 (.fn0 r4drop_S (y_2.1, x.2.2) trivial fun y_3 =>
 (.fn0 r4drop_S (y_2.2.1, x.2.2) trivial fun y_4 =>
 (.fn0 r4drop_S (y_2.2.2, x.2.2) trivial fun y_5 =>
 (.ret ((y_3.1, (y_4.1, y_5.1)), (0 : Int)))))))))))))
noncomputable abbrev r15shadow_S : FnS := ⟨(.pair (.agg (Ty.prod (Ty.sl yy3) (Ty.prod (Ty.sl yy2) (Ty.prod (Ty.sl yy3) (Ty.sl yy9))))) (.pair (.one yi) (.one yi))), (.pair (.agg yy6) (.one yi)), r15shadow_pre, r15shadow⟩
theorem r15shadow_ok : SpecOk Tryz.prog 31 (fnSpec r15shadow_S) := SpecOk.tr r15shadow_S r15shadow_t (fn := Tryz.f31) tt_ok sp_r15facing_ok mixed (by kernel_rfl) (ItsOk.nil _ _) (fun x => LpsOk.nil) (fun x => (by kernel_rfl)) fun x Q => (by kernel_rfl)
def sp_r15shadow : List (Nat × Ev.Spec) := (31, fnSpec r15shadow_S) :: sp_r15facing
theorem sp_r15shadow_ok : SpecsOk Tryz.prog sp_r15shadow := SpecsOk.add (fn := Tryz.f31) (by kernel_rfl) r15shadow_ok sp_r15facing_ok
noncomputable def r16size (x : Int) : I2 :=
 (if (x < (0 : Int)) then
 ((0 : Int), (5 : Int)) else
 (if (x > (4096 : Int)) then
 ((0 : Int), (5 : Int)) else
 ((w64 ((w64 (Int.tdiv x (16 : Int))) + (1 : Int))), (0 : Int))))
noncomputable def r16size_pre (_ : Int) : Prop := True
noncomputable def r16size_t (x : Int) : Tr I2 false :=
 (.i00 (x < (0 : Int))
 (.ret ((0 : Int), (5 : Int)))
 (.i00 (x > (4096 : Int))
 (.ret ((0 : Int), (5 : Int)))
 (.ret ((w64 ((w64 (Int.tdiv x (16 : Int))) + (1 : Int))), (0 : Int)))))
noncomputable abbrev r16size_S : FnS := ⟨(.one yi), (.pair (.one yi) (.one yi)), r16size_pre, r16size⟩
theorem r16size_ok : SpecOk Tryz.prog 14 (fnSpec r16size_S) := SpecOk.tr r16size_S r16size_t (fn := Tryz.f14) tt_ok sp_r15shadow_ok mixed (by kernel_rfl) (ItsOk.nil _ _) (fun x => LpsOk.nil) (fun x => (by kernel_rfl)) fun x Q => (by kernel_rfl)
def sp_r16size : List (Nat × Ev.Spec) := (14, fnSpec r16size_S) :: sp_r15shadow
theorem sp_r16size_ok : SpecsOk Tryz.prog sp_r16size := SpecsOk.add (fn := Tryz.f14) (by kernel_rfl) r16size_ok sp_r15shadow_ok
noncomputable def r16box_l0 (x : (List I6)) : LoopD := ⟨[], ⟨pvs 68 0 [(0, .v (.one (.full 0))), (2, .v (.one (.ptr 1 0))), (3, .v (.one (.ptr 2 0))), (5, .v (.one (.ptr 3 0))), (6, .v (.one (.ptr 4 0))), (7, .v (.one (.i .i64)))], [.row yy6 0, .cells [.i .i64, .i .i64] 34, .cells [.i .i64, .i .i64] 34, .cells [.i .i64, .i .i64] 34, .cells [.i .i64, .i .i64] 34], 0, none, [], [1, 2, 3, 4, 5], [6, 7, 8, 9, 0], [.i, .i, .i, .i, .i], [.l yy6 x, .i (0 : Int), .i (0 : Int), .i (0 : Int), .i (0 : Int)]⟩, [⟨.ret, .ret, ⟨pvs 68 0 [(2, .v (.one (.ptr 0 0))), (3, .v (.one (.ptr 1 0))), (4, .v (.one (.i .i64)))], [.cells [.i .i64, .i .i64] 34, .cells [.i .i64, .i .i64] 34], 0, none, [], [0, 1, 2, 3, 4], [], [], [.i (5 : Int), .i (0 : Int), .i (0 : Int), .i (0 : Int), .i (0 : Int)]⟩⟩, ⟨(.exit 0), .normal, ⟨pvs 68 0 [(2, .v (.one (.ptr 0 0))), (3, .v (.one (.ptr 1 0))), (5, .v (.one (.ptr 2 0))), (6, .v (.one (.ptr 3 0)))], [.cells [.i .i64, .i .i64] 34, .cells [.i .i64, .i .i64] 34, .cells [.i .i64, .i .i64] 34, .cells [.i .i64, .i .i64] 34], 0, none, [], [0, 1, 2, 3], [4, 5, 6, 7], [.i, .i, .i, .i], [.i (0 : Int), .i (0 : Int), .i (0 : Int), .i (0 : Int)]⟩⟩]⟩
noncomputable def r16box_l0_step (x : (List I6)) (s : (Int × (Int × I3))) : (Int × (Int × I3)) ⊕ (Unit ⊕ (Int × I3)) :=
 (if (s.2.2.2.2 < (((List.length x) : Nat) : Int)) then
 (letV (r9small2 (List.getD x (Int.toNat s.2.2.2.2) (((0 : Int), (0 : Int)), (((0 : Int), (0 : Int)), ((0 : Int), (0 : Int))))).1) fun y =>
 (if ((!y) = true) then
 (Sum.inr (Sum.inl ())) else
 (letV (r9small2 (List.getD x (Int.toNat s.2.2.2.2) (((0 : Int), (0 : Int)), (((0 : Int), (0 : Int)), ((0 : Int), (0 : Int))))).2.1) fun y_1 =>
 (if ((!y_1) = true) then
 (Sum.inr (Sum.inl ())) else
 (letV (r9small2 (List.getD x (Int.toNat s.2.2.2.2) (((0 : Int), (0 : Int)), (((0 : Int), (0 : Int)), ((0 : Int), (0 : Int))))).2.2) fun y_2 =>
 (if ((!y_2) = true) then
 (Sum.inr (Sum.inl ())) else
 (Sum.inl ((minI (minI (minI s.1 (List.getD x (Int.toNat s.2.2.2.2) (((0 : Int), (0 : Int)), (((0 : Int), (0 : Int)), ((0 : Int), (0 : Int))))).1.1) (List.getD x (Int.toNat s.2.2.2.2) (((0 : Int), (0 : Int)), (((0 : Int), (0 : Int)), ((0 : Int), (0 : Int))))).2.1.1) (List.getD x (Int.toNat s.2.2.2.2) (((0 : Int), (0 : Int)), (((0 : Int), (0 : Int)), ((0 : Int), (0 : Int))))).2.2.1), ((minI (minI (minI s.2.1 (List.getD x (Int.toNat s.2.2.2.2) (((0 : Int), (0 : Int)), (((0 : Int), (0 : Int)), ((0 : Int), (0 : Int))))).1.2) (List.getD x (Int.toNat s.2.2.2.2) (((0 : Int), (0 : Int)), (((0 : Int), (0 : Int)), ((0 : Int), (0 : Int))))).2.1.2) (List.getD x (Int.toNat s.2.2.2.2) (((0 : Int), (0 : Int)), (((0 : Int), (0 : Int)), ((0 : Int), (0 : Int))))).2.2.2), ((maxI (maxI (maxI s.2.2.1 (List.getD x (Int.toNat s.2.2.2.2) (((0 : Int), (0 : Int)), (((0 : Int), (0 : Int)), ((0 : Int), (0 : Int))))).1.1) (List.getD x (Int.toNat s.2.2.2.2) (((0 : Int), (0 : Int)), (((0 : Int), (0 : Int)), ((0 : Int), (0 : Int))))).2.1.1) (List.getD x (Int.toNat s.2.2.2.2) (((0 : Int), (0 : Int)), (((0 : Int), (0 : Int)), ((0 : Int), (0 : Int))))).2.2.1), ((maxI (maxI (maxI s.2.2.2.1 (List.getD x (Int.toNat s.2.2.2.2) (((0 : Int), (0 : Int)), (((0 : Int), (0 : Int)), ((0 : Int), (0 : Int))))).1.2) (List.getD x (Int.toNat s.2.2.2.2) (((0 : Int), (0 : Int)), (((0 : Int), (0 : Int)), ((0 : Int), (0 : Int))))).2.1.2) (List.getD x (Int.toNat s.2.2.2.2) (((0 : Int), (0 : Int)), (((0 : Int), (0 : Int)), ((0 : Int), (0 : Int))))).2.2.2), (w64 (s.2.2.2.2 + (1 : Int)))))))))))))) else
 (Sum.inr (Sum.inr ((s.1, (s.2.1, (s.2.2.1, s.2.2.2.1)))))))
noncomputable def r16box_l0_pre (x : (List I6)) (s : (Int × (Int × I3))) : Prop :=
 ((s.2.2.2.2 < (((List.length x) : Nat) : Int)) →
 ((((0 : Int) ≤ s.2.2.2.2) ∧ (s.2.2.2.2 < (((List.length x) : Nat) : Int))) ∧
 (((Int.toNat s.2.2.2.2) < (List.length x)) ∧
 (((Int.toNat s.2.2.2.2) < (List.length x)) ∧
 (((Int.toNat s.2.2.2.2) < (List.length x)) ∧
 (letP (r9small2 (List.getD x (Int.toNat s.2.2.2.2) (((0 : Int), (0 : Int)), (((0 : Int), (0 : Int)), ((0 : Int), (0 : Int))))).1) fun y =>
 (¬ ((!y) = true) →
 ((((0 : Int) ≤ s.2.2.2.2) ∧ (s.2.2.2.2 < (((List.length x) : Nat) : Int))) ∧
 (((Int.toNat s.2.2.2.2) < (List.length x)) ∧
 (((Int.toNat s.2.2.2.2) < (List.length x)) ∧
 (((Int.toNat s.2.2.2.2) < (List.length x)) ∧
 (letP (r9small2 (List.getD x (Int.toNat s.2.2.2.2) (((0 : Int), (0 : Int)), (((0 : Int), (0 : Int)), ((0 : Int), (0 : Int))))).2.1) fun y_1 =>
 (¬ ((!y_1) = true) →
 ((((0 : Int) ≤ s.2.2.2.2) ∧ (s.2.2.2.2 < (((List.length x) : Nat) : Int))) ∧
 (((Int.toNat s.2.2.2.2) < (List.length x)) ∧
 (((Int.toNat s.2.2.2.2) < (List.length x)) ∧
 ((Int.toNat s.2.2.2.2) < (List.length x))))))))))))))))))
noncomputable def r16box_l0_t (x : (List I6)) (s : (Int × (Int × I3))) : Tr ((Int × (Int × I3)) ⊕ (Unit ⊕ (Int × I3))) true :=
 (.i10 (s.2.2.2.2 < (((List.length x) : Nat) : Int))
 (.oR s.2.2.2.2 (((List.length x) : Nat) : Int)
 (.od ((Int.toNat s.2.2.2.2) < (List.length x))
 (.od ((Int.toNat s.2.2.2.2) < (List.length x))
 (.od ((Int.toNat s.2.2.2.2) < (List.length x))
 (.fn0 r9small2_S (List.getD x (Int.toNat s.2.2.2.2) zz6).1 trivial fun y =>
 (.b01 (!y)
 (.ret (.inr (Sum.inl ())))
 (.oR s.2.2.2.2 (((List.length x) : Nat) : Int)
 (.od ((Int.toNat s.2.2.2.2) < (List.length x))
 (.od ((Int.toNat s.2.2.2.2) < (List.length x))
 (.od ((Int.toNat s.2.2.2.2) < (List.length x))
 (.fn0 r9small2_S (List.getD x (Int.toNat s.2.2.2.2) zz6).2.1 trivial fun y_1 =>
 (.b01 (!y_1)
 (.ret (.inr (Sum.inl ())))
 (.oR s.2.2.2.2 (((List.length x) : Nat) : Int)
 (.od ((Int.toNat s.2.2.2.2) < (List.length x))
 (.od ((Int.toNat s.2.2.2.2) < (List.length x))
 (.od ((Int.toNat s.2.2.2.2) < (List.length x))
 (.fn0 r9small2_S (List.getD x (Int.toNat s.2.2.2.2) zz6).2.2 trivial fun y_2 =>
 (.b00 (!y_2)
 (.ret (.inr (Sum.inl ())))
 (.ret (.inl ((minI (minI (minI s.1 (List.getD x (Int.toNat s.2.2.2.2) zz6).1.1) (List.getD x (Int.toNat s.2.2.2.2) zz6).2.1.1) (List.getD x (Int.toNat s.2.2.2.2) zz6).2.2.1), ((minI (minI (minI s.2.1 (List.getD x (Int.toNat s.2.2.2.2) zz6).1.2) (List.getD x (Int.toNat s.2.2.2.2) zz6).2.1.2) (List.getD x (Int.toNat s.2.2.2.2) zz6).2.2.2), ((maxI (maxI (maxI s.2.2.1 (List.getD x (Int.toNat s.2.2.2.2) zz6).1.1) (List.getD x (Int.toNat s.2.2.2.2) zz6).2.1.1) (List.getD x (Int.toNat s.2.2.2.2) zz6).2.2.1), ((maxI (maxI (maxI s.2.2.2.1 (List.getD x (Int.toNat s.2.2.2.2) zz6).1.2) (List.getD x (Int.toNat s.2.2.2.2) zz6).2.1.2) (List.getD x (Int.toNat s.2.2.2.2) zz6).2.2.2), (w64 (s.2.2.2.2 + (1 : Int)))))))))))))))))))))))))))
 (.ret (.inr (Sum.inr ((s.1, (s.2.1, (s.2.2.1, s.2.2.2.1))))))))
noncomputable def r16box (x : (List I6)) : (I2 × (I2 × Int)) :=
 (if (((((List.length x) : Nat) : Int) == (0 : Int)) = true) then
 (((0 : Int), (0 : Int)), (((0 : Int), (0 : Int)), (1 : Int))) else
 (letV (run (r16box_l0_step x) ((List.getD x 0 (((0 : Int), (0 : Int)), (((0 : Int), (0 : Int)), ((0 : Int), (0 : Int))))).1.1, ((List.getD x 0 (((0 : Int), (0 : Int)), (((0 : Int), (0 : Int)), ((0 : Int), (0 : Int))))).1.2, ((List.getD x 0 (((0 : Int), (0 : Int)), (((0 : Int), (0 : Int)), ((0 : Int), (0 : Int))))).1.1, ((List.getD x 0 (((0 : Int), (0 : Int)), (((0 : Int), (0 : Int)), ((0 : Int), (0 : Int))))).1.2, (0 : Int)))))) fun r =>
 (Sum.elim (fun a =>
 (((0 : Int), (0 : Int)), (((0 : Int), (0 : Int)), (5 : Int)))) (fun b =>
 ((b.1, b.2.1), (b.2.2, (0 : Int)))) r)))
noncomputable def r16box_pre (x : (List I6)) : Prop :=
 (¬ (((((List.length x) : Nat) : Int) == (0 : Int)) = true) →
 (((0 : Int) < (((List.length x) : Nat) : Int)) ∧
 ((0 < (List.length x)) ∧
 ((0 < (List.length x)) ∧
 ((0 < (List.length x)) ∧
 (((0 : Int) < (((List.length x) : Nat) : Int)) ∧
 ((0 < (List.length x)) ∧
 ((0 < (List.length x)) ∧
 ((0 < (List.length x)) ∧
 (Term (r16box_l0_step x) (r16box_l0_pre x) ((List.getD x 0 (((0 : Int), (0 : Int)), (((0 : Int), (0 : Int)), ((0 : Int), (0 : Int))))).1.1, ((List.getD x 0 (((0 : Int), (0 : Int)), (((0 : Int), (0 : Int)), ((0 : Int), (0 : Int))))).1.2, ((List.getD x 0 (((0 : Int), (0 : Int)), (((0 : Int), (0 : Int)), ((0 : Int), (0 : Int))))).1.1, ((List.getD x 0 (((0 : Int), (0 : Int)), (((0 : Int), (0 : Int)), ((0 : Int), (0 : Int))))).1.2, (0 : Int)))))))))))))))
noncomputable def r16box_t (x : (List I6)) : Tr (I2 × (I2 × Int)) true :=
 (.b01 ((((List.length x) : Nat) : Int) == (0 : Int))
 (.ret (zz2, (zz2, (1 : Int))))
 (.og (true && (decide ((0 : Int) < (((List.length x) : Nat) : Int)))) ((0 : Int) < (((List.length x) : Nat) : Int)) (fun h => (and_t rfl (decide_eq_true h)))
 (.od (0 < (List.length x))
 (.od (0 < (List.length x))
 (.od (0 < (List.length x))
 (.og (true && (decide ((0 : Int) < (((List.length x) : Nat) : Int)))) ((0 : Int) < (((List.length x) : Nat) : Int)) (fun h => (and_t rfl (decide_eq_true h)))
 (.od (0 < (List.length x))
 (.od (0 < (List.length x))
 (.od (0 < (List.length x))
 (LoopD.lp (r16box_l0 x) (r16box_l0_t x) ((List.getD x 0 zz6).1.1, ((List.getD x 0 zz6).1.2, ((List.getD x 0 zz6).1.1, ((List.getD x 0 zz6).1.2, (0 : Int))))) fun r =>
 (.s00 r (fun a =>
 (.ret (zz2, (zz2, (5 : Int))))) (fun b =>
 (.ret ((b.1, b.2.1), (b.2.2, (0 : Int))))))))))))))))
noncomputable abbrev r16box_S : FnS := ⟨(.one (Ty.sl yy6)), (.pair (.agg yy2) (.pair (.agg yy2) (.one yi))), r16box_pre, r16box⟩
theorem r16box_ok : SpecOk Tryz.prog 12 (fnSpec r16box_S) := SpecOk.tr r16box_S r16box_t (fn := Tryz.f12) tt_ok sp_r16size_ok mixed (by kernel_rfl) (ItsOk.nil _ _) (fun x => (LpsOk.tr tt_ok (SpecsOk.ctxI sp_r16size_ok (ItsOk.nil _ _)) mixed 0 (r16box_l0 x) (r16box_l0_t x) (LpsOk.unrollT tt_ok (SpecsOk.ctxI sp_r16size_ok (ItsOk.nil _ _)) mixed 2 4 LpsOk.nil (by kernel_rfl)) (by kernel_rfl) fun g s Q => (by kernel_rfl))) (fun x => (by kernel_rfl)) fun x Q => (by kernel_rfl)
def sp_r16box : List (Nat × Ev.Spec) := (12, fnSpec r16box_S) :: sp_r16size
theorem sp_r16box_ok : SpecsOk Tryz.prog sp_r16box := SpecsOk.add (fn := Tryz.f12) (by kernel_rfl) r16box_ok sp_r16size_ok
noncomputable def r16apart_l2 (x : (List I6)) : LoopD := ⟨[], ⟨pvs 35 0 [(0, .v (.one (.full 0))), (3, .v (.one (.i .i64))), (4, .v (.one (.i .i64)))], [.row yy6 0], 0, none, [], [2], [0, 1], [.i, .i], [.l yy6 x]⟩, [⟨.ret, .ret, ⟨pvs 35 0 [(2, .v (.one (.b)))], [], 0, none, [], [0], [], [], [.b false]⟩⟩, ⟨(.exit 2), .normal, ⟨pvs 35 0 [(0, .v (.one (.full 0))), (3, .v (.one (.i .i64)))], [.row yy6 0], 0, none, [], [1], [0], [.i], [.l yy6 x]⟩⟩]⟩
noncomputable def r16apart_l2_step (x : (List I6)) (s : I2) : I2 ⊕ (Unit ⊕ Int) :=
 (if (s.2 < s.1) then
 (letV (r10overlap ((List.getD x (Int.toNat s.1) (((0 : Int), (0 : Int)), (((0 : Int), (0 : Int)), ((0 : Int), (0 : Int))))), (List.getD x (Int.toNat s.2) (((0 : Int), (0 : Int)), (((0 : Int), (0 : Int)), ((0 : Int), (0 : Int))))))) fun y =>
 (if ((y.2 != (0 : Int)) = true) then
 (Sum.inr (Sum.inl ())) else
 (if (y.1 = true) then
 (Sum.inr (Sum.inl ())) else
 (Sum.inl (s.1, (w64 (s.2 + (1 : Int)))))))) else
 (Sum.inr (Sum.inr (s.1))))
noncomputable def r16apart_l2_pre (x : (List I6)) (s : I2) : Prop :=
 ((s.2 < s.1) →
 ((((0 : Int) ≤ s.1) ∧ (s.1 < (((List.length x) : Nat) : Int))) ∧
 (((Int.toNat s.1) < (List.length x)) ∧
 (((Int.toNat s.1) < (List.length x)) ∧
 ((((0 : Int) ≤ s.2) ∧ (s.2 < (((List.length x) : Nat) : Int))) ∧
 (((Int.toNat s.2) < (List.length x)) ∧
 (((Int.toNat s.2) < (List.length x)) ∧
 (r10overlap_pre ((List.getD x (Int.toNat s.1) (((0 : Int), (0 : Int)), (((0 : Int), (0 : Int)), ((0 : Int), (0 : Int))))), (List.getD x (Int.toNat s.2) (((0 : Int), (0 : Int)), (((0 : Int), (0 : Int)), ((0 : Int), (0 : Int))))))))))))))
noncomputable def r16apart_l2_t (x : (List I6)) (s : I2) : Tr (I2 ⊕ (Unit ⊕ Int)) true :=
 (.i10 (s.2 < s.1)
 (.oR s.1 (((List.length x) : Nat) : Int)
 (.od ((Int.toNat s.1) < (List.length x))
 (.od ((Int.toNat s.1) < (List.length x))
 (.oR s.2 (((List.length x) : Nat) : Int)
 (.od ((Int.toNat s.2) < (List.length x))
 (.od ((Int.toNat s.2) < (List.length x))
 (.fn r10overlap_S ((List.getD x (Int.toNat s.1) zz6), (List.getD x (Int.toNat s.2) zz6)) fun y =>
 (.b00 (y.2 != (0 : Int))
 (.ret (.inr (Sum.inl ())))
 (.b00 y.1
 (.ret (.inr (Sum.inl ())))
 (.ret (.inl (s.1, (w64 (s.2 + (1 : Int)))))))))))))))
 (.ret (.inr (Sum.inr (s.1)))))
noncomputable def r16apart_l0 (x : (List I6)) : LoopD := ⟨[], ⟨pvs 35 0 [(0, .v (.one (.full 0))), (3, .v (.one (.i .i64)))], [.row yy6 0], 0, none, [], [1], [0], [.i], [.l yy6 x]⟩, [⟨.ret, .ret, ⟨pvs 35 0 [(2, .v (.one (.b)))], [], 0, none, [], [0], [], [], [.b false]⟩⟩, ⟨(.exit 0), .normal, ⟨pvs 35 0 [], [], 0, none, [], [], [], [], []⟩⟩]⟩
noncomputable def r16apart_l0_step (x : (List I6)) (s : Int) : Int ⊕ (Unit ⊕ Unit) :=
 (if (s < (((List.length x) : Nat) : Int)) then
 (letV (run (r16apart_l2_step x) (s, (0 : Int))) fun r =>
 (Sum.elim (fun a =>
 (Sum.inr (Sum.inl ()))) (fun b =>
 (Sum.inl (w64 (b + (1 : Int))))) r)) else
 (Sum.inr (Sum.inr (()))))
noncomputable def r16apart_l0_pre (x : (List I6)) (s : Int) : Prop :=
 ((s < (((List.length x) : Nat) : Int)) →
 (Term (r16apart_l2_step x) (r16apart_l2_pre x) (s, (0 : Int))))
noncomputable def r16apart_l0_t (x : (List I6)) (s : Int) : Tr (Int ⊕ (Unit ⊕ Unit)) true :=
 (.i10 (s < (((List.length x) : Nat) : Int))
 (LoopD.lp (r16apart_l2 x) (r16apart_l2_t x) (s, (0 : Int)) fun r =>
 (.s00 r (fun a =>
 (.ret (.inr (Sum.inl ())))) (fun b =>
 (.ret (.inl (w64 (b + (1 : Int))))))))
 (.ret (.inr (Sum.inr (())))))
noncomputable def r16apart (x : (List I6)) : Bool :=
 (letV (run (r16apart_l0_step x) (0 : Int)) fun r =>
 (Sum.elim (fun a =>
 false) (fun b =>
 true) r))
noncomputable def r16apart_pre (x : (List I6)) : Prop :=
 (Term (r16apart_l0_step x) (r16apart_l0_pre x) (0 : Int))
noncomputable def r16apart_t (x : (List I6)) : Tr Bool true :=
 (LoopD.lp (r16apart_l0 x) (r16apart_l0_t x) (0 : Int) fun r =>
 (.s00 r (fun a =>
 (.ret false)) (fun b =>
 (.ret true))))
noncomputable abbrev r16apart_S : FnS := ⟨(.one (Ty.sl yy6)), (.one Ty.bool), r16apart_pre, r16apart⟩
theorem r16apart_ok : SpecOk Tryz.prog 32 (fnSpec r16apart_S) := SpecOk.tr r16apart_S r16apart_t (fn := Tryz.f32) tt_ok sp_r16box_ok mixed (by kernel_rfl) (ItsOk.nil _ _) (fun x => (LpsOk.tr tt_ok (SpecsOk.ctxI sp_r16box_ok (ItsOk.nil _ _)) mixed 0 (r16apart_l0 x) (r16apart_l0_t x) (LpsOk.tr tt_ok (SpecsOk.ctxI sp_r16box_ok (ItsOk.nil _ _)) mixed 2 (r16apart_l2 x) (r16apart_l2_t x) LpsOk.nil (by kernel_rfl) fun g s Q => (by kernel_rfl)) (by kernel_rfl) fun g s Q => (by kernel_rfl))) (fun x => (by kernel_rfl)) fun x Q => (by kernel_rfl)
def sp_r16apart : List (Nat × Ev.Spec) := (32, fnSpec r16apart_S) :: sp_r16box
theorem sp_r16apart_ok : SpecsOk Tryz.prog sp_r16apart := SpecsOk.add (fn := Tryz.f32) (by kernel_rfl) r16apart_ok sp_r16box_ok
noncomputable def r16is_l0 (x : ((List Int) × ((List I6) × I2))) : LoopD := ⟨[], ⟨pvs 97 0 [(1, .v (.one (.ptr 0 0))), (3, .v (.one (.i .i64)))], [.cells [.full 1, .full 2, .i .i64, .i .i64] 32, .row yi 0, .row yy6 0], 0, none, [], [1, 2, 3, 4], [0], [.i], [.i x.2.2.1, .i x.2.2.2, .l yi x.1, .l yy6 x.2.1]⟩, [⟨.ret, .ret, ⟨pvs 97 0 [(2, .v (.one (.b)))], [], 0, none, [], [0], [], [], [.b false]⟩⟩, ⟨(.exit 0), .normal, ⟨pvs 97 0 [(1, .v (.one (.ptr 0 0)))], [.cells [.full 1, .full 2, .i .i64, .i .i64] 32, .row yi 0, .row yy6 0], 0, none, [], [0, 1, 2, 3], [], [], [.i x.2.2.1, .i x.2.2.2, .l yi x.1, .l yy6 x.2.1]⟩⟩]⟩
noncomputable def r16is_l0_step (x : ((List Int) × ((List I6) × I2))) (s : Int) : Int ⊕ (Unit ⊕ Unit) :=
 (if (s < (((List.length x.2.1) : Nat) : Int)) then
 (letV (r10right (List.getD x.2.1 (Int.toNat s) (((0 : Int), (0 : Int)), (((0 : Int), (0 : Int)), ((0 : Int), (0 : Int)))))) fun y =>
 (if ((!y) = true) then
 (Sum.inr (Sum.inl ())) else
 (Sum.inl (w64 (s + (1 : Int)))))) else
 (Sum.inr (Sum.inr (()))))
noncomputable def r16is_l0_pre (x : ((List Int) × ((List I6) × I2))) (s : Int) : Prop :=
 ((s < (((List.length x.2.1) : Nat) : Int)) →
 ((((0 : Int) ≤ s) ∧ (s < (((List.length x.2.1) : Nat) : Int))) ∧
 (((Int.toNat s) < (List.length x.2.1)) ∧
 ((Int.toNat s) < (List.length x.2.1)))))
noncomputable def r16is_l0_t (x : ((List Int) × ((List I6) × I2))) (s : Int) : Tr (Int ⊕ (Unit ⊕ Unit)) true :=
 (.i10 (s < (((List.length x.2.1) : Nat) : Int))
 (.oR s (((List.length x.2.1) : Nat) : Int)
 (.od ((Int.toNat s) < (List.length x.2.1))
 (.od ((Int.toNat s) < (List.length x.2.1))
 (.fn0 r10right_S (List.getD x.2.1 (Int.toNat s) zz6) trivial fun y =>
 (.b00 (!y)
 (.ret (.inr (Sum.inl ())))
 (.ret (.inl (w64 (s + (1 : Int))))))))))
 (.ret (.inr (Sum.inr (())))))
noncomputable def r16is (x : ((List Int) × ((List I6) × I2))) : Bool :=
 (if (((((List.length x.1) : Nat) : Int) == (0 : Int)) = true) then
 false else
 (if ((((List.length x.1) : Nat) : Int) > (500 : Int)) then
 false else
 (if (((((List.length x.2.1) : Nat) : Int) != (((List.length x.1) : Nat) : Int)) = true) then
 false else
 (letV (run (r16is_l0_step x) (0 : Int)) fun r =>
 (Sum.elim (fun a =>
 false) (fun b =>
 (letV (r16box x.2.1) fun y =>
 (if ((y.2.2 != (0 : Int)) = true) then
 false else
 (if ((!((y.1.1 == (0 : Int)) && ((y.1.2 == (0 : Int)) && true))) = true) then
 false else
 (if (y.2.1.1 > (4096 : Int)) then
 false else
 (if (y.2.1.2 > (4096 : Int)) then
 false else
 (letV (r16size y.2.1.1) fun y_1 =>
 (letV (r16size y.2.1.2) fun y_2 =>
 (if ((x.2.2.1 == y_1.1) = true) then
 (if ((x.2.2.2 == y_2.1) = true) then
 (letV (r16apart x.2.1) fun y_3 =>
 y_3) else
 false) else
 false))))))))) r)))))
noncomputable def r16is_pre (x : ((List Int) × ((List I6) × I2))) : Prop :=
 (¬ (((((List.length x.1) : Nat) : Int) == (0 : Int)) = true) →
 (¬ ((((List.length x.1) : Nat) : Int) > (500 : Int)) →
 (¬ (((((List.length x.2.1) : Nat) : Int) != (((List.length x.1) : Nat) : Int)) = true) →
 (Term (r16is_l0_step x) (r16is_l0_pre x) (0 : Int) ∧
 letP (run (r16is_l0_step x) (0 : Int)) fun r =>
 (cS r (fun a =>
 True) (fun b =>
 ((r16box_pre x.2.1) ∧
 letP (r16box x.2.1) fun y =>
 (¬ ((y.2.2 != (0 : Int)) = true) →
 (¬ ((!((y.1.1 == (0 : Int)) && ((y.1.2 == (0 : Int)) && true))) = true) →
 (¬ (y.2.1.1 > (4096 : Int)) →
 (¬ (y.2.1.2 > (4096 : Int)) →
 (letP (r16size y.2.1.1) fun y_1 =>
 (letP (r16size y.2.1.2) fun y_2 =>
 (((x.2.2.1 == y_1.1) = true) →
 (((x.2.2.2 == y_2.1) = true) →
 (r16apart_pre x.2.1))))))))))))))))
noncomputable def r16is_t (x : ((List Int) × ((List I6) × I2))) : Tr Bool true :=
 (.b01 ((((List.length x.1) : Nat) : Int) == (0 : Int))
 (.ret false)
 (.i01 ((((List.length x.1) : Nat) : Int) > (500 : Int))
 (.ret false)
 (.b01 ((((List.length x.2.1) : Nat) : Int) != (((List.length x.1) : Nat) : Int))
 (.ret false)
 (LoopD.lp (r16is_l0 x) (r16is_l0_t x) (0 : Int) fun r =>
 (.s01 r (fun a =>
 (.ret false)) (fun b =>
 (.fn r16box_S x.2.1 fun y =>
 (.b01 (y.2.2 != (0 : Int))
 (.ret false)
 (.b01 (!((y.1.1 == (0 : Int)) && ((y.1.2 == (0 : Int)) && true)))
 (.ret false)
 (.i01 (y.2.1.1 > (4096 : Int))
 (.ret false)
 (.i01 (y.2.1.2 > (4096 : Int))
 (.ret false)
 (.fn0 r16size_S y.2.1.1 trivial fun y_1 =>
 (.fn0 r16size_S y.2.1.2 trivial fun y_2 =>
 (.b10 (x.2.2.1 == y_1.1)
 (.b10 (x.2.2.2 == y_2.1)
 (.fn r16apart_S x.2.1 fun y_3 =>
 (.ret y_3))
 (.ret false))
 (.ret false)))))))))))))))
noncomputable abbrev r16is_S : FnS := ⟨(.agg (Ty.prod (Ty.sl yi) (Ty.prod (Ty.sl yy6) yy2))), (.one Ty.bool), r16is_pre, r16is⟩
theorem r16is_ok : SpecOk Tryz.prog 19 (fnSpec r16is_S) := SpecOk.tr r16is_S r16is_t (fn := Tryz.f19) tt_ok sp_r16apart_ok mixed (by kernel_rfl) (ItsOk.nil _ _) (fun x => (LpsOk.tr tt_ok (SpecsOk.ctxI sp_r16apart_ok (ItsOk.nil _ _)) mixed 0 (r16is_l0 x) (r16is_l0_t x) LpsOk.nil (by kernel_rfl) fun g s Q => (by kernel_rfl))) (fun x => (by kernel_rfl)) fun x Q => (by kernel_rfl)
def sp_r16is : List (Nat × Ev.Spec) := (19, fnSpec r16is_S) :: sp_r16apart
theorem sp_r16is_ok : SpecsOk Tryz.prog sp_r16is := SpecsOk.add (fn := Tryz.f19) (by kernel_rfl) r16is_ok sp_r16apart_ok
end Go.Proofs.YtpbbnoggkbfkoaaGreat
