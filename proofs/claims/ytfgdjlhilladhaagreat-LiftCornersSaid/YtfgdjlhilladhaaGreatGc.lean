/- Models of LiftOwners, LiftCorners. -/
import Derived.Test.YtfgdjlhilladhaaGreatGb
namespace Go.Proofs.YtfgdjlhilladhaaGreat
open Go Go.Ev Go.Proofs
set_option linter.unusedVariables false
noncomputable def few14 (x : ((List I3) × ((List I2) × ((List I3) × (List I9))))) : Bool :=
 (if ((((List.length x.1) : Nat) : Int) ≤ (20 : Int)) then
 (if ((((List.length x.2.1) : Nat) : Int) ≤ (60 : Int)) then
 (if ((((List.length x.2.2.1) : Nat) : Int) ≤ (60 : Int)) then
 (decide ((((List.length x.2.2.2) : Nat) : Int) ≤ (20 : Int))) else
 false) else
 false) else
 false)
noncomputable def few14_pre (_ : ((List I3) × ((List I2) × ((List I3) × (List I9))))) : Prop := True
noncomputable def few14_t (x : ((List I3) × ((List I2) × ((List I3) × (List I9))))) : Tr Bool false :=
 (.i00 ((((List.length x.1) : Nat) : Int) ≤ (20 : Int))
 (.i00 ((((List.length x.2.1) : Nat) : Int) ≤ (60 : Int))
 (.i00 ((((List.length x.2.2.1) : Nat) : Int) ≤ (60 : Int))
 (.ret (decide ((((List.length x.2.2.2) : Nat) : Int) ≤ (20 : Int))))
 (.ret false))
 (.ret false))
 (.ret false))
noncomputable abbrev few14_S : FnS := ⟨(.agg (Ty.prod (Ty.sl yy3) (Ty.prod (Ty.sl yy2) (Ty.prod (Ty.sl yy3) (Ty.sl yy9))))), (.one Ty.bool), few14_pre, few14⟩
theorem few14_ok : SpecOk Tryz.prog 56 (fnSpec few14_S) := SpecOk.tr few14_S few14_t (fn := Tryz.f56) tt_ok sp_l20lifted_ok mixed (by kernel_rfl) (ItsOk.nil _ _) (fun x => LpsOk.nil) (fun x => (by kernel_rfl)) fun x Q => (by kernel_rfl)
def sp_few14 : List (Nat × Ev.Spec) := (56, fnSpec few14_S) :: sp_l20lifted
theorem sp_few14_ok : SpecsOk Tryz.prog sp_few14 := SpecsOk.add (fn := Tryz.f56) (by kernel_rfl) few14_ok sp_l20lifted_ok
noncomputable def few15_l0 (x : (((List I3) × ((List I2) × ((List I3) × (List I9)))) × (List (Int × (Int × (List Int)))))) : LoopD := ⟨[], ⟨pvs 37 0 [(1, .v (.one (.full 0))), (2, .v (.one (.ptr 1 0))), (5, .v (.one (.i .i64)))], [.row (Ty.prod yi (Ty.prod yi (Ty.sl yi))) 0, .cells [.full 2, .full 3, .full 4, .full 5] 32, .row yy3 0, .row yy2 0, .row yy3 0, .row yy9 0], 0, none, [], [1, 2, 3, 4, 5], [0], [.i], [.l (Ty.prod yi (Ty.prod yi (Ty.sl yi))) x.2, .l yy3 x.1.1, .l yy2 x.1.2.1, .l yy3 x.1.2.2.1, .l yy9 x.1.2.2.2]⟩, [⟨.ret, .ret, ⟨pvs 37 0 [(4, .v (.one (.b)))], [], 0, none, [], [0], [], [], [.b false]⟩⟩, ⟨(.exit 0), .normal, ⟨pvs 37 0 [(1, .v (.one (.full 0))), (2, .v (.one (.ptr 1 0)))], [.row (Ty.prod yi (Ty.prod yi (Ty.sl yi))) 0, .cells [.full 2, .full 3, .full 4, .full 5] 32, .row yy3 0, .row yy2 0, .row yy3 0, .row yy9 0], 0, none, [], [0, 1, 2, 3, 4], [], [], [.l (Ty.prod yi (Ty.prod yi (Ty.sl yi))) x.2, .l yy3 x.1.1, .l yy2 x.1.2.1, .l yy3 x.1.2.2.1, .l yy9 x.1.2.2.2]⟩⟩]⟩
noncomputable def few15_l0_step (x : (((List I3) × ((List I2) × ((List I3) × (List I9)))) × (List (Int × (Int × (List Int)))))) (s : Int) : Int ⊕ (Unit ⊕ Unit) :=
 (if (s < (((List.length x.2) : Nat) : Int)) then
 (if ((((List.length x.2) : Nat) : Int) ≤ (20 : Int)) then
 (if ((((List.length (List.getD x.2 (Int.toNat s) ((0 : Int), ((0 : Int), []))).2.2) : Nat) : Int) > (20 : Int)) then
 (Sum.inr (Sum.inl ())) else
 (Sum.inl (w64 (s + (1 : Int))))) else
 (Sum.inr (Sum.inr (())))) else
 (Sum.inr (Sum.inr (()))))
noncomputable def few15_l0_pre (x : (((List I3) × ((List I2) × ((List I3) × (List I9)))) × (List (Int × (Int × (List Int)))))) (s : Int) : Prop :=
 ((s < (((List.length x.2) : Nat) : Int)) →
 (((((List.length x.2) : Nat) : Int) ≤ (20 : Int)) →
 ((((0 : Int) ≤ s) ∧ (s < (((List.length x.2) : Nat) : Int))) ∧
 (((Int.toNat s) < (List.length x.2)) ∧
 (((Int.toNat s) < (List.length x.2)) ∧
 ((Int.toNat s) < (List.length x.2)))))))
noncomputable def few15_l0_t (x : (((List I3) × ((List I2) × ((List I3) × (List I9)))) × (List (Int × (Int × (List Int)))))) (s : Int) : Tr (Int ⊕ (Unit ⊕ Unit)) true :=
 (.i10 (s < (((List.length x.2) : Nat) : Int))
 (.i10 ((((List.length x.2) : Nat) : Int) ≤ (20 : Int))
 (.oR s (((List.length x.2) : Nat) : Int)
 (.od ((Int.toNat s) < (List.length x.2))
 (.od ((Int.toNat s) < (List.length x.2))
 (.od ((Int.toNat s) < (List.length x.2))
 (.i00 ((((List.length (List.getD x.2 (Int.toNat s) ((0 : Int), ((0 : Int), []))).2.2) : Nat) : Int) > (20 : Int))
 (.ret (.inr (Sum.inl ())))
 (.ret (.inl (w64 (s + (1 : Int))))))))))
 (.ret (.inr (Sum.inr (())))))
 (.ret (.inr (Sum.inr (())))))
noncomputable def few15 (x : (((List I3) × ((List I2) × ((List I3) × (List I9)))) × (List (Int × (Int × (List Int)))))) : Bool :=
 (letV (run (few15_l0_step x) (0 : Int)) fun r =>
 (Sum.elim (fun a =>
 false) (fun b =>
 (if ((((List.length x.2) : Nat) : Int) ≤ (20 : Int)) then
 (letV (few14 x.1) fun y =>
 (if (y = true) then
 (decide ((((List.length x.1.2.2.2) : Nat) : Int) ≤ (12 : Int))) else
 false)) else
 false)) r))
noncomputable def few15_pre (x : (((List I3) × ((List I2) × ((List I3) × (List I9)))) × (List (Int × (Int × (List Int)))))) : Prop :=
 (Term (few15_l0_step x) (few15_l0_pre x) (0 : Int))
noncomputable def few15_t (x : (((List I3) × ((List I2) × ((List I3) × (List I9)))) × (List (Int × (Int × (List Int)))))) : Tr Bool true :=
 (LoopD.lp (few15_l0 x) (few15_l0_t x) (0 : Int) fun r =>
 (.s00 r (fun a =>
 (.ret false)) (fun b =>
 (.i00 ((((List.length x.2) : Nat) : Int) ≤ (20 : Int))
 (.fn0 few14_S x.1 trivial fun y =>
 (.b00 y
 (.ret (decide ((((List.length x.1.2.2.2) : Nat) : Int) ≤ (12 : Int))))
 (.ret false)))
 (.ret false)))))
noncomputable abbrev few15_S : FnS := ⟨(.pair (.agg (Ty.prod (Ty.sl yy3) (Ty.prod (Ty.sl yy2) (Ty.prod (Ty.sl yy3) (Ty.sl yy9))))) (.one (Ty.sl (Ty.prod yi (Ty.prod yi (Ty.sl yi)))))), (.one Ty.bool), few15_pre, few15⟩
theorem few15_ok : SpecOk Tryz.prog 26 (fnSpec few15_S) := SpecOk.tr few15_S few15_t (fn := Tryz.f26) tt_ok sp_few14_ok mixed (by kernel_rfl) (ItsOk.nil _ _) (fun x => (LpsOk.tr tt_ok (SpecsOk.ctxI sp_few14_ok (ItsOk.nil _ _)) mixed 0 (few15_l0 x) (few15_l0_t x) LpsOk.nil (by kernel_rfl) fun g s Q => (by kernel_rfl))) (fun x => (by kernel_rfl)) fun x Q => (by kernel_rfl)
def sp_few15 : List (Nat × Ev.Spec) := (26, fnSpec few15_S) :: sp_few14
theorem sp_few15_ok : SpecsOk Tryz.prog sp_few15 := SpecsOk.add (fn := Tryz.f26) (by kernel_rfl) few15_ok sp_few14_ok
noncomputable def big16 (x : ((List Int) × ((List I6) × I2))) : Bool :=
 (if ((((List.length x.1) : Nat) : Int) > (15 : Int)) then
 true else
 (decide ((((List.length x.2.1) : Nat) : Int) > (15 : Int))))
noncomputable def big16_pre (_ : ((List Int) × ((List I6) × I2))) : Prop := True
noncomputable def big16_t (x : ((List Int) × ((List I6) × I2))) : Tr Bool false :=
 (.i00 ((((List.length x.1) : Nat) : Int) > (15 : Int))
 (.ret true)
 (.ret (decide ((((List.length x.2.1) : Nat) : Int) > (15 : Int)))))
noncomputable abbrev big16_S : FnS := ⟨(.agg (Ty.prod (Ty.sl yi) (Ty.prod (Ty.sl yy6) yy2))), (.one Ty.bool), big16_pre, big16⟩
theorem big16_ok : SpecOk Tryz.prog 57 (fnSpec big16_S) := SpecOk.tr big16_S big16_t (fn := Tryz.f57) tt_ok sp_few15_ok mixed (by kernel_rfl) (ItsOk.nil _ _) (fun x => LpsOk.nil) (fun x => (by kernel_rfl)) fun x Q => (by kernel_rfl)
def sp_big16 : List (Nat × Ev.Spec) := (57, fnSpec big16_S) :: sp_few15
theorem sp_big16_ok : SpecsOk Tryz.prog sp_big16 := SpecsOk.add (fn := Tryz.f57) (by kernel_rfl) big16_ok sp_few15_ok
noncomputable def big18_l0 (x : (List ((List Int) × ((List I6) × I2)))) : LoopD := ⟨[], ⟨pvs 36 0 [(0, .v (.one (.full 0))), (3, .v (.one (.i .i64))), (4, .v (.one (.i .i64)))], [.row (Ty.prod (Ty.sl yi) (Ty.prod (Ty.sl yy6) yy2)) 0], 0, none, [], [2], [0, 1], [.i, .i], [.l (Ty.prod (Ty.sl yi) (Ty.prod (Ty.sl yy6) yy2)) x]⟩, [⟨.ret, .ret, ⟨pvs 36 0 [(2, .v (.one (.b)))], [], 0, none, [], [0], [], [], [.b true]⟩⟩, ⟨(.exit 0), .normal, ⟨pvs 36 0 [(0, .v (.one (.full 0))), (3, .v (.one (.i .i64)))], [.row (Ty.prod (Ty.sl yi) (Ty.prod (Ty.sl yy6) yy2)) 0], 0, none, [], [1], [0], [.i], [.l (Ty.prod (Ty.sl yi) (Ty.prod (Ty.sl yy6) yy2)) x]⟩⟩]⟩
noncomputable def big18_l0_step (x : (List ((List Int) × ((List I6) × I2)))) (s : I2) : I2 ⊕ (Unit ⊕ Int) :=
 (if (s.2 < (((List.length x) : Nat) : Int)) then
 (if ((((List.length x) : Nat) : Int) ≤ (12 : Int)) then
 (letV (big16 (List.getD x (Int.toNat s.2) ([], ([], ((0 : Int), (0 : Int)))))) fun y =>
 (if (y = true) then
 (Sum.inr (Sum.inl ())) else
 (Sum.inl ((w64 (s.1 + (((List.length (List.getD x (Int.toNat s.2) ([], ([], ((0 : Int), (0 : Int))))).2.1) : Nat) : Int))), (w64 (s.2 + (1 : Int))))))) else
 (Sum.inr (Sum.inr (s.1)))) else
 (Sum.inr (Sum.inr (s.1))))
noncomputable def big18_l0_pre (x : (List ((List Int) × ((List I6) × I2)))) (s : I2) : Prop :=
 ((s.2 < (((List.length x) : Nat) : Int)) →
 (((((List.length x) : Nat) : Int) ≤ (12 : Int)) →
 ((((0 : Int) ≤ s.2) ∧ (s.2 < (((List.length x) : Nat) : Int))) ∧
 (((Int.toNat s.2) < (List.length x)) ∧
 (((Int.toNat s.2) < (List.length x)) ∧
 (letP (big16 (List.getD x (Int.toNat s.2) ([], ([], ((0 : Int), (0 : Int)))))) fun y =>
 (¬ (y = true) →
 ((((0 : Int) ≤ s.2) ∧ (s.2 < (((List.length x) : Nat) : Int))) ∧
 (((Int.toNat s.2) < (List.length x)) ∧
 (((Int.toNat s.2) < (List.length x)) ∧
 ((Int.toNat s.2) < (List.length x))))))))))))
noncomputable def big18_l0_t (x : (List ((List Int) × ((List I6) × I2)))) (s : I2) : Tr (I2 ⊕ (Unit ⊕ Int)) true :=
 (.i10 (s.2 < (((List.length x) : Nat) : Int))
 (.i10 ((((List.length x) : Nat) : Int) ≤ (12 : Int))
 (.oR s.2 (((List.length x) : Nat) : Int)
 (.od ((Int.toNat s.2) < (List.length x))
 (.od ((Int.toNat s.2) < (List.length x))
 (.fn0 big16_S (List.getD x (Int.toNat s.2) ([], ([], zz2))) trivial fun y =>
 (.b01 y
 (.ret (.inr (Sum.inl ())))
 (.oR s.2 (((List.length x) : Nat) : Int)
 (.od ((Int.toNat s.2) < (List.length x))
 (.od ((Int.toNat s.2) < (List.length x))
 (.od ((Int.toNat s.2) < (List.length x))
 (.ret (.inl ((w64 (s.1 + (((List.length (List.getD x (Int.toNat s.2) ([], ([], zz2))).2.1) : Nat) : Int))), (w64 (s.2 + (1 : Int)))))))))))))))
 (.ret (.inr (Sum.inr (s.1)))))
 (.ret (.inr (Sum.inr (s.1)))))
noncomputable def big18 (x : (List ((List Int) × ((List I6) × I2)))) : Bool :=
 (letV (run (big18_l0_step x) ((0 : Int), (0 : Int))) fun r =>
 (Sum.elim (fun a =>
 true) (fun b =>
 (if ((((List.length x) : Nat) : Int) > (12 : Int)) then
 true else
 (decide (b > (30 : Int))))) r))
noncomputable def big18_pre (x : (List ((List Int) × ((List I6) × I2)))) : Prop :=
 (Term (big18_l0_step x) (big18_l0_pre x) ((0 : Int), (0 : Int)))
noncomputable def big18_t (x : (List ((List Int) × ((List I6) × I2)))) : Tr Bool true :=
 (LoopD.lp (big18_l0 x) (big18_l0_t x) zz2 fun r =>
 (.s00 r (fun a =>
 (.ret true)) (fun b =>
 (.i00 ((((List.length x) : Nat) : Int) > (12 : Int))
 (.ret true)
 (.ret (decide (b > (30 : Int))))))))
noncomputable abbrev big18_S : FnS := ⟨(.one (Ty.sl (Ty.prod (Ty.sl yi) (Ty.prod (Ty.sl yy6) yy2)))), (.one Ty.bool), big18_pre, big18⟩
theorem big18_ok : SpecOk Tryz.prog 27 (fnSpec big18_S) := SpecOk.tr big18_S big18_t (fn := Tryz.f27) tt_ok sp_big16_ok mixed (by kernel_rfl) (ItsOk.nil _ _) (fun x => (LpsOk.tr tt_ok (SpecsOk.ctxI sp_big16_ok (ItsOk.nil _ _)) mixed 0 (big18_l0 x) (big18_l0_t x) LpsOk.nil (by kernel_rfl) fun g s Q => (by kernel_rfl))) (fun x => (by kernel_rfl)) fun x Q => (by kernel_rfl)
def sp_big18 : List (Nat × Ev.Spec) := (27, fnSpec big18_S) :: sp_big16
theorem sp_big18_ok : SpecsOk Tryz.prog sp_big18 := SpecsOk.add (fn := Tryz.f27) (by kernel_rfl) big18_ok sp_big16_ok
noncomputable def few20 (x : (((List I3) × ((List I2) × ((List I3) × (List I9)))) × (Int × (Int × (Int × ((List ((List Int) × ((List I6) × I2))) × (List (Int × I3)))))))) : Bool :=
 (letV (few15 (x.1, [])) fun y =>
 (if (y = true) then
 (letV (big18 x.2.2.2.2.1) fun y_1 =>
 (if ((!y_1) = true) then
 (if ((((List.length x.2.2.2.2.2) : Nat) : Int) ≤ (30 : Int)) then
 (if (x.2.1 ≤ (24 : Int)) then
 (decide (x.2.2.1 ≤ (24 : Int))) else
 false) else
 false) else
 false)) else
 false))
noncomputable def few20_pre (x : (((List I3) × ((List I2) × ((List I3) × (List I9)))) × (Int × (Int × (Int × ((List ((List Int) × ((List I6) × I2))) × (List (Int × I3)))))))) : Prop :=
 ((few15_pre (x.1, [])) ∧
 letP (few15 (x.1, [])) fun y =>
 ((y = true) →
 (big18_pre x.2.2.2.2.1)))
noncomputable def few20_t (x : (((List I3) × ((List I2) × ((List I3) × (List I9)))) × (Int × (Int × (Int × ((List ((List Int) × ((List I6) × I2))) × (List (Int × I3)))))))) : Tr Bool true :=
 (.fn few15_S (x.1, []) fun y =>
 (.b10 y
 (.fn big18_S x.2.2.2.2.1 fun y_1 =>
 (.b00 (!y_1)
 (.i00 ((((List.length x.2.2.2.2.2) : Nat) : Int) ≤ (30 : Int))
 (.i00 (x.2.1 ≤ (24 : Int))
 (.ret (decide (x.2.2.1 ≤ (24 : Int))))
 (.ret false))
 (.ret false))
 (.ret false)))
 (.ret false)))
noncomputable abbrev few20_S : FnS := ⟨(.pair (.agg (Ty.prod (Ty.sl yy3) (Ty.prod (Ty.sl yy2) (Ty.prod (Ty.sl yy3) (Ty.sl yy9))))) (.agg (Ty.prod yi (Ty.prod yi (Ty.prod yi (Ty.prod (Ty.sl (Ty.prod (Ty.sl yi) (Ty.prod (Ty.sl yy6) yy2))) (Ty.sl (Ty.prod yi yy3)))))))), (.one Ty.bool), few20_pre, few20⟩
theorem few20_ok : SpecOk Tryz.prog 6 (fnSpec few20_S) := SpecOk.tr few20_S few20_t (fn := Tryz.f6) tt_ok sp_big18_ok mixed (by kernel_rfl) (ItsOk.nil _ _) (fun x => LpsOk.nil) (fun x => (by kernel_rfl)) fun x Q => (by kernel_rfl)
def sp_few20 : List (Nat × Ev.Spec) := (6, fnSpec few20_S) :: sp_big18
theorem sp_few20_ok : SpecsOk Tryz.prog sp_few20 := SpecsOk.add (fn := Tryz.f6) (by kernel_rfl) few20_ok sp_big18_ok
noncomputable def l20owners_l0 (x : (((List I3) × ((List I2) × ((List I3) × (List I9)))) × (Int × (Int × (Int × ((List ((List Int) × ((List I6) × I2))) × (List (Int × I3)))))))) : LoopD := ⟨[], ⟨pvs 184 0 [(2, .v (.one (.ptr 0 0))), (3, .v (.one (.ptr 5 0))), (5, .v (.one (.full 8))), (7, .v (.one (.full 9))), (10, .v (.one (.full 10))), (12, .v (.one (.i .i64))), (13, .v (.one (.i .i64)))], [.cells [.full 1, .full 2, .full 3, .full 4] 32, .row yy3 0, .row yy2 0, .row yy3 0, .row yy9 0, .cells [.i .i64, .i .i64, .i .i64, .full 6, .full 7] 36, .row (Ty.prod (Ty.sl yi) (Ty.prod (Ty.sl yy6) yy2)) 0, .row (Ty.prod yi yy3) 0, .row (Ty.prod yi (Ty.prod yi (Ty.prod yi yy3))) 2, .row yy6 2, .row yi 2], 0, none, [], [2, 3, 4, 5, 6, 7, 8, 9, 10], [11, 12, 13, 0, 1], [(.l (Ty.prod yi (Ty.prod yi (Ty.prod yi yy3)))), (.l yy6), (.l yi), .i, .i], [.l yy3 x.1.1, .l yy2 x.1.2.1, .l yy3 x.1.2.2.1, .l yy9 x.1.2.2.2, .i x.2.1, .i x.2.2.1, .i x.2.2.2.1, .l (Ty.prod (Ty.sl yi) (Ty.prod (Ty.sl yy6) yy2)) x.2.2.2.2.1, .l (Ty.prod yi yy3) x.2.2.2.2.2]⟩, [⟨.ret, .ret, ⟨pvs 184 0 [(4, .v (.one (.b)))], [], 0, none, [], [0], [], [], [.b false]⟩⟩, ⟨(.exit 0), .normal, ⟨pvs 184 0 [(5, .v (.one (.full 0))), (12, .v (.one (.i .i64)))], [.row (Ty.prod yi (Ty.prod yi (Ty.prod yi yy3))) 2], 0, none, [], [], [1, 0], [(.l (Ty.prod yi (Ty.prod yi (Ty.prod yi yy3)))), .i], []⟩⟩]⟩
noncomputable def l20owners_l0_step (x : (((List I3) × ((List I2) × ((List I3) × (List I9)))) × (Int × (Int × (Int × ((List ((List Int) × ((List I6) × I2))) × (List (Int × I3)))))))) (s : ((List (Int × (Int × (Int × I3)))) × ((List I6) × ((List Int) × I2)))) : ((List (Int × (Int × (Int × I3)))) × ((List I6) × ((List Int) × I2))) ⊕ (Unit ⊕ ((List (Int × (Int × (Int × I3)))) × Int)) :=
 (if (s.2.2.2.2 < (((List.length s.2.2.1) : Nat) : Int)) then
 (if ((List.getD s.2.2.1 (Int.toNat s.2.2.2.2) (0 : Int)) < (0 : Int)) then
 (Sum.inl (s.1, (s.2.1, (s.2.2.1, (s.2.2.2.1, (w64 (s.2.2.2.2 + (1 : Int)))))))) else
 (if (s.2.2.2.1 ≥ (((List.length s.1) : Nat) : Int)) then
 (Sum.inr (Sum.inl ())) else
 (if (((List.getD s.1 (Int.toNat s.2.2.2.1) ((0 : Int), ((0 : Int), ((0 : Int), ((0 : Int), ((0 : Int), (0 : Int))))))).1 != (Int.tmod s.2.2.2.2 x.2.1)) = true) then
 (Sum.inr (Sum.inl ())) else
 (if (((List.getD s.1 (Int.toNat s.2.2.2.1) ((0 : Int), ((0 : Int), ((0 : Int), ((0 : Int), ((0 : Int), (0 : Int))))))).2.1 != (w64 (Int.tdiv s.2.2.2.2 x.2.1))) = true) then
 (Sum.inr (Sum.inl ())) else
 (if ((List.getD s.1 (Int.toNat s.2.2.2.1) ((0 : Int), ((0 : Int), ((0 : Int), ((0 : Int), ((0 : Int), (0 : Int))))))).2.2.1 < (0 : Int)) then
 (Sum.inr (Sum.inl ())) else
 (if ((List.getD s.1 (Int.toNat s.2.2.2.1) ((0 : Int), ((0 : Int), ((0 : Int), ((0 : Int), ((0 : Int), (0 : Int))))))).2.2.1 ≥ (((List.length x.1.2.2.2) : Nat) : Int)) then
 (Sum.inr (Sum.inl ())) else
 (letV (findM (x.2, (List.getD s.1 (Int.toNat s.2.2.2.1) ((0 : Int), ((0 : Int), ((0 : Int), ((0 : Int), ((0 : Int), (0 : Int))))))).2.2.1)) fun y =>
 (letV (lat (s.1, ((List.getD s.1 (Int.toNat s.2.2.2.1) ((0 : Int), ((0 : Int), ((0 : Int), ((0 : Int), ((0 : Int), (0 : Int))))))).1, (List.getD s.1 (Int.toNat s.2.2.2.1) ((0 : Int), ((0 : Int), ((0 : Int), ((0 : Int), ((0 : Int), (0 : Int))))))).2.1))) fun y_1 =>
 (if ((!y.2) = true) then
 (Sum.inr (Sum.inl ())) else
 (if ((!(((y.1.1.1 == (List.getD s.2.1 (Int.toNat (List.getD s.2.2.1 (Int.toNat s.2.2.2.2) (0 : Int))) (((0 : Int), (0 : Int)), (((0 : Int), (0 : Int)), ((0 : Int), (0 : Int))))).1.1) && ((y.1.1.2 == (List.getD s.2.1 (Int.toNat (List.getD s.2.2.1 (Int.toNat s.2.2.2.2) (0 : Int))) (((0 : Int), (0 : Int)), (((0 : Int), (0 : Int)), ((0 : Int), (0 : Int))))).1.2) && true)) && (((y.1.2.1.1 == (List.getD s.2.1 (Int.toNat (List.getD s.2.2.1 (Int.toNat s.2.2.2.2) (0 : Int))) (((0 : Int), (0 : Int)), (((0 : Int), (0 : Int)), ((0 : Int), (0 : Int))))).2.1.1) && ((y.1.2.1.2 == (List.getD s.2.1 (Int.toNat (List.getD s.2.2.1 (Int.toNat s.2.2.2.2) (0 : Int))) (((0 : Int), (0 : Int)), (((0 : Int), (0 : Int)), ((0 : Int), (0 : Int))))).2.1.2) && true)) && (((y.1.2.2.1 == (List.getD s.2.1 (Int.toNat (List.getD s.2.2.1 (Int.toNat s.2.2.2.2) (0 : Int))) (((0 : Int), (0 : Int)), (((0 : Int), (0 : Int)), ((0 : Int), (0 : Int))))).2.2.1) && ((y.1.2.2.2 == (List.getD s.2.1 (Int.toNat (List.getD s.2.2.1 (Int.toNat s.2.2.2.2) (0 : Int))) (((0 : Int), (0 : Int)), (((0 : Int), (0 : Int)), ((0 : Int), (0 : Int))))).2.2.2) && true)) && true)))) = true) then
 (Sum.inr (Sum.inl ())) else
 (if ((!y_1.2) = true) then
 (Sum.inr (Sum.inl ())) else
 (if ((!((y_1.1.1 == (List.getD s.1 (Int.toNat s.2.2.2.1) ((0 : Int), ((0 : Int), ((0 : Int), ((0 : Int), ((0 : Int), (0 : Int))))))).1) && ((y_1.1.2.1 == (List.getD s.1 (Int.toNat s.2.2.2.1) ((0 : Int), ((0 : Int), ((0 : Int), ((0 : Int), ((0 : Int), (0 : Int))))))).2.1) && ((y_1.1.2.2.1 == (List.getD s.1 (Int.toNat s.2.2.2.1) ((0 : Int), ((0 : Int), ((0 : Int), ((0 : Int), ((0 : Int), (0 : Int))))))).2.2.1) && (((y_1.1.2.2.2.1 == (List.getD s.1 (Int.toNat s.2.2.2.1) ((0 : Int), ((0 : Int), ((0 : Int), ((0 : Int), ((0 : Int), (0 : Int))))))).2.2.2.1) && ((y_1.1.2.2.2.2.1 == (List.getD s.1 (Int.toNat s.2.2.2.1) ((0 : Int), ((0 : Int), ((0 : Int), ((0 : Int), ((0 : Int), (0 : Int))))))).2.2.2.2.1) && ((y_1.1.2.2.2.2.2 == (List.getD s.1 (Int.toNat s.2.2.2.1) ((0 : Int), ((0 : Int), ((0 : Int), ((0 : Int), ((0 : Int), (0 : Int))))))).2.2.2.2.2) && true))) && true))))) = true) then
 (Sum.inr (Sum.inl ())) else
 (Sum.inl (s.1, (s.2.1, (s.2.2.1, ((w64 (s.2.2.2.1 + (1 : Int))), (w64 (s.2.2.2.2 + (1 : Int)))))))))))))))))))) else
 (Sum.inr (Sum.inr ((s.1, s.2.2.2.1)))))
noncomputable def l20owners_l0_pre (x : (((List I3) × ((List I2) × ((List I3) × (List I9)))) × (Int × (Int × (Int × ((List ((List Int) × ((List I6) × I2))) × (List (Int × I3)))))))) (s : ((List (Int × (Int × (Int × I3)))) × ((List I6) × ((List Int) × I2)))) : Prop :=
 ((s.2.2.2.2 < (((List.length s.2.2.1) : Nat) : Int)) →
 ((((0 : Int) ≤ s.2.2.2.2) ∧ (s.2.2.2.2 < (((List.length s.2.2.1) : Nat) : Int))) ∧
 (((Int.toNat s.2.2.2.2) < (List.length s.2.2.1)) ∧
 (((Int.toNat s.2.2.2.2) < (List.length s.2.2.1)) ∧
 (¬ ((List.getD s.2.2.1 (Int.toNat s.2.2.2.2) (0 : Int)) < (0 : Int)) →
 (¬ (s.2.2.2.1 ≥ (((List.length s.1) : Nat) : Int)) →
 ((((0 : Int) ≤ s.2.2.2.1) ∧ (s.2.2.2.1 < (((List.length s.1) : Nat) : Int))) ∧
 (((Int.toNat s.2.2.2.1) < (List.length s.1)) ∧
 (((Int.toNat s.2.2.2.1) < (List.length s.1)) ∧
 (((Int.toNat s.2.2.2.1) < (List.length s.1)) ∧
 ((x.2.1 ≠ (0 : Int)) ∧
 (¬ (((List.getD s.1 (Int.toNat s.2.2.2.1) ((0 : Int), ((0 : Int), ((0 : Int), ((0 : Int), ((0 : Int), (0 : Int))))))).1 != (Int.tmod s.2.2.2.2 x.2.1)) = true) →
 ((((0 : Int) ≤ s.2.2.2.1) ∧ (s.2.2.2.1 < (((List.length s.1) : Nat) : Int))) ∧
 (((Int.toNat s.2.2.2.1) < (List.length s.1)) ∧
 (((Int.toNat s.2.2.2.1) < (List.length s.1)) ∧
 (((Int.toNat s.2.2.2.1) < (List.length s.1)) ∧
 ((x.2.1 ≠ (0 : Int)) ∧
 (¬ (((List.getD s.1 (Int.toNat s.2.2.2.1) ((0 : Int), ((0 : Int), ((0 : Int), ((0 : Int), ((0 : Int), (0 : Int))))))).2.1 != (w64 (Int.tdiv s.2.2.2.2 x.2.1))) = true) →
 ((((0 : Int) ≤ s.2.2.2.1) ∧ (s.2.2.2.1 < (((List.length s.1) : Nat) : Int))) ∧
 (((Int.toNat s.2.2.2.1) < (List.length s.1)) ∧
 (((Int.toNat s.2.2.2.1) < (List.length s.1)) ∧
 (((Int.toNat s.2.2.2.1) < (List.length s.1)) ∧
 (¬ ((List.getD s.1 (Int.toNat s.2.2.2.1) ((0 : Int), ((0 : Int), ((0 : Int), ((0 : Int), ((0 : Int), (0 : Int))))))).2.2.1 < (0 : Int)) →
 ((((0 : Int) ≤ s.2.2.2.1) ∧ (s.2.2.2.1 < (((List.length s.1) : Nat) : Int))) ∧
 (((Int.toNat s.2.2.2.1) < (List.length s.1)) ∧
 (((Int.toNat s.2.2.2.1) < (List.length s.1)) ∧
 (((Int.toNat s.2.2.2.1) < (List.length s.1)) ∧
 (¬ ((List.getD s.1 (Int.toNat s.2.2.2.1) ((0 : Int), ((0 : Int), ((0 : Int), ((0 : Int), ((0 : Int), (0 : Int))))))).2.2.1 ≥ (((List.length x.1.2.2.2) : Nat) : Int)) →
 ((((0 : Int) ≤ s.2.2.2.1) ∧ (s.2.2.2.1 < (((List.length s.1) : Nat) : Int))) ∧
 (((Int.toNat s.2.2.2.1) < (List.length s.1)) ∧
 (((Int.toNat s.2.2.2.1) < (List.length s.1)) ∧
 (((Int.toNat s.2.2.2.1) < (List.length s.1)) ∧
 ((findM_pre (x.2, (List.getD s.1 (Int.toNat s.2.2.2.1) ((0 : Int), ((0 : Int), ((0 : Int), ((0 : Int), ((0 : Int), (0 : Int))))))).2.2.1)) ∧
 letP (findM (x.2, (List.getD s.1 (Int.toNat s.2.2.2.1) ((0 : Int), ((0 : Int), ((0 : Int), ((0 : Int), ((0 : Int), (0 : Int))))))).2.2.1)) fun y =>
 ((((0 : Int) ≤ s.2.2.2.1) ∧ (s.2.2.2.1 < (((List.length s.1) : Nat) : Int))) ∧
 (((Int.toNat s.2.2.2.1) < (List.length s.1)) ∧
 (((Int.toNat s.2.2.2.1) < (List.length s.1)) ∧
 (((Int.toNat s.2.2.2.1) < (List.length s.1)) ∧
 ((((0 : Int) ≤ s.2.2.2.1) ∧ (s.2.2.2.1 < (((List.length s.1) : Nat) : Int))) ∧
 (((Int.toNat s.2.2.2.1) < (List.length s.1)) ∧
 (((Int.toNat s.2.2.2.1) < (List.length s.1)) ∧
 (((Int.toNat s.2.2.2.1) < (List.length s.1)) ∧
 ((lat_pre (s.1, ((List.getD s.1 (Int.toNat s.2.2.2.1) ((0 : Int), ((0 : Int), ((0 : Int), ((0 : Int), ((0 : Int), (0 : Int))))))).1, (List.getD s.1 (Int.toNat s.2.2.2.1) ((0 : Int), ((0 : Int), ((0 : Int), ((0 : Int), ((0 : Int), (0 : Int))))))).2.1))) ∧
 letP (lat (s.1, ((List.getD s.1 (Int.toNat s.2.2.2.1) ((0 : Int), ((0 : Int), ((0 : Int), ((0 : Int), ((0 : Int), (0 : Int))))))).1, (List.getD s.1 (Int.toNat s.2.2.2.1) ((0 : Int), ((0 : Int), ((0 : Int), ((0 : Int), ((0 : Int), (0 : Int))))))).2.1))) fun y_1 =>
 (¬ ((!y.2) = true) →
 ((((0 : Int) ≤ s.2.2.2.2) ∧ (s.2.2.2.2 < (((List.length s.2.2.1) : Nat) : Int))) ∧
 (((Int.toNat s.2.2.2.2) < (List.length s.2.2.1)) ∧
 (((Int.toNat s.2.2.2.2) < (List.length s.2.2.1)) ∧
 ((((0 : Int) ≤ (List.getD s.2.2.1 (Int.toNat s.2.2.2.2) (0 : Int))) ∧ ((List.getD s.2.2.1 (Int.toNat s.2.2.2.2) (0 : Int)) < (((List.length s.2.1) : Nat) : Int))) ∧
 (((Int.toNat (List.getD s.2.2.1 (Int.toNat s.2.2.2.2) (0 : Int))) < (List.length s.2.1)) ∧
 (((Int.toNat (List.getD s.2.2.1 (Int.toNat s.2.2.2.2) (0 : Int))) < (List.length s.2.1)) ∧
 (¬ ((!(((y.1.1.1 == (List.getD s.2.1 (Int.toNat (List.getD s.2.2.1 (Int.toNat s.2.2.2.2) (0 : Int))) (((0 : Int), (0 : Int)), (((0 : Int), (0 : Int)), ((0 : Int), (0 : Int))))).1.1) && ((y.1.1.2 == (List.getD s.2.1 (Int.toNat (List.getD s.2.2.1 (Int.toNat s.2.2.2.2) (0 : Int))) (((0 : Int), (0 : Int)), (((0 : Int), (0 : Int)), ((0 : Int), (0 : Int))))).1.2) && true)) && (((y.1.2.1.1 == (List.getD s.2.1 (Int.toNat (List.getD s.2.2.1 (Int.toNat s.2.2.2.2) (0 : Int))) (((0 : Int), (0 : Int)), (((0 : Int), (0 : Int)), ((0 : Int), (0 : Int))))).2.1.1) && ((y.1.2.1.2 == (List.getD s.2.1 (Int.toNat (List.getD s.2.2.1 (Int.toNat s.2.2.2.2) (0 : Int))) (((0 : Int), (0 : Int)), (((0 : Int), (0 : Int)), ((0 : Int), (0 : Int))))).2.1.2) && true)) && (((y.1.2.2.1 == (List.getD s.2.1 (Int.toNat (List.getD s.2.2.1 (Int.toNat s.2.2.2.2) (0 : Int))) (((0 : Int), (0 : Int)), (((0 : Int), (0 : Int)), ((0 : Int), (0 : Int))))).2.2.1) && ((y.1.2.2.2 == (List.getD s.2.1 (Int.toNat (List.getD s.2.2.1 (Int.toNat s.2.2.2.2) (0 : Int))) (((0 : Int), (0 : Int)), (((0 : Int), (0 : Int)), ((0 : Int), (0 : Int))))).2.2.2) && true)) && true)))) = true) →
 (¬ ((!y_1.2) = true) →
 ((((0 : Int) ≤ s.2.2.2.1) ∧ (s.2.2.2.1 < (((List.length s.1) : Nat) : Int))) ∧
 (((Int.toNat s.2.2.2.1) < (List.length s.1)) ∧
 ((Int.toNat s.2.2.2.1) < (List.length s.1)))))))))))))))))))))))))))))))))))))))))))))))))))))))
noncomputable def l20owners_l0_t (x : (((List I3) × ((List I2) × ((List I3) × (List I9)))) × (Int × (Int × (Int × ((List ((List Int) × ((List I6) × I2))) × (List (Int × I3)))))))) (s : ((List (Int × (Int × (Int × I3)))) × ((List I6) × ((List Int) × I2)))) : Tr (((List (Int × (Int × (Int × I3)))) × ((List I6) × ((List Int) × I2))) ⊕ (Unit ⊕ ((List (Int × (Int × (Int × I3)))) × Int))) true :=
 (.i10 (s.2.2.2.2 < (((List.length s.2.2.1) : Nat) : Int))
 (.oR s.2.2.2.2 (((List.length s.2.2.1) : Nat) : Int)
 (.od ((Int.toNat s.2.2.2.2) < (List.length s.2.2.1))
 (.od ((Int.toNat s.2.2.2.2) < (List.length s.2.2.1))
 (.i01 ((List.getD s.2.2.1 (Int.toNat s.2.2.2.2) (0 : Int)) < (0 : Int))
 (.ret (.inl (s.1, (s.2.1, (s.2.2.1, (s.2.2.2.1, (w64 (s.2.2.2.2 + (1 : Int)))))))))
 (.i01 (s.2.2.2.1 ≥ (((List.length s.1) : Nat) : Int))
 (.ret (.inr (Sum.inl ())))
 (.oR s.2.2.2.1 (((List.length s.1) : Nat) : Int)
 (.od ((Int.toNat s.2.2.2.1) < (List.length s.1))
 (.od ((Int.toNat s.2.2.2.1) < (List.length s.1))
 (.od ((Int.toNat s.2.2.2.1) < (List.length s.1))
 (.od (x.2.1 ≠ (0 : Int))
 (.b01 ((List.getD s.1 (Int.toNat s.2.2.2.1) ((0 : Int), ((0 : Int), ((0 : Int), zz3)))).1 != (Int.tmod s.2.2.2.2 x.2.1))
 (.ret (.inr (Sum.inl ())))
 (.oR s.2.2.2.1 (((List.length s.1) : Nat) : Int)
 (.od ((Int.toNat s.2.2.2.1) < (List.length s.1))
 (.od ((Int.toNat s.2.2.2.1) < (List.length s.1))
 (.od ((Int.toNat s.2.2.2.1) < (List.length s.1))
 (.od (x.2.1 ≠ (0 : Int))
 (.b01 ((List.getD s.1 (Int.toNat s.2.2.2.1) ((0 : Int), ((0 : Int), ((0 : Int), zz3)))).2.1 != (w64 (Int.tdiv s.2.2.2.2 x.2.1)))
 (.ret (.inr (Sum.inl ())))
 (.oR s.2.2.2.1 (((List.length s.1) : Nat) : Int)
 (.od ((Int.toNat s.2.2.2.1) < (List.length s.1))
 (.od ((Int.toNat s.2.2.2.1) < (List.length s.1))
 (.od ((Int.toNat s.2.2.2.1) < (List.length s.1))
 (.i01 ((List.getD s.1 (Int.toNat s.2.2.2.1) ((0 : Int), ((0 : Int), ((0 : Int), zz3)))).2.2.1 < (0 : Int))
 (.ret (.inr (Sum.inl ())))
 (.oR s.2.2.2.1 (((List.length s.1) : Nat) : Int)
 (.od ((Int.toNat s.2.2.2.1) < (List.length s.1))
 (.od ((Int.toNat s.2.2.2.1) < (List.length s.1))
 (.od ((Int.toNat s.2.2.2.1) < (List.length s.1))
 (.i01 ((List.getD s.1 (Int.toNat s.2.2.2.1) ((0 : Int), ((0 : Int), ((0 : Int), zz3)))).2.2.1 ≥ (((List.length x.1.2.2.2) : Nat) : Int))
 (.ret (.inr (Sum.inl ())))
 (.oR s.2.2.2.1 (((List.length s.1) : Nat) : Int)
 (.od ((Int.toNat s.2.2.2.1) < (List.length s.1))
 (.od ((Int.toNat s.2.2.2.1) < (List.length s.1))
 (.od ((Int.toNat s.2.2.2.1) < (List.length s.1))
 (.fn findM_S (x.2, (List.getD s.1 (Int.toNat s.2.2.2.1) ((0 : Int), ((0 : Int), ((0 : Int), zz3)))).2.2.1) fun y =>
 (.oR s.2.2.2.1 (((List.length s.1) : Nat) : Int)
 (.od ((Int.toNat s.2.2.2.1) < (List.length s.1))
 (.od ((Int.toNat s.2.2.2.1) < (List.length s.1))
 (.od ((Int.toNat s.2.2.2.1) < (List.length s.1))
 (.oR s.2.2.2.1 (((List.length s.1) : Nat) : Int)
 (.od ((Int.toNat s.2.2.2.1) < (List.length s.1))
 (.od ((Int.toNat s.2.2.2.1) < (List.length s.1))
 (.od ((Int.toNat s.2.2.2.1) < (List.length s.1))
 (.fn lat_S (s.1, ((List.getD s.1 (Int.toNat s.2.2.2.1) ((0 : Int), ((0 : Int), ((0 : Int), zz3)))).1, (List.getD s.1 (Int.toNat s.2.2.2.1) ((0 : Int), ((0 : Int), ((0 : Int), zz3)))).2.1)) fun y_1 =>
 (.b01 (!y.2)
 (.ret (.inr (Sum.inl ())))
 (.oR s.2.2.2.2 (((List.length s.2.2.1) : Nat) : Int)
 (.od ((Int.toNat s.2.2.2.2) < (List.length s.2.2.1))
 (.od ((Int.toNat s.2.2.2.2) < (List.length s.2.2.1))
 (.oR (List.getD s.2.2.1 (Int.toNat s.2.2.2.2) (0 : Int)) (((List.length s.2.1) : Nat) : Int)
 (.od ((Int.toNat (List.getD s.2.2.1 (Int.toNat s.2.2.2.2) (0 : Int))) < (List.length s.2.1))
 (.od ((Int.toNat (List.getD s.2.2.1 (Int.toNat s.2.2.2.2) (0 : Int))) < (List.length s.2.1))
 (.b01 (!(((y.1.1.1 == (List.getD s.2.1 (Int.toNat (List.getD s.2.2.1 (Int.toNat s.2.2.2.2) (0 : Int))) zz6).1.1) && ((y.1.1.2 == (List.getD s.2.1 (Int.toNat (List.getD s.2.2.1 (Int.toNat s.2.2.2.2) (0 : Int))) zz6).1.2) && true)) && (((y.1.2.1.1 == (List.getD s.2.1 (Int.toNat (List.getD s.2.2.1 (Int.toNat s.2.2.2.2) (0 : Int))) zz6).2.1.1) && ((y.1.2.1.2 == (List.getD s.2.1 (Int.toNat (List.getD s.2.2.1 (Int.toNat s.2.2.2.2) (0 : Int))) zz6).2.1.2) && true)) && (((y.1.2.2.1 == (List.getD s.2.1 (Int.toNat (List.getD s.2.2.1 (Int.toNat s.2.2.2.2) (0 : Int))) zz6).2.2.1) && ((y.1.2.2.2 == (List.getD s.2.1 (Int.toNat (List.getD s.2.2.1 (Int.toNat s.2.2.2.2) (0 : Int))) zz6).2.2.2) && true)) && true))))
 (.ret (.inr (Sum.inl ())))
 (.b01 (!y_1.2)
 (.ret (.inr (Sum.inl ())))
 (.oR s.2.2.2.1 (((List.length s.1) : Nat) : Int)
 (.od ((Int.toNat s.2.2.2.1) < (List.length s.1))
 (.od ((Int.toNat s.2.2.2.1) < (List.length s.1))
 (.b00 (!((y_1.1.1 == (List.getD s.1 (Int.toNat s.2.2.2.1) ((0 : Int), ((0 : Int), ((0 : Int), zz3)))).1) && ((y_1.1.2.1 == (List.getD s.1 (Int.toNat s.2.2.2.1) ((0 : Int), ((0 : Int), ((0 : Int), zz3)))).2.1) && ((y_1.1.2.2.1 == (List.getD s.1 (Int.toNat s.2.2.2.1) ((0 : Int), ((0 : Int), ((0 : Int), zz3)))).2.2.1) && (((y_1.1.2.2.2.1 == (List.getD s.1 (Int.toNat s.2.2.2.1) ((0 : Int), ((0 : Int), ((0 : Int), zz3)))).2.2.2.1) && ((y_1.1.2.2.2.2.1 == (List.getD s.1 (Int.toNat s.2.2.2.1) ((0 : Int), ((0 : Int), ((0 : Int), zz3)))).2.2.2.2.1) && ((y_1.1.2.2.2.2.2 == (List.getD s.1 (Int.toNat s.2.2.2.1) ((0 : Int), ((0 : Int), ((0 : Int), zz3)))).2.2.2.2.2) && true))) && true)))))
 (.ret (.inr (Sum.inl ())))
 (.ret (.inl (s.1, (s.2.1, (s.2.2.1, ((w64 (s.2.2.2.1 + (1 : Int))), (w64 (s.2.2.2.2 + (1 : Int)))))))))))))))))))))))))))))))))))))))))))))))))))))))))))))))
 (.ret (.inr (Sum.inr ((s.1, s.2.2.2.1))))))
noncomputable def l20owners (x : (((List I3) × ((List I2) × ((List I3) × (List I9)))) × (Int × (Int × (Int × ((List ((List Int) × ((List I6) × I2))) × (List (Int × I3)))))))) : Bool :=
 (letV (few20 x) fun y =>
 (if ((!y) = true) then
 true else
 (letV (lsamples x) fun y_1 =>
 (if ((y_1.2 != (0 : Int)) = true) then
 (letV (l20lifted false) fun y_2 =>
 (if (y_2 = true) then
 ((((List.length y_1.1) : Nat) : Int) == (0 : Int)) else
 false)) else
 (letV (allM x.2) fun y_2 =>
 (letV (rowners (x.2.1, (x.2.2.1, y_2.1))) fun y_3 =>
 (if ((y_2.2.2 != (0 : Int)) = true) then
 false else
 (if ((y_3.2 != (0 : Int)) = true) then
 false else
 (if (((((List.length y_3.1) : Nat) : Int) != (w64 (x.2.1 * x.2.2.1))) = true) then
 false else
 (letV (run (l20owners_l0_step x) (y_1.1, (y_2.1, (y_3.1, ((0 : Int), (0 : Int)))))) fun r =>
 (Sum.elim (fun a =>
 false) (fun b =>
 (letV (l20lifted false) fun y_4 =>
 (if (y_4 = true) then
 (b.2 == (((List.length b.1) : Nat) : Int)) else
 false))) r)))))))))))
noncomputable def l20owners_pre (x : (((List I3) × ((List I2) × ((List I3) × (List I9)))) × (Int × (Int × (Int × ((List ((List Int) × ((List I6) × I2))) × (List (Int × I3)))))))) : Prop :=
 ((few20_pre x) ∧
 letP (few20 x) fun y =>
 (¬ ((!y) = true) →
 ((lsamples_pre x) ∧
 letP (lsamples x) fun y_1 =>
 ((((y_1.2 != (0 : Int)) = true) →
 (l20lifted_pre false)) ∧
 (¬ ((y_1.2 != (0 : Int)) = true) →
 ((allM_pre x.2) ∧
 letP (allM x.2) fun y_2 =>
 ((rowners_pre (x.2.1, (x.2.2.1, y_2.1))) ∧
 letP (rowners (x.2.1, (x.2.2.1, y_2.1))) fun y_3 =>
 (¬ ((y_2.2.2 != (0 : Int)) = true) →
 (¬ ((y_3.2 != (0 : Int)) = true) →
 (¬ (((((List.length y_3.1) : Nat) : Int) != (w64 (x.2.1 * x.2.2.1))) = true) →
 (Term (l20owners_l0_step x) (l20owners_l0_pre x) (y_1.1, (y_2.1, (y_3.1, ((0 : Int), (0 : Int))))) ∧
 letP (run (l20owners_l0_step x) (y_1.1, (y_2.1, (y_3.1, ((0 : Int), (0 : Int)))))) fun r =>
 (cS r (fun a =>
 True) (fun b =>
 (l20lifted_pre false))))))))))))))
noncomputable def l20owners_t (x : (((List I3) × ((List I2) × ((List I3) × (List I9)))) × (Int × (Int × (Int × ((List ((List Int) × ((List I6) × I2))) × (List (Int × I3)))))))) : Tr Bool true :=
 (.fn few20_S x fun y =>
 (.b01 (!y)
 (.ret true)
 (.fn lsamples_S x fun y_1 =>
 (.b11 (y_1.2 != (0 : Int))
 (.fn l20lifted_S false fun y_2 =>
 (.b00 y_2
 (.ret ((((List.length y_1.1) : Nat) : Int) == (0 : Int)))
 (.ret false)))
 (.fn allM_S x.2 fun y_2 =>
 (.fn rowners_S (x.2.1, (x.2.2.1, y_2.1)) fun y_3 =>
 (.b01 (y_2.2.2 != (0 : Int))
 (.ret false)
 (.b01 (y_3.2 != (0 : Int))
 (.ret false)
 (.b01 ((((List.length y_3.1) : Nat) : Int) != (w64 (x.2.1 * x.2.2.1)))
 (.ret false)
 (LoopD.lp (l20owners_l0 x) (l20owners_l0_t x) (y_1.1, (y_2.1, (y_3.1, zz2))) fun r =>
 (.s01 r (fun a =>
 (.ret false)) (fun b =>
 (.fn l20lifted_S false fun y_4 =>
 (.b00 y_4
 (.ret (b.2 == (((List.length b.1) : Nat) : Int)))
 (.ret false)))))))))))))))
noncomputable abbrev l20owners_S : FnS := ⟨(.pair (.agg (Ty.prod (Ty.sl yy3) (Ty.prod (Ty.sl yy2) (Ty.prod (Ty.sl yy3) (Ty.sl yy9))))) (.agg (Ty.prod yi (Ty.prod yi (Ty.prod yi (Ty.prod (Ty.sl (Ty.prod (Ty.sl yi) (Ty.prod (Ty.sl yy6) yy2))) (Ty.sl (Ty.prod yi yy3)))))))), (.one Ty.bool), l20owners_pre, l20owners⟩
theorem l20owners_ok : SpecOk Tryz.prog 5 (fnSpec l20owners_S) := SpecOk.tr l20owners_S l20owners_t (fn := Tryz.f5) tt_ok sp_few20_ok mixed (by kernel_rfl) (ItsOk.nil _ _) (fun x => (LpsOk.tr tt_ok (SpecsOk.ctxI sp_few20_ok (ItsOk.nil _ _)) mixed 0 (l20owners_l0 x) (l20owners_l0_t x) LpsOk.nil (by kernel_rfl) fun g s Q => (by kernel_rfl))) (fun x => (by kernel_rfl)) fun x Q => (by kernel_rfl)
def sp_l20owners : List (Nat × Ev.Spec) := (5, fnSpec l20owners_S) :: sp_few20
theorem sp_l20owners_ok : SpecsOk Tryz.prog sp_l20owners := SpecsOk.add (fn := Tryz.f5) (by kernel_rfl) l20owners_ok sp_few20_ok
noncomputable def inl_l0 (x : ((List Int) × Int)) : LoopD := ⟨[], ⟨pvs 18 0 [(0, .v (.one (.full 0))), (1, .v (.one (.i .i64))), (5, .v (.one (.i .i64)))], [.row yi 0], 0, none, [], [0, 2], [1], [.i], [.i x.2, .l yi x.1]⟩, [⟨.ret, .ret, ⟨pvs 18 0 [(4, .v (.one (.b)))], [], 0, none, [], [0], [], [], [.b true]⟩⟩, ⟨(.exit 0), .normal, ⟨pvs 18 0 [], [], 0, none, [], [], [], [], []⟩⟩]⟩
noncomputable def inl_l0_step (x : ((List Int) × Int)) (s : Int) : Int ⊕ (Unit ⊕ Unit) :=
 (if (s < (((List.length x.1) : Nat) : Int)) then
 (if (((List.getD x.1 (Int.toNat s) (0 : Int)) == x.2) = true) then
 (Sum.inr (Sum.inl ())) else
 (Sum.inl (w64 (s + (1 : Int))))) else
 (Sum.inr (Sum.inr (()))))
noncomputable def inl_l0_pre (x : ((List Int) × Int)) (s : Int) : Prop :=
 ((s < (((List.length x.1) : Nat) : Int)) →
 ((((0 : Int) ≤ s) ∧ (s < (((List.length x.1) : Nat) : Int))) ∧
 (((Int.toNat s) < (List.length x.1)) ∧
 ((Int.toNat s) < (List.length x.1)))))
noncomputable def inl_l0_t (x : ((List Int) × Int)) (s : Int) : Tr (Int ⊕ (Unit ⊕ Unit)) true :=
 (.i10 (s < (((List.length x.1) : Nat) : Int))
 (.oR s (((List.length x.1) : Nat) : Int)
 (.od ((Int.toNat s) < (List.length x.1))
 (.od ((Int.toNat s) < (List.length x.1))
 (.b00 ((List.getD x.1 (Int.toNat s) (0 : Int)) == x.2)
 (.ret (.inr (Sum.inl ())))
 (.ret (.inl (w64 (s + (1 : Int)))))))))
 (.ret (.inr (Sum.inr (())))))
noncomputable def inl (x : ((List Int) × Int)) : Bool :=
 (letV (run (inl_l0_step x) (0 : Int)) fun r =>
 (Sum.elim (fun a =>
 true) (fun b =>
 false) r))
noncomputable def inl_pre (x : ((List Int) × Int)) : Prop :=
 (Term (inl_l0_step x) (inl_l0_pre x) (0 : Int))
noncomputable def inl_t (x : ((List Int) × Int)) : Tr Bool true :=
 (LoopD.lp (inl_l0 x) (inl_l0_t x) (0 : Int) fun r =>
 (.s00 r (fun a =>
 (.ret true)) (fun b =>
 (.ret false))))
noncomputable abbrev inl_S : FnS := ⟨(.pair (.one (Ty.sl yi)) (.one yi)), (.one Ty.bool), inl_pre, inl⟩
theorem inl_ok : SpecOk Tryz.prog 23 (fnSpec inl_S) := SpecOk.tr inl_S inl_t (fn := Tryz.f23) tt_ok sp_l20owners_ok mixed (by kernel_rfl) (ItsOk.nil _ _) (fun x => (LpsOk.tr tt_ok (SpecsOk.ctxI sp_l20owners_ok (ItsOk.nil _ _)) mixed 0 (inl_l0 x) (inl_l0_t x) LpsOk.nil (by kernel_rfl) fun g s Q => (by kernel_rfl))) (fun x => (by kernel_rfl)) fun x Q => (by kernel_rfl)
def sp_inl : List (Nat × Ev.Spec) := (23, fnSpec inl_S) :: sp_l20owners
theorem sp_inl_ok : SpecsOk Tryz.prog sp_inl := SpecsOk.add (fn := Tryz.f23) (by kernel_rfl) inl_ok sp_l20owners_ok
noncomputable def l20corners_l2 (x : (((List I3) × ((List I2) × ((List I3) × (List I9)))) × (Int × (Int × (Int × ((List ((List Int) × ((List I6) × I2))) × (List (Int × I3)))))))) : LoopD := ⟨[], ⟨pvs 112 0 [(3, .v (.one (.ptr 0 0))), (5, .v (.one (.full 3))), (7, .v (.one (.full 4))), (8, .v (.one (.full 5))), (10, .v (.one (.i .i64))), (11, .v (.one (.i .i64)))], [.cells [.i .i64, .i .i64, .i .i64, .full 1, .full 2] 36, .row (Ty.prod (Ty.sl yi) (Ty.prod (Ty.sl yy6) yy2)) 0, .row (Ty.prod yi yy3) 0, .row (Ty.prod yi (Ty.prod yi (Ty.prod yi yy3))) 2, .row yy6 2, .row yi 2], 0, none, [], [2, 3, 4, 5, 6], [7, 8, 9, 0, 1], [(.l (Ty.prod yi (Ty.prod yi (Ty.prod yi yy3)))), (.l yy6), (.l yi), .i, .i], [.i x.2.1, .i x.2.2.1, .i x.2.2.2.1, .l (Ty.prod (Ty.sl yi) (Ty.prod (Ty.sl yy6) yy2)) x.2.2.2.2.1, .l (Ty.prod yi yy3) x.2.2.2.2.2]⟩, [⟨.ret, .ret, ⟨pvs 112 0 [(4, .v (.one (.b)))], [], 0, none, [], [0], [], [], [.b false]⟩⟩, ⟨(.exit 2), .normal, ⟨pvs 112 0 [(3, .v (.one (.ptr 0 0))), (5, .v (.one (.full 3))), (7, .v (.one (.full 4))), (8, .v (.one (.full 5))), (10, .v (.one (.i .i64)))], [.cells [.i .i64, .i .i64, .i .i64, .full 1, .full 2] 36, .row (Ty.prod (Ty.sl yi) (Ty.prod (Ty.sl yy6) yy2)) 0, .row (Ty.prod yi yy3) 0, .row (Ty.prod yi (Ty.prod yi (Ty.prod yi yy3))) 2, .row yy6 2, .row yi 2], 0, none, [], [1, 2, 3, 4, 5], [6, 7, 8, 0], [(.l (Ty.prod yi (Ty.prod yi (Ty.prod yi yy3)))), (.l yy6), (.l yi), .i], [.i x.2.1, .i x.2.2.1, .i x.2.2.2.1, .l (Ty.prod (Ty.sl yi) (Ty.prod (Ty.sl yy6) yy2)) x.2.2.2.2.1, .l (Ty.prod yi yy3) x.2.2.2.2.2]⟩⟩]⟩
noncomputable def l20corners_l2_step (x : (((List I3) × ((List I2) × ((List I3) × (List I9)))) × (Int × (Int × (Int × ((List ((List Int) × ((List I6) × I2))) × (List (Int × I3)))))))) (s : ((List (Int × (Int × (Int × I3)))) × ((List I6) × ((List Int) × I2)))) : ((List (Int × (Int × (Int × I3)))) × ((List I6) × ((List Int) × I2))) ⊕ (Unit ⊕ ((List (Int × (Int × (Int × I3)))) × ((List I6) × ((List Int) × Int)))) :=
 (if (s.2.2.2.2 < (3 : Int)) then
 (letV (rtexel ((List.getD [(List.getD s.2.1 (Int.toNat s.2.2.2.1) (((0 : Int), (0 : Int)), (((0 : Int), (0 : Int)), ((0 : Int), (0 : Int))))).1.1, (List.getD s.2.1 (Int.toNat s.2.2.2.1) (((0 : Int), (0 : Int)), (((0 : Int), (0 : Int)), ((0 : Int), (0 : Int))))).1.2, (List.getD s.2.1 (Int.toNat s.2.2.2.1) (((0 : Int), (0 : Int)), (((0 : Int), (0 : Int)), ((0 : Int), (0 : Int))))).2.1.1, (List.getD s.2.1 (Int.toNat s.2.2.2.1) (((0 : Int), (0 : Int)), (((0 : Int), (0 : Int)), ((0 : Int), (0 : Int))))).2.1.2, (List.getD s.2.1 (Int.toNat s.2.2.2.1) (((0 : Int), (0 : Int)), (((0 : Int), (0 : Int)), ((0 : Int), (0 : Int))))).2.2.1, (List.getD s.2.1 (Int.toNat s.2.2.2.1) (((0 : Int), (0 : Int)), (((0 : Int), (0 : Int)), ((0 : Int), (0 : Int))))).2.2.2] (0 + ((Int.toNat s.2.2.2.2) * 2)) (0 : Int)), (List.getD [(List.getD s.2.1 (Int.toNat s.2.2.2.1) (((0 : Int), (0 : Int)), (((0 : Int), (0 : Int)), ((0 : Int), (0 : Int))))).1.1, (List.getD s.2.1 (Int.toNat s.2.2.2.1) (((0 : Int), (0 : Int)), (((0 : Int), (0 : Int)), ((0 : Int), (0 : Int))))).1.2, (List.getD s.2.1 (Int.toNat s.2.2.2.1) (((0 : Int), (0 : Int)), (((0 : Int), (0 : Int)), ((0 : Int), (0 : Int))))).2.1.1, (List.getD s.2.1 (Int.toNat s.2.2.2.1) (((0 : Int), (0 : Int)), (((0 : Int), (0 : Int)), ((0 : Int), (0 : Int))))).2.1.2, (List.getD s.2.1 (Int.toNat s.2.2.2.1) (((0 : Int), (0 : Int)), (((0 : Int), (0 : Int)), ((0 : Int), (0 : Int))))).2.2.1, (List.getD s.2.1 (Int.toNat s.2.2.2.1) (((0 : Int), (0 : Int)), (((0 : Int), (0 : Int)), ((0 : Int), (0 : Int))))).2.2.2] ((0 + ((Int.toNat s.2.2.2.2) * 2)) + 1) (0 : Int)))) fun y =>
 (letV (lat (s.1, (y.1, y.2.1))) fun y_1 =>
 (if ((y.2.2 != (0 : Int)) = true) then
 (Sum.inr (Sum.inl ())) else
 (if ((!y_1.2) = true) then
 (Sum.inr (Sum.inl ())) else
 (if ((List.getD s.2.2.1 (Int.toNat s.2.2.2.1) (0 : Int)) < (0 : Int)) then
 (Sum.inr (Sum.inl ())) else
 (if ((List.getD s.2.2.1 (Int.toNat s.2.2.2.1) (0 : Int)) ≥ (((List.length x.2.2.2.2.1) : Nat) : Int)) then
 (Sum.inr (Sum.inl ())) else
 (letV (inl ((List.getD x.2.2.2.2.1 (Int.toNat (List.getD s.2.2.1 (Int.toNat s.2.2.2.1) (0 : Int))) ([], ([], ((0 : Int), (0 : Int))))).1, y_1.1.2.2.1)) fun y_2 =>
 (if ((!y_2) = true) then
 (Sum.inr (Sum.inl ())) else
 (Sum.inl (s.1, (s.2.1, (s.2.2.1, (s.2.2.2.1, (w64 (s.2.2.2.2 + (1 : Int)))))))))))))))) else
 (Sum.inr (Sum.inr ((s.1, (s.2.1, (s.2.2.1, s.2.2.2.1)))))))
noncomputable def l20corners_l2_pre (x : (((List I3) × ((List I2) × ((List I3) × (List I9)))) × (Int × (Int × (Int × ((List ((List Int) × ((List I6) × I2))) × (List (Int × I3)))))))) (s : ((List (Int × (Int × (Int × I3)))) × ((List I6) × ((List Int) × I2)))) : Prop :=
 ((s.2.2.2.2 < (3 : Int)) →
 ((((0 : Int) ≤ s.2.2.2.1) ∧ (s.2.2.2.1 < (((List.length s.2.1) : Nat) : Int))) ∧
 (((Int.toNat s.2.2.2.1) < (List.length s.2.1)) ∧
 ((((0 : Int) ≤ s.2.2.2.2) ∧ (s.2.2.2.2 < (3 : Int))) ∧
 (((Int.toNat s.2.2.2.1) < (List.length s.2.1)) ∧
 ((((0 + ((Int.toNat s.2.2.2.2) * 2)) + 2) ≤ 6) ∧
 (((Int.toNat s.2.2.2.1) < (List.length s.2.1)) ∧
 (letP (rtexel ((List.getD [(List.getD s.2.1 (Int.toNat s.2.2.2.1) (((0 : Int), (0 : Int)), (((0 : Int), (0 : Int)), ((0 : Int), (0 : Int))))).1.1, (List.getD s.2.1 (Int.toNat s.2.2.2.1) (((0 : Int), (0 : Int)), (((0 : Int), (0 : Int)), ((0 : Int), (0 : Int))))).1.2, (List.getD s.2.1 (Int.toNat s.2.2.2.1) (((0 : Int), (0 : Int)), (((0 : Int), (0 : Int)), ((0 : Int), (0 : Int))))).2.1.1, (List.getD s.2.1 (Int.toNat s.2.2.2.1) (((0 : Int), (0 : Int)), (((0 : Int), (0 : Int)), ((0 : Int), (0 : Int))))).2.1.2, (List.getD s.2.1 (Int.toNat s.2.2.2.1) (((0 : Int), (0 : Int)), (((0 : Int), (0 : Int)), ((0 : Int), (0 : Int))))).2.2.1, (List.getD s.2.1 (Int.toNat s.2.2.2.1) (((0 : Int), (0 : Int)), (((0 : Int), (0 : Int)), ((0 : Int), (0 : Int))))).2.2.2] (0 + ((Int.toNat s.2.2.2.2) * 2)) (0 : Int)), (List.getD [(List.getD s.2.1 (Int.toNat s.2.2.2.1) (((0 : Int), (0 : Int)), (((0 : Int), (0 : Int)), ((0 : Int), (0 : Int))))).1.1, (List.getD s.2.1 (Int.toNat s.2.2.2.1) (((0 : Int), (0 : Int)), (((0 : Int), (0 : Int)), ((0 : Int), (0 : Int))))).1.2, (List.getD s.2.1 (Int.toNat s.2.2.2.1) (((0 : Int), (0 : Int)), (((0 : Int), (0 : Int)), ((0 : Int), (0 : Int))))).2.1.1, (List.getD s.2.1 (Int.toNat s.2.2.2.1) (((0 : Int), (0 : Int)), (((0 : Int), (0 : Int)), ((0 : Int), (0 : Int))))).2.1.2, (List.getD s.2.1 (Int.toNat s.2.2.2.1) (((0 : Int), (0 : Int)), (((0 : Int), (0 : Int)), ((0 : Int), (0 : Int))))).2.2.1, (List.getD s.2.1 (Int.toNat s.2.2.2.1) (((0 : Int), (0 : Int)), (((0 : Int), (0 : Int)), ((0 : Int), (0 : Int))))).2.2.2] ((0 + ((Int.toNat s.2.2.2.2) * 2)) + 1) (0 : Int)))) fun y =>
 ((lat_pre (s.1, (y.1, y.2.1))) ∧
 letP (lat (s.1, (y.1, y.2.1))) fun y_1 =>
 (¬ ((y.2.2 != (0 : Int)) = true) →
 (¬ ((!y_1.2) = true) →
 ((((0 : Int) ≤ s.2.2.2.1) ∧ (s.2.2.2.1 < (((List.length s.2.2.1) : Nat) : Int))) ∧
 (((Int.toNat s.2.2.2.1) < (List.length s.2.2.1)) ∧
 (((Int.toNat s.2.2.2.1) < (List.length s.2.2.1)) ∧
 (¬ ((List.getD s.2.2.1 (Int.toNat s.2.2.2.1) (0 : Int)) < (0 : Int)) →
 ((((0 : Int) ≤ s.2.2.2.1) ∧ (s.2.2.2.1 < (((List.length s.2.2.1) : Nat) : Int))) ∧
 (((Int.toNat s.2.2.2.1) < (List.length s.2.2.1)) ∧
 (((Int.toNat s.2.2.2.1) < (List.length s.2.2.1)) ∧
 (¬ ((List.getD s.2.2.1 (Int.toNat s.2.2.2.1) (0 : Int)) ≥ (((List.length x.2.2.2.2.1) : Nat) : Int)) →
 ((((0 : Int) ≤ s.2.2.2.1) ∧ (s.2.2.2.1 < (((List.length s.2.2.1) : Nat) : Int))) ∧
 (((Int.toNat s.2.2.2.1) < (List.length s.2.2.1)) ∧
 (((Int.toNat s.2.2.2.1) < (List.length s.2.2.1)) ∧
 ((((0 : Int) ≤ (List.getD s.2.2.1 (Int.toNat s.2.2.2.1) (0 : Int))) ∧ ((List.getD s.2.2.1 (Int.toNat s.2.2.2.1) (0 : Int)) < (((List.length x.2.2.2.2.1) : Nat) : Int))) ∧
 (((Int.toNat (List.getD s.2.2.1 (Int.toNat s.2.2.2.1) (0 : Int))) < (List.length x.2.2.2.2.1)) ∧
 (((Int.toNat (List.getD s.2.2.1 (Int.toNat s.2.2.2.1) (0 : Int))) < (List.length x.2.2.2.2.1)) ∧
 (((Int.toNat (List.getD s.2.2.1 (Int.toNat s.2.2.2.1) (0 : Int))) < (List.length x.2.2.2.2.1)) ∧
 (inl_pre ((List.getD x.2.2.2.2.1 (Int.toNat (List.getD s.2.2.1 (Int.toNat s.2.2.2.1) (0 : Int))) ([], ([], ((0 : Int), (0 : Int))))).1, y_1.1.2.2.1))))))))))))))))))))))))))))
noncomputable def l20corners_l2_t (x : (((List I3) × ((List I2) × ((List I3) × (List I9)))) × (Int × (Int × (Int × ((List ((List Int) × ((List I6) × I2))) × (List (Int × I3)))))))) (s : ((List (Int × (Int × (Int × I3)))) × ((List I6) × ((List Int) × I2)))) : Tr (((List (Int × (Int × (Int × I3)))) × ((List I6) × ((List Int) × I2))) ⊕ (Unit ⊕ ((List (Int × (Int × (Int × I3)))) × ((List I6) × ((List Int) × Int))))) true :=
 (.i10 (s.2.2.2.2 < (3 : Int))
 (.oR s.2.2.2.1 (((List.length s.2.1) : Nat) : Int)
 (.od ((Int.toNat s.2.2.2.1) < (List.length s.2.1))
 (.oR s.2.2.2.2 (3 : Int)
 (.od ((Int.toNat s.2.2.2.1) < (List.length s.2.1))
 (.od (((0 + ((Int.toNat s.2.2.2.2) * 2)) + 2) ≤ 6)
 (.od ((Int.toNat s.2.2.2.1) < (List.length s.2.1))
 (.fn0 rtexel_S ((List.getD [(List.getD s.2.1 (Int.toNat s.2.2.2.1) zz6).1.1, (List.getD s.2.1 (Int.toNat s.2.2.2.1) zz6).1.2, (List.getD s.2.1 (Int.toNat s.2.2.2.1) zz6).2.1.1, (List.getD s.2.1 (Int.toNat s.2.2.2.1) zz6).2.1.2, (List.getD s.2.1 (Int.toNat s.2.2.2.1) zz6).2.2.1, (List.getD s.2.1 (Int.toNat s.2.2.2.1) zz6).2.2.2] (0 + ((Int.toNat s.2.2.2.2) * 2)) (0 : Int)), (List.getD [(List.getD s.2.1 (Int.toNat s.2.2.2.1) zz6).1.1, (List.getD s.2.1 (Int.toNat s.2.2.2.1) zz6).1.2, (List.getD s.2.1 (Int.toNat s.2.2.2.1) zz6).2.1.1, (List.getD s.2.1 (Int.toNat s.2.2.2.1) zz6).2.1.2, (List.getD s.2.1 (Int.toNat s.2.2.2.1) zz6).2.2.1, (List.getD s.2.1 (Int.toNat s.2.2.2.1) zz6).2.2.2] ((0 + ((Int.toNat s.2.2.2.2) * 2)) + 1) (0 : Int))) trivial fun y =>
 (.fn lat_S (s.1, (y.1, y.2.1)) fun y_1 =>
 (.b01 (y.2.2 != (0 : Int))
 (.ret (.inr (Sum.inl ())))
 (.b01 (!y_1.2)
 (.ret (.inr (Sum.inl ())))
 (.oR s.2.2.2.1 (((List.length s.2.2.1) : Nat) : Int)
 (.od ((Int.toNat s.2.2.2.1) < (List.length s.2.2.1))
 (.od ((Int.toNat s.2.2.2.1) < (List.length s.2.2.1))
 (.i01 ((List.getD s.2.2.1 (Int.toNat s.2.2.2.1) (0 : Int)) < (0 : Int))
 (.ret (.inr (Sum.inl ())))
 (.oR s.2.2.2.1 (((List.length s.2.2.1) : Nat) : Int)
 (.od ((Int.toNat s.2.2.2.1) < (List.length s.2.2.1))
 (.od ((Int.toNat s.2.2.2.1) < (List.length s.2.2.1))
 (.i01 ((List.getD s.2.2.1 (Int.toNat s.2.2.2.1) (0 : Int)) ≥ (((List.length x.2.2.2.2.1) : Nat) : Int))
 (.ret (.inr (Sum.inl ())))
 (.oR s.2.2.2.1 (((List.length s.2.2.1) : Nat) : Int)
 (.od ((Int.toNat s.2.2.2.1) < (List.length s.2.2.1))
 (.od ((Int.toNat s.2.2.2.1) < (List.length s.2.2.1))
 (.oR (List.getD s.2.2.1 (Int.toNat s.2.2.2.1) (0 : Int)) (((List.length x.2.2.2.2.1) : Nat) : Int)
 (.od ((Int.toNat (List.getD s.2.2.1 (Int.toNat s.2.2.2.1) (0 : Int))) < (List.length x.2.2.2.2.1))
 (.od ((Int.toNat (List.getD s.2.2.1 (Int.toNat s.2.2.2.1) (0 : Int))) < (List.length x.2.2.2.2.1))
 (.od ((Int.toNat (List.getD s.2.2.1 (Int.toNat s.2.2.2.1) (0 : Int))) < (List.length x.2.2.2.2.1))
 (.fn inl_S ((List.getD x.2.2.2.2.1 (Int.toNat (List.getD s.2.2.1 (Int.toNat s.2.2.2.1) (0 : Int))) ([], ([], zz2))).1, y_1.1.2.2.1) fun y_2 =>
 (.b00 (!y_2)
 (.ret (.inr (Sum.inl ())))
 (.ret (.inl (s.1, (s.2.1, (s.2.2.1, (s.2.2.2.1, (w64 (s.2.2.2.2 + (1 : Int))))))))))))))))))))))))))))))))))))
 (.ret (.inr (Sum.inr ((s.1, (s.2.1, (s.2.2.1, s.2.2.2.1))))))))
noncomputable def l20corners_l0 (x : (((List I3) × ((List I2) × ((List I3) × (List I9)))) × (Int × (Int × (Int × ((List ((List Int) × ((List I6) × I2))) × (List (Int × I3)))))))) : LoopD := ⟨[], ⟨pvs 112 0 [(3, .v (.one (.ptr 0 0))), (5, .v (.one (.full 3))), (7, .v (.one (.full 4))), (8, .v (.one (.full 5))), (10, .v (.one (.i .i64)))], [.cells [.i .i64, .i .i64, .i .i64, .full 1, .full 2] 36, .row (Ty.prod (Ty.sl yi) (Ty.prod (Ty.sl yy6) yy2)) 0, .row (Ty.prod yi yy3) 0, .row (Ty.prod yi (Ty.prod yi (Ty.prod yi yy3))) 2, .row yy6 2, .row yi 2], 0, none, [], [1, 2, 3, 4, 5], [6, 7, 8, 0], [(.l (Ty.prod yi (Ty.prod yi (Ty.prod yi yy3)))), (.l yy6), (.l yi), .i], [.i x.2.1, .i x.2.2.1, .i x.2.2.2.1, .l (Ty.prod (Ty.sl yi) (Ty.prod (Ty.sl yy6) yy2)) x.2.2.2.2.1, .l (Ty.prod yi yy3) x.2.2.2.2.2]⟩, [⟨.ret, .ret, ⟨pvs 112 0 [(4, .v (.one (.b)))], [], 0, none, [], [0], [], [], [.b false]⟩⟩, ⟨(.exit 0), .normal, ⟨pvs 112 0 [], [], 0, none, [], [], [], [], []⟩⟩]⟩
noncomputable def l20corners_l0_step (x : (((List I3) × ((List I2) × ((List I3) × (List I9)))) × (Int × (Int × (Int × ((List ((List Int) × ((List I6) × I2))) × (List (Int × I3)))))))) (s : ((List (Int × (Int × (Int × I3)))) × ((List I6) × ((List Int) × Int)))) : ((List (Int × (Int × (Int × I3)))) × ((List I6) × ((List Int) × Int))) ⊕ (Unit ⊕ Unit) :=
 (if (s.2.2.2 < (((List.length s.2.1) : Nat) : Int)) then
 (letV (run (l20corners_l2_step x) (s.1, (s.2.1, (s.2.2.1, (s.2.2.2, (0 : Int)))))) fun r =>
 (Sum.elim (fun a =>
 (Sum.inr (Sum.inl ()))) (fun b =>
 (Sum.inl (b.1, (b.2.1, (b.2.2.1, (w64 (b.2.2.2 + (1 : Int)))))))) r)) else
 (Sum.inr (Sum.inr (()))))
noncomputable def l20corners_l0_pre (x : (((List I3) × ((List I2) × ((List I3) × (List I9)))) × (Int × (Int × (Int × ((List ((List Int) × ((List I6) × I2))) × (List (Int × I3)))))))) (s : ((List (Int × (Int × (Int × I3)))) × ((List I6) × ((List Int) × Int)))) : Prop :=
 ((s.2.2.2 < (((List.length s.2.1) : Nat) : Int)) →
 (Term (l20corners_l2_step x) (l20corners_l2_pre x) (s.1, (s.2.1, (s.2.2.1, (s.2.2.2, (0 : Int)))))))
noncomputable def l20corners_l0_t (x : (((List I3) × ((List I2) × ((List I3) × (List I9)))) × (Int × (Int × (Int × ((List ((List Int) × ((List I6) × I2))) × (List (Int × I3)))))))) (s : ((List (Int × (Int × (Int × I3)))) × ((List I6) × ((List Int) × Int)))) : Tr (((List (Int × (Int × (Int × I3)))) × ((List I6) × ((List Int) × Int))) ⊕ (Unit ⊕ Unit)) true :=
 (.i10 (s.2.2.2 < (((List.length s.2.1) : Nat) : Int))
 (LoopD.lp (l20corners_l2 x) (l20corners_l2_t x) (s.1, (s.2.1, (s.2.2.1, (s.2.2.2, (0 : Int))))) fun r =>
 (.s00 r (fun a =>
 (.ret (.inr (Sum.inl ())))) (fun b =>
 (.ret (.inl (b.1, (b.2.1, (b.2.2.1, (w64 (b.2.2.2 + (1 : Int)))))))))))
 (.ret (.inr (Sum.inr (())))))
noncomputable def l20corners (x : (((List I3) × ((List I2) × ((List I3) × (List I9)))) × (Int × (Int × (Int × ((List ((List Int) × ((List I6) × I2))) × (List (Int × I3)))))))) : Bool :=
 (letV (few20 x) fun y =>
 (if ((!y) = true) then
 true else
 (letV (lsamples x) fun y_1 =>
 (if ((y_1.2 != (0 : Int)) = true) then
 (letV (l20lifted false) fun y_2 =>
 y_2) else
 (letV (allM x.2) fun y_2 =>
 (if ((y_2.2.2 != (0 : Int)) = true) then
 false else
 (if (((((List.length y_2.1) : Nat) : Int) != (((List.length y_2.2.1) : Nat) : Int)) = true) then
 false else
 (letV (run (l20corners_l0_step x) (y_1.1, (y_2.1, (y_2.2.1, (0 : Int))))) fun r =>
 (Sum.elim (fun a =>
 false) (fun b =>
 (letV (l20lifted false) fun y_3 =>
 y_3)) r)))))))))
noncomputable def l20corners_pre (x : (((List I3) × ((List I2) × ((List I3) × (List I9)))) × (Int × (Int × (Int × ((List ((List Int) × ((List I6) × I2))) × (List (Int × I3)))))))) : Prop :=
 ((few20_pre x) ∧
 letP (few20 x) fun y =>
 (¬ ((!y) = true) →
 ((lsamples_pre x) ∧
 letP (lsamples x) fun y_1 =>
 ((((y_1.2 != (0 : Int)) = true) →
 (l20lifted_pre false)) ∧
 (¬ ((y_1.2 != (0 : Int)) = true) →
 ((allM_pre x.2) ∧
 letP (allM x.2) fun y_2 =>
 (¬ ((y_2.2.2 != (0 : Int)) = true) →
 (¬ (((((List.length y_2.1) : Nat) : Int) != (((List.length y_2.2.1) : Nat) : Int)) = true) →
 (Term (l20corners_l0_step x) (l20corners_l0_pre x) (y_1.1, (y_2.1, (y_2.2.1, (0 : Int)))) ∧
 letP (run (l20corners_l0_step x) (y_1.1, (y_2.1, (y_2.2.1, (0 : Int))))) fun r =>
 (cS r (fun a =>
 True) (fun b =>
 (l20lifted_pre false))))))))))))
noncomputable def l20corners_t (x : (((List I3) × ((List I2) × ((List I3) × (List I9)))) × (Int × (Int × (Int × ((List ((List Int) × ((List I6) × I2))) × (List (Int × I3)))))))) : Tr Bool true :=
 (.fn few20_S x fun y =>
 (.b01 (!y)
 (.ret true)
 (.fn lsamples_S x fun y_1 =>
 (.b11 (y_1.2 != (0 : Int))
 (.fn l20lifted_S false fun y_2 =>
 (.ret y_2))
 (.fn allM_S x.2 fun y_2 =>
 (.b01 (y_2.2.2 != (0 : Int))
 (.ret false)
 (.b01 ((((List.length y_2.1) : Nat) : Int) != (((List.length y_2.2.1) : Nat) : Int))
 (.ret false)
 (LoopD.lp (l20corners_l0 x) (l20corners_l0_t x) (y_1.1, (y_2.1, (y_2.2.1, (0 : Int)))) fun r =>
 (.s01 r (fun a =>
 (.ret false)) (fun b =>
 (.fn l20lifted_S false fun y_3 =>
 (.ret y_3))))))))))))
noncomputable abbrev l20corners_S : FnS := ⟨(.pair (.agg (Ty.prod (Ty.sl yy3) (Ty.prod (Ty.sl yy2) (Ty.prod (Ty.sl yy3) (Ty.sl yy9))))) (.agg (Ty.prod yi (Ty.prod yi (Ty.prod yi (Ty.prod (Ty.sl (Ty.prod (Ty.sl yi) (Ty.prod (Ty.sl yy6) yy2))) (Ty.sl (Ty.prod yi yy3)))))))), (.one Ty.bool), l20corners_pre, l20corners⟩
theorem l20corners_ok : SpecOk Tryz.prog 4 (fnSpec l20corners_S) := SpecOk.tr l20corners_S l20corners_t (fn := Tryz.f4) tt_ok sp_inl_ok mixed (by kernel_rfl) (ItsOk.nil _ _) (fun x => (LpsOk.tr tt_ok (SpecsOk.ctxI sp_inl_ok (ItsOk.nil _ _)) mixed 0 (l20corners_l0 x) (l20corners_l0_t x) (LpsOk.tr tt_ok (SpecsOk.ctxI sp_inl_ok (ItsOk.nil _ _)) mixed 2 (l20corners_l2 x) (l20corners_l2_t x) LpsOk.nil (by kernel_rfl) fun g s Q => (by kernel_rfl)) (by kernel_rfl) fun g s Q => (by kernel_rfl))) (fun x => (by kernel_rfl)) fun x Q => (by kernel_rfl)
def sp_l20corners : List (Nat × Ev.Spec) := (4, fnSpec l20corners_S) :: sp_inl
theorem sp_l20corners_ok : SpecsOk Tryz.prog sp_l20corners := SpecsOk.add (fn := Tryz.f4) (by kernel_rfl) l20corners_ok sp_inl_ok
end Go.Proofs.YtfgdjlhilladhaaGreat
