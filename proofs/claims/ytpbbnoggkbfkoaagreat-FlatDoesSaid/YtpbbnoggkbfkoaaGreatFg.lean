/- Models of the law's functions that need no reference. -/
import Derived.Test.YtpbbnoggkbfkoaaGreatFf
namespace Go.Proofs.YtpbbnoggkbfkoaaGreat
open Go Go.Ev Go.Proofs
set_option linter.unusedVariables false
noncomputable def r14few (x : ((List I3) × ((List I2) × ((List I3) × (List I9))))) : Bool :=
 (if ((((List.length x.1) : Nat) : Int) ≤ (20 : Int)) then
 (if ((((List.length x.2.1) : Nat) : Int) ≤ (60 : Int)) then
 (if ((((List.length x.2.2.1) : Nat) : Int) ≤ (60 : Int)) then
 (decide ((((List.length x.2.2.2) : Nat) : Int) ≤ (20 : Int))) else
 false) else
 false) else
 false)
noncomputable def r14few_pre (_ : ((List I3) × ((List I2) × ((List I3) × (List I9))))) : Prop := True
noncomputable def r14few_t (x : ((List I3) × ((List I2) × ((List I3) × (List I9))))) : Tr Bool false :=
 (.i00 ((((List.length x.1) : Nat) : Int) ≤ (20 : Int))
 (.i00 ((((List.length x.2.1) : Nat) : Int) ≤ (60 : Int))
 (.i00 ((((List.length x.2.2.1) : Nat) : Int) ≤ (60 : Int))
 (.ret (decide ((((List.length x.2.2.2) : Nat) : Int) ≤ (20 : Int))))
 (.ret false))
 (.ret false))
 (.ret false))
noncomputable abbrev r14few_S : FnS := ⟨(.agg (Ty.prod (Ty.sl yy3) (Ty.prod (Ty.sl yy2) (Ty.prod (Ty.sl yy3) (Ty.sl yy9))))), (.one Ty.bool), r14few_pre, r14few⟩
theorem r14few_ok : SpecOk Tryz.prog 20 (fnSpec r14few_S) := SpecOk.tr r14few_S r14few_t (fn := Tryz.f20) tt_ok sp_fmove_ok mixed (by kernel_rfl) (ItsOk.nil _ _) (fun x => LpsOk.nil) (fun x => (by kernel_rfl)) fun x Q => (by kernel_rfl)
def sp_r14few : List (Nat × Ev.Spec) := (20, fnSpec r14few_S) :: sp_fmove
theorem sp_r14few_ok : SpecsOk Tryz.prog sp_r14few := SpecsOk.add (fn := Tryz.f20) (by kernel_rfl) r14few_ok sp_fmove_ok
noncomputable def r15few_l0 (x : (((List I3) × ((List I2) × ((List I3) × (List I9)))) × (List (Int × (Int × (List Int)))))) : LoopD := ⟨[], ⟨pvs 37 0 [(1, .v (.one (.full 0))), (2, .v (.one (.ptr 1 0))), (5, .v (.one (.i .i64)))], [.row (Ty.prod yi (Ty.prod yi (Ty.sl yi))) 0, .cells [.full 2, .full 3, .full 4, .full 5] 26, .row yy3 0, .row yy2 0, .row yy3 0, .row yy9 0], 0, none, [], [1, 2, 3, 4, 5], [0], [.i], [.l (Ty.prod yi (Ty.prod yi (Ty.sl yi))) x.2, .l yy3 x.1.1, .l yy2 x.1.2.1, .l yy3 x.1.2.2.1, .l yy9 x.1.2.2.2]⟩, [⟨.ret, .ret, ⟨pvs 37 0 [(4, .v (.one (.b)))], [], 0, none, [], [0], [], [], [.b false]⟩⟩, ⟨(.exit 0), .normal, ⟨pvs 37 0 [(1, .v (.one (.full 0))), (2, .v (.one (.ptr 1 0)))], [.row (Ty.prod yi (Ty.prod yi (Ty.sl yi))) 0, .cells [.full 2, .full 3, .full 4, .full 5] 26, .row yy3 0, .row yy2 0, .row yy3 0, .row yy9 0], 0, none, [], [0, 1, 2, 3, 4], [], [], [.l (Ty.prod yi (Ty.prod yi (Ty.sl yi))) x.2, .l yy3 x.1.1, .l yy2 x.1.2.1, .l yy3 x.1.2.2.1, .l yy9 x.1.2.2.2]⟩⟩]⟩
noncomputable def r15few_l0_step (x : (((List I3) × ((List I2) × ((List I3) × (List I9)))) × (List (Int × (Int × (List Int)))))) (s : Int) : Int ⊕ (Unit ⊕ Unit) :=
 (if (s < (((List.length x.2) : Nat) : Int)) then
 (if ((((List.length x.2) : Nat) : Int) ≤ (20 : Int)) then
 (if ((((List.length (List.getD x.2 (Int.toNat s) ((0 : Int), ((0 : Int), []))).2.2) : Nat) : Int) > (20 : Int)) then
 (Sum.inr (Sum.inl ())) else
 (Sum.inl (w64 (s + (1 : Int))))) else
 (Sum.inr (Sum.inr (())))) else
 (Sum.inr (Sum.inr (()))))
noncomputable def r15few_l0_pre (x : (((List I3) × ((List I2) × ((List I3) × (List I9)))) × (List (Int × (Int × (List Int)))))) (s : Int) : Prop :=
 ((s < (((List.length x.2) : Nat) : Int)) →
 (((((List.length x.2) : Nat) : Int) ≤ (20 : Int)) →
 ((((0 : Int) ≤ s) ∧ (s < (((List.length x.2) : Nat) : Int))) ∧
 (((Int.toNat s) < (List.length x.2)) ∧
 (((Int.toNat s) < (List.length x.2)) ∧
 ((Int.toNat s) < (List.length x.2)))))))
noncomputable def r15few_l0_t (x : (((List I3) × ((List I2) × ((List I3) × (List I9)))) × (List (Int × (Int × (List Int)))))) (s : Int) : Tr (Int ⊕ (Unit ⊕ Unit)) true :=
 (.i10 (s < (((List.length x.2) : Nat) : Int))
 (.i10 ((((List.length x.2) : Nat) : Int) ≤ (20 : Int))
 (.oR s (((List.length x.2) : Nat) : Int)
 (.od ((Int.toNat s) < (List.length x.2))
 (.od ((Int.toNat s) < (List.length x.2))
 (.od ((Int.toNat s) < (List.length x.2))
 (.i00 ((((List.length (List.getD x.2 (Int.toNat s) ((0 : Int), ((0 : Int), []))).2.2) : Nat) : Int) > (20 : Int))
 (.ret (.inr (Sum.inl ())))
 (.ret (.inl (w64 (s + (1 : Int))))))))))
 (.ret (.inr (Sum.inr (())))))
 (.ret (.inr (Sum.inr (())))))
noncomputable def r15few (x : (((List I3) × ((List I2) × ((List I3) × (List I9)))) × (List (Int × (Int × (List Int)))))) : Bool :=
 (letV (run (r15few_l0_step x) (0 : Int)) fun r =>
 (Sum.elim (fun a =>
 false) (fun b =>
 (if ((((List.length x.2) : Nat) : Int) ≤ (20 : Int)) then
 (letV (r14few x.1) fun y =>
 (if (y = true) then
 (decide ((((List.length x.1.2.2.2) : Nat) : Int) ≤ (12 : Int))) else
 false)) else
 false)) r))
noncomputable def r15few_pre (x : (((List I3) × ((List I2) × ((List I3) × (List I9)))) × (List (Int × (Int × (List Int)))))) : Prop :=
 (Term (r15few_l0_step x) (r15few_l0_pre x) (0 : Int))
noncomputable def r15few_t (x : (((List I3) × ((List I2) × ((List I3) × (List I9)))) × (List (Int × (Int × (List Int)))))) : Tr Bool true :=
 (LoopD.lp (r15few_l0 x) (r15few_l0_t x) (0 : Int) fun r =>
 (.s00 r (fun a =>
 (.ret false)) (fun b =>
 (.i00 ((((List.length x.2) : Nat) : Int) ≤ (20 : Int))
 (.fn0 r14few_S x.1 trivial fun y =>
 (.b00 y
 (.ret (decide ((((List.length x.1.2.2.2) : Nat) : Int) ≤ (12 : Int))))
 (.ret false)))
 (.ret false)))))
noncomputable abbrev r15few_S : FnS := ⟨(.pair (.agg (Ty.prod (Ty.sl yy3) (Ty.prod (Ty.sl yy2) (Ty.prod (Ty.sl yy3) (Ty.sl yy9))))) (.one (Ty.sl (Ty.prod yi (Ty.prod yi (Ty.sl yi)))))), (.one Ty.bool), r15few_pre, r15few⟩
theorem r15few_ok : SpecOk Tryz.prog 4 (fnSpec r15few_S) := SpecOk.tr r15few_S r15few_t (fn := Tryz.f4) tt_ok sp_r14few_ok mixed (by kernel_rfl) (ItsOk.nil _ _) (fun x => (LpsOk.tr tt_ok (SpecsOk.ctxI sp_r14few_ok (ItsOk.nil _ _)) mixed 0 (r15few_l0 x) (r15few_l0_t x) LpsOk.nil (by kernel_rfl) fun g s Q => (by kernel_rfl))) (fun x => (by kernel_rfl)) fun x Q => (by kernel_rfl)
def sp_r15few : List (Nat × Ev.Spec) := (4, fnSpec r15few_S) :: sp_r14few
theorem sp_r15few_ok : SpecsOk Tryz.prog sp_r15few := SpecsOk.add (fn := Tryz.f4) (by kernel_rfl) r15few_ok sp_r14few_ok
noncomputable def r16big (x : ((List Int) × ((List I6) × I2))) : Bool :=
 (if ((((List.length x.1) : Nat) : Int) > (15 : Int)) then
 true else
 (decide ((((List.length x.2.1) : Nat) : Int) > (15 : Int))))
noncomputable def r16big_pre (_ : ((List Int) × ((List I6) × I2))) : Prop := True
noncomputable def r16big_t (x : ((List Int) × ((List I6) × I2))) : Tr Bool false :=
 (.i00 ((((List.length x.1) : Nat) : Int) > (15 : Int))
 (.ret true)
 (.ret (decide ((((List.length x.2.1) : Nat) : Int) > (15 : Int)))))
noncomputable abbrev r16big_S : FnS := ⟨(.agg (Ty.prod (Ty.sl yi) (Ty.prod (Ty.sl yy6) yy2))), (.one Ty.bool), r16big_pre, r16big⟩
theorem r16big_ok : SpecOk Tryz.prog 5 (fnSpec r16big_S) := SpecOk.tr r16big_S r16big_t (fn := Tryz.f5) tt_ok sp_r15few_ok mixed (by kernel_rfl) (ItsOk.nil _ _) (fun x => LpsOk.nil) (fun x => (by kernel_rfl)) fun x Q => (by kernel_rfl)
def sp_r16big : List (Nat × Ev.Spec) := (5, fnSpec r16big_S) :: sp_r15few
theorem sp_r16big_ok : SpecsOk Tryz.prog sp_r16big := SpecsOk.add (fn := Tryz.f5) (by kernel_rfl) r16big_ok sp_r15few_ok
noncomputable def r1same_l0 (x : ((List Int) × (List Int))) : LoopD := ⟨[], ⟨pvs 26 0 [(0, .v (.one (.full 0))), (1, .v (.one (.full 1))), (5, .v (.one (.i .i64)))], [.row yi 0, .row yi 0], 0, none, [], [1, 2], [0], [.i], [.l yi x.1, .l yi x.2]⟩, [⟨.ret, .ret, ⟨pvs 26 0 [(4, .v (.one (.b)))], [], 0, none, [], [0], [], [], [.b false]⟩⟩, ⟨(.exit 0), .normal, ⟨pvs 26 0 [], [], 0, none, [], [], [], [], []⟩⟩]⟩
noncomputable def r1same_l0_step (x : ((List Int) × (List Int))) (s : Int) : Int ⊕ (Unit ⊕ Unit) :=
 (if (s < (((List.length x.1) : Nat) : Int)) then
 (if (((List.getD x.1 (Int.toNat s) (0 : Int)) != (List.getD x.2 (Int.toNat s) (0 : Int))) = true) then
 (Sum.inr (Sum.inl ())) else
 (Sum.inl (w64 (s + (1 : Int))))) else
 (Sum.inr (Sum.inr (()))))
noncomputable def r1same_l0_pre (x : ((List Int) × (List Int))) (s : Int) : Prop :=
 ((s < (((List.length x.1) : Nat) : Int)) →
 ((((0 : Int) ≤ s) ∧ (s < (((List.length x.1) : Nat) : Int))) ∧
 (((Int.toNat s) < (List.length x.1)) ∧
 (((Int.toNat s) < (List.length x.1)) ∧
 ((((0 : Int) ≤ s) ∧ (s < (((List.length x.2) : Nat) : Int))) ∧
 (((Int.toNat s) < (List.length x.2)) ∧
 ((Int.toNat s) < (List.length x.2))))))))
noncomputable def r1same_l0_t (x : ((List Int) × (List Int))) (s : Int) : Tr (Int ⊕ (Unit ⊕ Unit)) true :=
 (.i10 (s < (((List.length x.1) : Nat) : Int))
 (.oR s (((List.length x.1) : Nat) : Int)
 (.od ((Int.toNat s) < (List.length x.1))
 (.od ((Int.toNat s) < (List.length x.1))
 (.oR s (((List.length x.2) : Nat) : Int)
 (.od ((Int.toNat s) < (List.length x.2))
 (.od ((Int.toNat s) < (List.length x.2))
 (.b00 ((List.getD x.1 (Int.toNat s) (0 : Int)) != (List.getD x.2 (Int.toNat s) (0 : Int)))
 (.ret (.inr (Sum.inl ())))
 (.ret (.inl (w64 (s + (1 : Int))))))))))))
 (.ret (.inr (Sum.inr (())))))
noncomputable def r1same (x : ((List Int) × (List Int))) : Bool :=
 (if (((((List.length x.1) : Nat) : Int) != (((List.length x.2) : Nat) : Int)) = true) then
 false else
 (letV (run (r1same_l0_step x) (0 : Int)) fun r =>
 (Sum.elim (fun a =>
 false) (fun b =>
 true) r)))
noncomputable def r1same_pre (x : ((List Int) × (List Int))) : Prop :=
 (¬ (((((List.length x.1) : Nat) : Int) != (((List.length x.2) : Nat) : Int)) = true) →
 (Term (r1same_l0_step x) (r1same_l0_pre x) (0 : Int)))
noncomputable def r1same_t (x : ((List Int) × (List Int))) : Tr Bool true :=
 (.b01 ((((List.length x.1) : Nat) : Int) != (((List.length x.2) : Nat) : Int))
 (.ret false)
 (LoopD.lp (r1same_l0 x) (r1same_l0_t x) (0 : Int) fun r =>
 (.s00 r (fun a =>
 (.ret false)) (fun b =>
 (.ret true)))))
noncomputable abbrev r1same_S : FnS := ⟨(.pair (.one (Ty.sl yi)) (.one (Ty.sl yi))), (.one Ty.bool), r1same_pre, r1same⟩
theorem r1same_ok : SpecOk Tryz.prog 37 (fnSpec r1same_S) := SpecOk.tr r1same_S r1same_t (fn := Tryz.f37) tt_ok sp_r16big_ok mixed (by kernel_rfl) (ItsOk.nil _ _) (fun x => (LpsOk.tr tt_ok (SpecsOk.ctxI sp_r16big_ok (ItsOk.nil _ _)) mixed 0 (r1same_l0 x) (r1same_l0_t x) LpsOk.nil (by kernel_rfl) fun g s Q => (by kernel_rfl))) (fun x => (by kernel_rfl)) fun x Q => (by kernel_rfl)
def sp_r1same : List (Nat × Ev.Spec) := (37, fnSpec r1same_S) :: sp_r16big
theorem sp_r1same_ok : SpecsOk Tryz.prog sp_r1same := SpecsOk.add (fn := Tryz.f37) (by kernel_rfl) r1same_ok sp_r16big_ok
noncomputable def l16laid (x : Bool) : Bool :=
 (letV (flay (([((5 : Int), ((5 : Int), (0 : Int))), ((25 : Int), ((5 : Int), (0 : Int))), ((5 : Int), ((21 : Int), (0 : Int)))], ([], ([], [(((0 : Int), ((-1 : Int), (-1 : Int))), (((1 : Int), ((-1 : Int), (-1 : Int))), ((2 : Int), ((-1 : Int), (-1 : Int)))))]))), (((2 : Int), ((1 : Int), [(0 : Int)])), (2 : Int)))) fun y =>
 (letV (flay (([((5 : Int), ((5 : Int), (0 : Int))), ((25 : Int), ((5 : Int), (0 : Int))), ((5 : Int), ((21 : Int), (0 : Int)))], ([], ([], [(((0 : Int), ((-1 : Int), (-1 : Int))), (((1 : Int), ((-1 : Int), (-1 : Int))), ((2 : Int), ((-1 : Int), (-1 : Int)))))]))), (((1 : Int), ((1 : Int), [(0 : Int)])), (2 : Int)))) fun y_1 =>
 (letV (fmove (y.1, ((3 : Int), (0 : Int)))) fun y_2 =>
 (letV (fsize (16 : Int)) fun y_3 =>
 (if ((y.2 != (0 : Int)) = true) then
 false else
 (if ((y_2.2 != (0 : Int)) = true) then
 false else
 (if (((((List.length y.1.2.1) : Nat) : Int) != (1 : Int)) = true) then
 false else
 (if (((((List.length y_2.1) : Nat) : Int) != (1 : Int)) = true) then
 false else
 (if (((((List.getD y.1.2.1 0 (((0 : Int), (0 : Int)), (((0 : Int), (0 : Int)), ((0 : Int), (0 : Int))))).1.1 == (0 : Int)) && (((List.getD y.1.2.1 0 (((0 : Int), (0 : Int)), (((0 : Int), (0 : Int)), ((0 : Int), (0 : Int))))).1.2 == (0 : Int)) && true)) && ((((List.getD y.1.2.1 0 (((0 : Int), (0 : Int)), (((0 : Int), (0 : Int)), ((0 : Int), (0 : Int))))).2.1.1 == (40 : Int)) && (((List.getD y.1.2.1 0 (((0 : Int), (0 : Int)), (((0 : Int), (0 : Int)), ((0 : Int), (0 : Int))))).2.1.2 == (0 : Int)) && true)) && ((((List.getD y.1.2.1 0 (((0 : Int), (0 : Int)), (((0 : Int), (0 : Int)), ((0 : Int), (0 : Int))))).2.2.1 == (0 : Int)) && (((List.getD y.1.2.1 0 (((0 : Int), (0 : Int)), (((0 : Int), (0 : Int)), ((0 : Int), (0 : Int))))).2.2.2 == (32 : Int)) && true)) && true))) = true) then
 (if ((y.1.2.2.1 == (3 : Int)) = true) then
 (if ((y.1.2.2.2 == (3 : Int)) = true) then
 (if ((y_1.2 == (1 : Int)) = true) then
 (if ((((List.getD y_2.1 0 (((0 : Int), (0 : Int)), (((0 : Int), (0 : Int)), ((0 : Int), (0 : Int))))).1.1 == (3 : Int)) && (((List.getD y_2.1 0 (((0 : Int), (0 : Int)), (((0 : Int), (0 : Int)), ((0 : Int), (0 : Int))))).1.2 == (0 : Int)) && true)) = true) then
 (if ((y_3.1 == (2 : Int)) = true) then
 (if ((y_3.2 == y.2) = true) then
 (letV (fis y.1) fun y_4 =>
 y_4) else
 false) else
 false) else
 false) else
 false) else
 false) else
 false) else
 false)))))))))
noncomputable def l16laid_pre (x : Bool) : Prop :=
 ((flay_pre (([((5 : Int), ((5 : Int), (0 : Int))), ((25 : Int), ((5 : Int), (0 : Int))), ((5 : Int), ((21 : Int), (0 : Int)))], ([], ([], [(((0 : Int), ((-1 : Int), (-1 : Int))), (((1 : Int), ((-1 : Int), (-1 : Int))), ((2 : Int), ((-1 : Int), (-1 : Int)))))]))), (((2 : Int), ((1 : Int), [(0 : Int)])), (2 : Int)))) ∧
 letP (flay (([((5 : Int), ((5 : Int), (0 : Int))), ((25 : Int), ((5 : Int), (0 : Int))), ((5 : Int), ((21 : Int), (0 : Int)))], ([], ([], [(((0 : Int), ((-1 : Int), (-1 : Int))), (((1 : Int), ((-1 : Int), (-1 : Int))), ((2 : Int), ((-1 : Int), (-1 : Int)))))]))), (((2 : Int), ((1 : Int), [(0 : Int)])), (2 : Int)))) fun y =>
 ((flay_pre (([((5 : Int), ((5 : Int), (0 : Int))), ((25 : Int), ((5 : Int), (0 : Int))), ((5 : Int), ((21 : Int), (0 : Int)))], ([], ([], [(((0 : Int), ((-1 : Int), (-1 : Int))), (((1 : Int), ((-1 : Int), (-1 : Int))), ((2 : Int), ((-1 : Int), (-1 : Int)))))]))), (((1 : Int), ((1 : Int), [(0 : Int)])), (2 : Int)))) ∧
 letP (flay (([((5 : Int), ((5 : Int), (0 : Int))), ((25 : Int), ((5 : Int), (0 : Int))), ((5 : Int), ((21 : Int), (0 : Int)))], ([], ([], [(((0 : Int), ((-1 : Int), (-1 : Int))), (((1 : Int), ((-1 : Int), (-1 : Int))), ((2 : Int), ((-1 : Int), (-1 : Int)))))]))), (((1 : Int), ((1 : Int), [(0 : Int)])), (2 : Int)))) fun y_1 =>
 ((fmove_pre (y.1, ((3 : Int), (0 : Int)))) ∧
 letP (fmove (y.1, ((3 : Int), (0 : Int)))) fun y_2 =>
 (letP (fsize (16 : Int)) fun y_3 =>
 (¬ ((y.2 != (0 : Int)) = true) →
 (¬ ((y_2.2 != (0 : Int)) = true) →
 (¬ (((((List.length y.1.2.1) : Nat) : Int) != (1 : Int)) = true) →
 (¬ (((((List.length y_2.1) : Nat) : Int) != (1 : Int)) = true) →
 (((0 : Int) < (((List.length y.1.2.1) : Nat) : Int)) ∧
 ((0 < (List.length y.1.2.1)) ∧
 ((0 < (List.length y.1.2.1)) ∧
 ((((((List.getD y.1.2.1 0 (((0 : Int), (0 : Int)), (((0 : Int), (0 : Int)), ((0 : Int), (0 : Int))))).1.1 == (0 : Int)) && (((List.getD y.1.2.1 0 (((0 : Int), (0 : Int)), (((0 : Int), (0 : Int)), ((0 : Int), (0 : Int))))).1.2 == (0 : Int)) && true)) && ((((List.getD y.1.2.1 0 (((0 : Int), (0 : Int)), (((0 : Int), (0 : Int)), ((0 : Int), (0 : Int))))).2.1.1 == (40 : Int)) && (((List.getD y.1.2.1 0 (((0 : Int), (0 : Int)), (((0 : Int), (0 : Int)), ((0 : Int), (0 : Int))))).2.1.2 == (0 : Int)) && true)) && ((((List.getD y.1.2.1 0 (((0 : Int), (0 : Int)), (((0 : Int), (0 : Int)), ((0 : Int), (0 : Int))))).2.2.1 == (0 : Int)) && (((List.getD y.1.2.1 0 (((0 : Int), (0 : Int)), (((0 : Int), (0 : Int)), ((0 : Int), (0 : Int))))).2.2.2 == (32 : Int)) && true)) && true))) = true) →
 (((y.1.2.2.1 == (3 : Int)) = true) →
 (((y.1.2.2.2 == (3 : Int)) = true) →
 (((y_1.2 == (1 : Int)) = true) →
 (((0 : Int) < (((List.length y_2.1) : Nat) : Int)) ∧
 ((0 < (List.length y_2.1)) ∧
 ((0 < (List.length y_2.1)) ∧
 ((0 < (List.length y_2.1)) ∧
 (((((List.getD y_2.1 0 (((0 : Int), (0 : Int)), (((0 : Int), (0 : Int)), ((0 : Int), (0 : Int))))).1.1 == (3 : Int)) && (((List.getD y_2.1 0 (((0 : Int), (0 : Int)), (((0 : Int), (0 : Int)), ((0 : Int), (0 : Int))))).1.2 == (0 : Int)) && true)) = true) →
 (((y_3.1 == (2 : Int)) = true) →
 (((y_3.2 == y.2) = true) →
 (fis_pre y.1)))))))))))))))))))))))
noncomputable def l16laid_t (x : Bool) : Tr Bool true :=
 (.fn flay_S (([((5 : Int), ((5 : Int), (0 : Int))), ((25 : Int), ((5 : Int), (0 : Int))), ((5 : Int), ((21 : Int), (0 : Int)))], ([], ([], [(((0 : Int), ((-1 : Int), (-1 : Int))), (((1 : Int), ((-1 : Int), (-1 : Int))), ((2 : Int), ((-1 : Int), (-1 : Int)))))]))), (((2 : Int), ((1 : Int), [(0 : Int)])), (2 : Int))) fun y =>
 (.fn flay_S (([((5 : Int), ((5 : Int), (0 : Int))), ((25 : Int), ((5 : Int), (0 : Int))), ((5 : Int), ((21 : Int), (0 : Int)))], ([], ([], [(((0 : Int), ((-1 : Int), (-1 : Int))), (((1 : Int), ((-1 : Int), (-1 : Int))), ((2 : Int), ((-1 : Int), (-1 : Int)))))]))), (((1 : Int), ((1 : Int), [(0 : Int)])), (2 : Int))) fun y_1 =>
 (.fn fmove_S (y.1, ((3 : Int), (0 : Int))) fun y_2 =>
 (.fn0 fsize_S (16 : Int) trivial fun y_3 =>
 (.b01 (y.2 != (0 : Int))
 (.ret false)
 (.b01 (y_2.2 != (0 : Int))
 (.ret false)
 (.b01 ((((List.length y.1.2.1) : Nat) : Int) != (1 : Int))
 (.ret false)
 (.b01 ((((List.length y_2.1) : Nat) : Int) != (1 : Int))
 (.ret false)
 (.og (true && (decide ((0 : Int) < (((List.length y.1.2.1) : Nat) : Int)))) ((0 : Int) < (((List.length y.1.2.1) : Nat) : Int)) (fun h => (and_t rfl (decide_eq_true h)))
 (.od (0 < (List.length y.1.2.1))
 (.od (0 < (List.length y.1.2.1))
 (.b10 ((((List.getD y.1.2.1 0 zz6).1.1 == (0 : Int)) && (((List.getD y.1.2.1 0 zz6).1.2 == (0 : Int)) && true)) && ((((List.getD y.1.2.1 0 zz6).2.1.1 == (40 : Int)) && (((List.getD y.1.2.1 0 zz6).2.1.2 == (0 : Int)) && true)) && ((((List.getD y.1.2.1 0 zz6).2.2.1 == (0 : Int)) && (((List.getD y.1.2.1 0 zz6).2.2.2 == (32 : Int)) && true)) && true)))
 (.b10 (y.1.2.2.1 == (3 : Int))
 (.b10 (y.1.2.2.2 == (3 : Int))
 (.b10 (y_1.2 == (1 : Int))
 (.og (true && (decide ((0 : Int) < (((List.length y_2.1) : Nat) : Int)))) ((0 : Int) < (((List.length y_2.1) : Nat) : Int)) (fun h => (and_t rfl (decide_eq_true h)))
 (.od (0 < (List.length y_2.1))
 (.od (0 < (List.length y_2.1))
 (.od (0 < (List.length y_2.1))
 (.b10 (((List.getD y_2.1 0 zz6).1.1 == (3 : Int)) && (((List.getD y_2.1 0 zz6).1.2 == (0 : Int)) && true))
 (.b10 (y_3.1 == (2 : Int))
 (.b10 (y_3.2 == y.2)
 (.fn fis_S y.1 fun y_4 =>
 (.ret y_4))
 (.ret false))
 (.ret false))
 (.ret false))))))
 (.ret false))
 (.ret false))
 (.ret false))
 (.ret false)))))))))))))
noncomputable abbrev l16laid_S : FnS := ⟨.none, (.one Ty.bool), l16laid_pre, l16laid⟩
theorem l16laid_ok : SpecOk Tryz.prog 17 (fnSpec l16laid_S) := SpecOk.tr l16laid_S l16laid_t (fn := Tryz.f17) tt_ok sp_r1same_ok mixed (by kernel_rfl) (ItsOk.nil _ _) (fun x => LpsOk.nil) (fun x => (by kernel_rfl)) fun x Q => (by kernel_rfl)
def sp_l16laid : List (Nat × Ev.Spec) := (17, fnSpec l16laid_S) :: sp_r1same
theorem sp_l16laid_ok : SpecsOk Tryz.prog sp_l16laid := SpecsOk.add (fn := Tryz.f17) (by kernel_rfl) l16laid_ok sp_r1same_ok
end Go.Proofs.YtpbbnoggkbfkoaaGreat
