/- Models of functions, and that the code does what they say. -/
import Derived.Test.YtfgdjlhilladhaaEvR
import Derived.Test.YtfgdjlhilladhaaTt
namespace Go.Proofs.Ytfgdjlhilladhaa
open Go Go.Ev Go.Proofs
set_option linter.unusedVariables false
noncomputable def isnan (x : Int) : Bool :=
 (x != x)
noncomputable def isnan_pre (_ : Int) : Prop := True
noncomputable def isnan_t (x : Int) : Tr Bool false :=
 (.ret (x != x))
noncomputable abbrev isnan_S : FnS := ⟨(.one yi), (.one Ty.bool), isnan_pre, isnan⟩
theorem isnan_ok : SpecOk Try.prog 76 (fnSpec isnan_S) := SpecOk.tr isnan_S isnan_t (fn := Try.f76) tt_ok (SpecsOk.nil _) mixed (by kernel_rfl) (ItsOk.nil _ _) (fun x => LpsOk.nil) (fun x => (by kernel_rfl)) fun x Q => (by kernel_rfl)
def sp_isnan : List (Nat × Ev.Spec) := (76, fnSpec isnan_S) :: []
theorem sp_isnan_ok : SpecsOk Try.prog sp_isnan := SpecsOk.add (fn := Try.f76) (by kernel_rfl) isnan_ok (SpecsOk.nil _)
noncomputable def compare (x : I2) : Int :=
 (letV (isnan x.1) fun y =>
 (letV (isnan x.2) fun y_1 =>
 (if (y = true) then
 (if (y_1 = true) then
 (0 : Int) else
 (-1 : Int)) else
 (if (y_1 = true) then
 (1 : Int) else
 (if (x.1 < x.2) then
 (-1 : Int) else
 (if (x.1 > x.2) then
 (1 : Int) else
 (0 : Int)))))))
noncomputable def compare_pre (_ : I2) : Prop := True
noncomputable def compare_t (x : I2) : Tr Int false :=
 (.fn0 isnan_S x.1 trivial fun y =>
 (.fn0 isnan_S x.2 trivial fun y_1 =>
 (.b00 y
 (.b00 y_1
 (.ret (0 : Int))
 (.ret (-1 : Int)))
 (.b00 y_1
 (.ret (1 : Int))
 (.i00 (x.1 < x.2)
 (.ret (-1 : Int))
 (.i00 (x.1 > x.2)
 (.ret (1 : Int))
 (.ret (0 : Int))))))))
noncomputable abbrev compare_S : FnS := ⟨(.pair (.one yi) (.one yi)), (.one yi), compare_pre, compare⟩
theorem compare_ok : SpecOk Try.prog 52 (fnSpec compare_S) := SpecOk.tr compare_S compare_t (fn := Try.f52) tt_ok sp_isnan_ok mixed (by kernel_rfl) (ItsOk.nil _ _) (fun x => LpsOk.nil) (fun x => (by kernel_rfl)) fun x Q => (by kernel_rfl)
def sp_compare : List (Nat × Ev.Spec) := (52, fnSpec compare_S) :: sp_isnan
theorem sp_compare_ok : SpecsOk Try.prog sp_compare := SpecsOk.add (fn := Try.f52) (by kernel_rfl) compare_ok sp_isnan_ok
noncomputable def dot (x : (I2 × I2)) : Int :=
 (w64 ((w64 (x.1.1 * x.2.1)) + (w64 (x.1.2 * x.2.2))))
noncomputable def dot_pre (_ : (I2 × I2)) : Prop := True
noncomputable def dot_t (x : (I2 × I2)) : Tr Int false :=
 (.ret (w64 ((w64 (x.1.1 * x.2.1)) + (w64 (x.1.2 * x.2.2)))))
noncomputable abbrev dot_S : FnS := ⟨(.pair (.agg yy2) (.agg yy2)), (.one yi), dot_pre, dot⟩
theorem dot_ok : SpecOk Try.prog 35 (fnSpec dot_S) := SpecOk.tr dot_S dot_t (fn := Try.f35) tt_ok sp_compare_ok mixed (by kernel_rfl) (ItsOk.nil _ _) (fun x => LpsOk.nil) (fun x => (by kernel_rfl)) fun x Q => (by kernel_rfl)
def sp_dot : List (Nat × Ev.Spec) := (35, fnSpec dot_S) :: sp_compare
theorem sp_dot_ok : SpecsOk Try.prog sp_dot := SpecsOk.add (fn := Try.f35) (by kernel_rfl) dot_ok sp_compare_ok
noncomputable def near_l0 (x : (List Int)) : LoopD := ⟨[], ⟨pvs 18 0 [(5, .v (.one (.full 0))), (6, .v (.one (.i .i64))), (7, .v (.one (.i .i64)))], [.row yi 0], 0, none, [], [0, 2], [1], [.i], [.i (((List.length x) : Nat) : Int), .l yi x]⟩, [⟨.ret, .ret, ⟨pvs 18 0 [(2, .v (.one (.b)))], [], 0, none, [], [0], [], [], [.b false]⟩⟩, ⟨(.exit 0), .normal, ⟨pvs 18 0 [], [], 0, none, [], [], [], [], []⟩⟩]⟩
noncomputable def near_l0_step (x : (List Int)) (s : Int) : Int ⊕ (Unit ⊕ Unit) :=
 (if (s < (((List.length x) : Nat) : Int)) then
 (if ((List.getD x (Int.toNat s) (0 : Int)) < (-1048576 : Int)) then
 (Sum.inr (Sum.inl ())) else
 (if ((List.getD x (Int.toNat s) (0 : Int)) > (1048576 : Int)) then
 (Sum.inr (Sum.inl ())) else
 (Sum.inl (w64 (s + (1 : Int)))))) else
 (Sum.inr (Sum.inr (()))))
noncomputable def near_l0_pre (x : (List Int)) (s : Int) : Prop :=
 ((s < (((List.length x) : Nat) : Int)) →
 ((((0 : Int) ≤ s) ∧ (s < (((List.length x) : Nat) : Int))) ∧
 (((Int.toNat s) < (List.length x)) ∧
 ((Int.toNat s) < (List.length x)))))
noncomputable def near_l0_t (x : (List Int)) (s : Int) : Tr (Int ⊕ (Unit ⊕ Unit)) true :=
 (.i10 (s < (((List.length x) : Nat) : Int))
 (.oR s (((List.length x) : Nat) : Int)
 (.od ((Int.toNat s) < (List.length x))
 (.od ((Int.toNat s) < (List.length x))
 (.i00 ((List.getD x (Int.toNat s) (0 : Int)) < (-1048576 : Int))
 (.ret (.inr (Sum.inl ())))
 (.i00 ((List.getD x (Int.toNat s) (0 : Int)) > (1048576 : Int))
 (.ret (.inr (Sum.inl ())))
 (.ret (.inl (w64 (s + (1 : Int))))))))))
 (.ret (.inr (Sum.inr (())))))
noncomputable def near (x : (List Int)) : Bool :=
 (letV (run (near_l0_step x) (0 : Int)) fun r =>
 (Sum.elim (fun a =>
 false) (fun b =>
 true) r))
noncomputable def near_pre (x : (List Int)) : Prop :=
 (Term (near_l0_step x) (near_l0_pre x) (0 : Int))
noncomputable def near_t (x : (List Int)) : Tr Bool true :=
 (LoopD.lp (near_l0 x) (near_l0_t x) (0 : Int) fun r =>
 (.s00 r (fun a =>
 (.ret false)) (fun b =>
 (.ret true))))
noncomputable abbrev near_S : FnS := ⟨(.one (Ty.sl yi)), (.one Ty.bool), near_pre, near⟩
theorem near_ok : SpecOk Try.prog 77 (fnSpec near_S) := SpecOk.tr near_S near_t (fn := Try.f77) tt_ok sp_dot_ok mixed (by kernel_rfl) (ItsOk.nil _ _) (fun x => (LpsOk.tr tt_ok (SpecsOk.ctxI sp_dot_ok (ItsOk.nil _ _)) mixed 0 (near_l0 x) (near_l0_t x) LpsOk.nil (by kernel_rfl) fun g s Q => (by kernel_rfl))) (fun x => (by kernel_rfl)) fun x Q => (by kernel_rfl)
def sp_near : List (Nat × Ev.Spec) := (77, fnSpec near_S) :: sp_dot
theorem sp_near_ok : SpecsOk Try.prog sp_near := SpecsOk.add (fn := Try.f77) (by kernel_rfl) near_ok sp_dot_ok
noncomputable def within_l0 (x : (Int × (List Int))) : LoopD := ⟨[], ⟨pvs 23 0 [(0, .v (.one (.i .i64))), (7, .v (.one (.full 0))), (8, .v (.one (.i .i64))), (9, .v (.one (.i .i64)))], [.row yi 0], 0, none, [], [0, 1, 3], [2], [.i], [.i x.1, .i (((List.length x.2) : Nat) : Int), .l yi x.2]⟩, [⟨.ret, .ret, ⟨pvs 23 0 [(4, .v (.one (.b)))], [], 0, none, [], [0], [], [], [.b false]⟩⟩, ⟨(.exit 0), .normal, ⟨pvs 23 0 [], [], 0, none, [], [], [], [], []⟩⟩]⟩
noncomputable def within_l0_step (x : (Int × (List Int))) (s : Int) : Int ⊕ (Unit ⊕ Unit) :=
 (if (s < (((List.length x.2) : Nat) : Int)) then
 (if ((List.getD x.2 (Int.toNat s) (0 : Int)) < (w64 ((0 : Int) - x.1))) then
 (Sum.inr (Sum.inl ())) else
 (if ((List.getD x.2 (Int.toNat s) (0 : Int)) > x.1) then
 (Sum.inr (Sum.inl ())) else
 (Sum.inl (w64 (s + (1 : Int)))))) else
 (Sum.inr (Sum.inr (()))))
noncomputable def within_l0_pre (x : (Int × (List Int))) (s : Int) : Prop :=
 ((s < (((List.length x.2) : Nat) : Int)) →
 ((((0 : Int) ≤ s) ∧ (s < (((List.length x.2) : Nat) : Int))) ∧
 (((Int.toNat s) < (List.length x.2)) ∧
 ((Int.toNat s) < (List.length x.2)))))
noncomputable def within_l0_t (x : (Int × (List Int))) (s : Int) : Tr (Int ⊕ (Unit ⊕ Unit)) true :=
 (.i10 (s < (((List.length x.2) : Nat) : Int))
 (.oR s (((List.length x.2) : Nat) : Int)
 (.od ((Int.toNat s) < (List.length x.2))
 (.od ((Int.toNat s) < (List.length x.2))
 (.i00 ((List.getD x.2 (Int.toNat s) (0 : Int)) < (w64 ((0 : Int) - x.1)))
 (.ret (.inr (Sum.inl ())))
 (.i00 ((List.getD x.2 (Int.toNat s) (0 : Int)) > x.1)
 (.ret (.inr (Sum.inl ())))
 (.ret (.inl (w64 (s + (1 : Int))))))))))
 (.ret (.inr (Sum.inr (())))))
noncomputable def within (x : (Int × (List Int))) : Bool :=
 (letV (run (within_l0_step x) (0 : Int)) fun r =>
 (Sum.elim (fun a =>
 false) (fun b =>
 true) r))
noncomputable def within_pre (x : (Int × (List Int))) : Prop :=
 (Term (within_l0_step x) (within_l0_pre x) (0 : Int))
noncomputable def within_t (x : (Int × (List Int))) : Tr Bool true :=
 (LoopD.lp (within_l0 x) (within_l0_t x) (0 : Int) fun r =>
 (.s00 r (fun a =>
 (.ret false)) (fun b =>
 (.ret true))))
noncomputable abbrev within_S : FnS := ⟨(.pair (.one yi) (.one (Ty.sl yi))), (.one Ty.bool), within_pre, within⟩
theorem within_ok : SpecOk Try.prog 29 (fnSpec within_S) := SpecOk.tr within_S within_t (fn := Try.f29) tt_ok sp_near_ok mixed (by kernel_rfl) (ItsOk.nil _ _) (fun x => (LpsOk.tr tt_ok (SpecsOk.ctxI sp_near_ok (ItsOk.nil _ _)) mixed 0 (within_l0 x) (within_l0_t x) LpsOk.nil (by kernel_rfl) fun g s Q => (by kernel_rfl))) (fun x => (by kernel_rfl)) fun x Q => (by kernel_rfl)
def sp_within : List (Nat × Ev.Spec) := (29, fnSpec within_S) :: sp_near
theorem sp_within_ok : SpecsOk Try.prog sp_within := SpecsOk.add (fn := Try.f29) (by kernel_rfl) within_ok sp_near_ok
noncomputable def is2_l0 (x : (List I2)) : LoopD := ⟨[], ⟨pvs 19 0 [(5, .v (.one (.full 0))), (6, .v (.one (.i .i64))), (7, .v (.one (.i .i64)))], [.row yy2 0], 0, none, [], [0, 2], [1], [.i], [.i (((List.length x) : Nat) : Int), .l yy2 x]⟩, [⟨.ret, .ret, ⟨pvs 19 0 [(2, .v (.one (.b)))], [], 0, none, [], [0], [], [], [.b false]⟩⟩, ⟨(.exit 0), .normal, ⟨pvs 19 0 [], [], 0, none, [], [], [], [], []⟩⟩]⟩
noncomputable def is2_l0_step (x : (List I2)) (s : Int) : Int ⊕ (Unit ⊕ Unit) :=
 (if (s < (((List.length x) : Nat) : Int)) then
 (letV (near [(List.getD x (Int.toNat s) ((0 : Int), (0 : Int))).1, (List.getD x (Int.toNat s) ((0 : Int), (0 : Int))).2]) fun y =>
 (if ((!y) = true) then
 (Sum.inr (Sum.inl ())) else
 (Sum.inl (w64 (s + (1 : Int)))))) else
 (Sum.inr (Sum.inr (()))))
noncomputable def is2_l0_pre (x : (List I2)) (s : Int) : Prop :=
 ((s < (((List.length x) : Nat) : Int)) →
 ((((0 : Int) ≤ s) ∧ (s < (((List.length x) : Nat) : Int))) ∧
 (((Int.toNat s) < (List.length x)) ∧
 (((Int.toNat s) < (List.length x)) ∧
 (near_pre [(List.getD x (Int.toNat s) ((0 : Int), (0 : Int))).1, (List.getD x (Int.toNat s) ((0 : Int), (0 : Int))).2])))))
noncomputable def is2_l0_t (x : (List I2)) (s : Int) : Tr (Int ⊕ (Unit ⊕ Unit)) true :=
 (.i10 (s < (((List.length x) : Nat) : Int))
 (.oR s (((List.length x) : Nat) : Int)
 (.od ((Int.toNat s) < (List.length x))
 (.od ((Int.toNat s) < (List.length x))
 (.fn near_S [(List.getD x (Int.toNat s) zz2).1, (List.getD x (Int.toNat s) zz2).2] fun y =>
 (.b00 (!y)
 (.ret (.inr (Sum.inl ())))
 (.ret (.inl (w64 (s + (1 : Int))))))))))
 (.ret (.inr (Sum.inr (())))))
noncomputable def is2 (x : (List I2)) : Bool :=
 (letV (run (is2_l0_step x) (0 : Int)) fun r =>
 (Sum.elim (fun a =>
 false) (fun b =>
 true) r))
noncomputable def is2_pre (x : (List I2)) : Prop :=
 (Term (is2_l0_step x) (is2_l0_pre x) (0 : Int))
noncomputable def is2_t (x : (List I2)) : Tr Bool true :=
 (LoopD.lp (is2_l0 x) (is2_l0_t x) (0 : Int) fun r =>
 (.s00 r (fun a =>
 (.ret false)) (fun b =>
 (.ret true))))
noncomputable abbrev is2_S : FnS := ⟨(.one (Ty.sl yy2)), (.one Ty.bool), is2_pre, is2⟩
theorem is2_ok : SpecOk Try.prog 53 (fnSpec is2_S) := SpecOk.tr is2_S is2_t (fn := Try.f53) tt_ok sp_within_ok mixed (by kernel_rfl) (ItsOk.nil _ _) (fun x => (LpsOk.tr tt_ok (SpecsOk.ctxI sp_within_ok (ItsOk.nil _ _)) mixed 0 (is2_l0 x) (is2_l0_t x) LpsOk.nil (by kernel_rfl) fun g s Q => (by kernel_rfl))) (fun x => (by kernel_rfl)) fun x Q => (by kernel_rfl)
def sp_is2 : List (Nat × Ev.Spec) := (53, fnSpec is2_S) :: sp_within
theorem sp_is2_ok : SpecsOk Try.prog sp_is2 := SpecsOk.add (fn := Try.f53) (by kernel_rfl) is2_ok sp_within_ok
noncomputable def small2_l0 (x : (List I2)) : LoopD := ⟨[], ⟨pvs 19 0 [(5, .v (.one (.full 0))), (6, .v (.one (.i .i64))), (7, .v (.one (.i .i64)))], [.row yy2 0], 0, none, [], [0, 2], [1], [.i], [.i (((List.length x) : Nat) : Int), .l yy2 x]⟩, [⟨.ret, .ret, ⟨pvs 19 0 [(2, .v (.one (.b)))], [], 0, none, [], [0], [], [], [.b false]⟩⟩, ⟨(.exit 0), .normal, ⟨pvs 19 0 [], [], 0, none, [], [], [], [], []⟩⟩]⟩
noncomputable def small2_l0_step (x : (List I2)) (s : Int) : Int ⊕ (Unit ⊕ Unit) :=
 (if (s < (((List.length x) : Nat) : Int)) then
 (letV (within ((4096 : Int), [(List.getD x (Int.toNat s) ((0 : Int), (0 : Int))).1, (List.getD x (Int.toNat s) ((0 : Int), (0 : Int))).2])) fun y =>
 (if ((!y) = true) then
 (Sum.inr (Sum.inl ())) else
 (Sum.inl (w64 (s + (1 : Int)))))) else
 (Sum.inr (Sum.inr (()))))
noncomputable def small2_l0_pre (x : (List I2)) (s : Int) : Prop :=
 ((s < (((List.length x) : Nat) : Int)) →
 ((((0 : Int) ≤ s) ∧ (s < (((List.length x) : Nat) : Int))) ∧
 (((Int.toNat s) < (List.length x)) ∧
 (((Int.toNat s) < (List.length x)) ∧
 (within_pre ((4096 : Int), [(List.getD x (Int.toNat s) ((0 : Int), (0 : Int))).1, (List.getD x (Int.toNat s) ((0 : Int), (0 : Int))).2]))))))
noncomputable def small2_l0_t (x : (List I2)) (s : Int) : Tr (Int ⊕ (Unit ⊕ Unit)) true :=
 (.i10 (s < (((List.length x) : Nat) : Int))
 (.oR s (((List.length x) : Nat) : Int)
 (.od ((Int.toNat s) < (List.length x))
 (.od ((Int.toNat s) < (List.length x))
 (.fn within_S ((4096 : Int), [(List.getD x (Int.toNat s) zz2).1, (List.getD x (Int.toNat s) zz2).2]) fun y =>
 (.b00 (!y)
 (.ret (.inr (Sum.inl ())))
 (.ret (.inl (w64 (s + (1 : Int))))))))))
 (.ret (.inr (Sum.inr (())))))
noncomputable def small2 (x : (List I2)) : Bool :=
 (letV (run (small2_l0_step x) (0 : Int)) fun r =>
 (Sum.elim (fun a =>
 false) (fun b =>
 true) r))
noncomputable def small2_pre (x : (List I2)) : Prop :=
 (Term (small2_l0_step x) (small2_l0_pre x) (0 : Int))
noncomputable def small2_t (x : (List I2)) : Tr Bool true :=
 (LoopD.lp (small2_l0 x) (small2_l0_t x) (0 : Int) fun r =>
 (.s00 r (fun a =>
 (.ret false)) (fun b =>
 (.ret true))))
noncomputable abbrev small2_S : FnS := ⟨(.one (Ty.sl yy2)), (.one Ty.bool), small2_pre, small2⟩
theorem small2_ok : SpecOk Try.prog 13 (fnSpec small2_S) := SpecOk.tr small2_S small2_t (fn := Try.f13) tt_ok sp_is2_ok mixed (by kernel_rfl) (ItsOk.nil _ _) (fun x => (LpsOk.tr tt_ok (SpecsOk.ctxI sp_is2_ok (ItsOk.nil _ _)) mixed 0 (small2_l0 x) (small2_l0_t x) LpsOk.nil (by kernel_rfl) fun g s Q => (by kernel_rfl))) (fun x => (by kernel_rfl)) fun x Q => (by kernel_rfl)
def sp_small2 : List (Nat × Ev.Spec) := (13, fnSpec small2_S) :: sp_is2
theorem sp_small2_ok : SpecsOk Try.prog sp_small2 := SpecsOk.add (fn := Try.f13) (by kernel_rfl) small2_ok sp_is2_ok
noncomputable def small3_l0 (x : (List I3)) : LoopD := ⟨[], ⟨pvs 21 0 [(5, .v (.one (.full 0))), (6, .v (.one (.i .i64))), (7, .v (.one (.i .i64)))], [.row yy3 0], 0, none, [], [0, 2], [1], [.i], [.i (((List.length x) : Nat) : Int), .l yy3 x]⟩, [⟨.ret, .ret, ⟨pvs 21 0 [(2, .v (.one (.b)))], [], 0, none, [], [0], [], [], [.b false]⟩⟩, ⟨(.exit 0), .normal, ⟨pvs 21 0 [], [], 0, none, [], [], [], [], []⟩⟩]⟩
noncomputable def small3_l0_step (x : (List I3)) (s : Int) : Int ⊕ (Unit ⊕ Unit) :=
 (if (s < (((List.length x) : Nat) : Int)) then
 (letV (within ((16384 : Int), [(List.getD x (Int.toNat s) ((0 : Int), ((0 : Int), (0 : Int)))).1, (List.getD x (Int.toNat s) ((0 : Int), ((0 : Int), (0 : Int)))).2.1, (List.getD x (Int.toNat s) ((0 : Int), ((0 : Int), (0 : Int)))).2.2])) fun y =>
 (if ((!y) = true) then
 (Sum.inr (Sum.inl ())) else
 (Sum.inl (w64 (s + (1 : Int)))))) else
 (Sum.inr (Sum.inr (()))))
noncomputable def small3_l0_pre (x : (List I3)) (s : Int) : Prop :=
 ((s < (((List.length x) : Nat) : Int)) →
 ((((0 : Int) ≤ s) ∧ (s < (((List.length x) : Nat) : Int))) ∧
 (((Int.toNat s) < (List.length x)) ∧
 (((Int.toNat s) < (List.length x)) ∧
 (within_pre ((16384 : Int), [(List.getD x (Int.toNat s) ((0 : Int), ((0 : Int), (0 : Int)))).1, (List.getD x (Int.toNat s) ((0 : Int), ((0 : Int), (0 : Int)))).2.1, (List.getD x (Int.toNat s) ((0 : Int), ((0 : Int), (0 : Int)))).2.2]))))))
noncomputable def small3_l0_t (x : (List I3)) (s : Int) : Tr (Int ⊕ (Unit ⊕ Unit)) true :=
 (.i10 (s < (((List.length x) : Nat) : Int))
 (.oR s (((List.length x) : Nat) : Int)
 (.od ((Int.toNat s) < (List.length x))
 (.od ((Int.toNat s) < (List.length x))
 (.fn within_S ((16384 : Int), [(List.getD x (Int.toNat s) zz3).1, (List.getD x (Int.toNat s) zz3).2.1, (List.getD x (Int.toNat s) zz3).2.2]) fun y =>
 (.b00 (!y)
 (.ret (.inr (Sum.inl ())))
 (.ret (.inl (w64 (s + (1 : Int))))))))))
 (.ret (.inr (Sum.inr (())))))
noncomputable def small3 (x : (List I3)) : Bool :=
 (letV (run (small3_l0_step x) (0 : Int)) fun r =>
 (Sum.elim (fun a =>
 false) (fun b =>
 true) r))
noncomputable def small3_pre (x : (List I3)) : Prop :=
 (Term (small3_l0_step x) (small3_l0_pre x) (0 : Int))
noncomputable def small3_t (x : (List I3)) : Tr Bool true :=
 (LoopD.lp (small3_l0 x) (small3_l0_t x) (0 : Int) fun r =>
 (.s00 r (fun a =>
 (.ret false)) (fun b =>
 (.ret true))))
noncomputable abbrev small3_S : FnS := ⟨(.one (Ty.sl yy3)), (.one Ty.bool), small3_pre, small3⟩
theorem small3_ok : SpecOk Try.prog 19 (fnSpec small3_S) := SpecOk.tr small3_S small3_t (fn := Try.f19) tt_ok sp_small2_ok mixed (by kernel_rfl) (ItsOk.nil _ _) (fun x => (LpsOk.tr tt_ok (SpecsOk.ctxI sp_small2_ok (ItsOk.nil _ _)) mixed 0 (small3_l0 x) (small3_l0_t x) LpsOk.nil (by kernel_rfl) fun g s Q => (by kernel_rfl))) (fun x => (by kernel_rfl)) fun x Q => (by kernel_rfl)
def sp_small3 : List (Nat × Ev.Spec) := (19, fnSpec small3_S) :: sp_small2
theorem sp_small3_ok : SpecsOk Try.prog sp_small3 := SpecsOk.add (fn := Try.f19) (by kernel_rfl) small3_ok sp_small2_ok
noncomputable def sub2 (x : (I2 × I2)) : I2 :=
 (letV (is2 [x.1, x.2]) fun y =>
 (if ((!y) = true) then
 ((0 : Int), (0 : Int)) else
 ((w64 (x.1.1 - x.2.1)), (w64 (x.1.2 - x.2.2)))))
noncomputable def sub2_pre (x : (I2 × I2)) : Prop :=
 (is2_pre [x.1, x.2])
noncomputable def sub2_t (x : (I2 × I2)) : Tr I2 true :=
 (.fn is2_S [x.1, x.2] fun y =>
 (.b00 (!y)
 (.ret zz2)
 (.ret ((w64 (x.1.1 - x.2.1)), (w64 (x.1.2 - x.2.2))))))
noncomputable abbrev sub2_S : FnS := ⟨(.pair (.agg yy2) (.agg yy2)), (.agg yy2), sub2_pre, sub2⟩
theorem sub2_ok : SpecOk Try.prog 34 (fnSpec sub2_S) := SpecOk.tr sub2_S sub2_t (fn := Try.f34) tt_ok sp_small3_ok mixed (by kernel_rfl) (ItsOk.nil _ _) (fun x => LpsOk.nil) (fun x => (by kernel_rfl)) fun x Q => (by kernel_rfl)
def sp_sub2 : List (Nat × Ev.Spec) := (34, fnSpec sub2_S) :: sp_small3
theorem sp_sub2_ok : SpecsOk Try.prog sp_sub2 := SpecsOk.add (fn := Try.f34) (by kernel_rfl) sub2_ok sp_small3_ok
noncomputable def cross2 (x : (I2 × I2)) : I2 :=
 (letV (is2 [x.1, x.2]) fun y =>
 (if ((!y) = true) then
 ((0 : Int), (5 : Int)) else
 ((w64 ((w64 (x.1.1 * x.2.2)) - (w64 (x.1.2 * x.2.1)))), (0 : Int))))
noncomputable def cross2_pre (x : (I2 × I2)) : Prop :=
 (is2_pre [x.1, x.2])
noncomputable def cross2_t (x : (I2 × I2)) : Tr I2 true :=
 (.fn is2_S [x.1, x.2] fun y =>
 (.b00 (!y)
 (.ret ((0 : Int), (5 : Int)))
 (.ret ((w64 ((w64 (x.1.1 * x.2.2)) - (w64 (x.1.2 * x.2.1)))), (0 : Int)))))
noncomputable abbrev cross2_S : FnS := ⟨(.pair (.agg yy2) (.agg yy2)), (.pair (.one yi) (.one yi)), cross2_pre, cross2⟩
theorem cross2_ok : SpecOk Try.prog 75 (fnSpec cross2_S) := SpecOk.tr cross2_S cross2_t (fn := Try.f75) tt_ok sp_sub2_ok mixed (by kernel_rfl) (ItsOk.nil _ _) (fun x => LpsOk.nil) (fun x => (by kernel_rfl)) fun x Q => (by kernel_rfl)
def sp_cross2 : List (Nat × Ev.Spec) := (75, fnSpec cross2_S) :: sp_sub2
theorem sp_cross2_ok : SpecsOk Try.prog sp_cross2 := SpecsOk.add (fn := Try.f75) (by kernel_rfl) cross2_ok sp_sub2_ok
noncomputable def halves (x : Int) : I2 :=
 ((w64 (Int.tdiv x (1000000000 : Int))), (Int.tmod x (1000000000 : Int)))
noncomputable def halves_pre (_ : Int) : Prop := True
noncomputable def halves_t (x : Int) : Tr I2 false :=
 (.ret ((w64 (Int.tdiv x (1000000000 : Int))), (Int.tmod x (1000000000 : Int))))
noncomputable abbrev halves_S : FnS := ⟨(.one yi), (.agg yy2), halves_pre, halves⟩
theorem halves_ok : SpecOk Try.prog 78 (fnSpec halves_S) := SpecOk.tr halves_S halves_t (fn := Try.f78) tt_ok sp_cross2_ok mixed (by kernel_rfl) (ItsOk.nil _ _) (fun x => LpsOk.nil) (fun x => (by kernel_rfl)) fun x Q => (by kernel_rfl)
def sp_halves : List (Nat × Ev.Spec) := (78, fnSpec halves_S) :: sp_cross2
theorem sp_halves_ok : SpecsOk Try.prog sp_halves := SpecsOk.add (fn := Try.f78) (by kernel_rfl) halves_ok sp_cross2_ok
noncomputable def wis (x : I2) : Bool :=
 (if (x.2 ≥ (0 : Int)) then
 (if (x.2 < (1000000000000000000 : Int)) then
 (if (x.1 ≥ (-4000000000000000000 : Int)) then
 (decide (x.1 ≤ (4000000000000000000 : Int))) else
 false) else
 false) else
 false)
noncomputable def wis_pre (_ : I2) : Prop := True
noncomputable def wis_t (x : I2) : Tr Bool false :=
 (.i00 (x.2 ≥ (0 : Int))
 (.i00 (x.2 < (1000000000000000000 : Int))
 (.i00 (x.1 ≥ (-4000000000000000000 : Int))
 (.ret (decide (x.1 ≤ (4000000000000000000 : Int))))
 (.ret false))
 (.ret false))
 (.ret false))
noncomputable abbrev wis_S : FnS := ⟨(.agg yy2), (.one Ty.bool), wis_pre, wis⟩
theorem wis_ok : SpecOk Try.prog 92 (fnSpec wis_S) := SpecOk.tr wis_S wis_t (fn := Try.f92) tt_ok sp_halves_ok mixed (by kernel_rfl) (ItsOk.nil _ _) (fun x => LpsOk.nil) (fun x => (by kernel_rfl)) fun x Q => (by kernel_rfl)
def sp_wis : List (Nat × Ev.Spec) := (92, fnSpec wis_S) :: sp_halves
theorem sp_wis_ok : SpecsOk Try.prog sp_wis := SpecsOk.add (fn := Try.f92) (by kernel_rfl) wis_ok sp_halves_ok
noncomputable def wright (x : I2) : (I2 × Int) :=
 (letV (wis x) fun y =>
 (if ((!y) = true) then
 (((0 : Int), (0 : Int)), (4 : Int)) else
 (x, (0 : Int))))
noncomputable def wright_pre (_ : I2) : Prop := True
noncomputable def wright_t (x : I2) : Tr (I2 × Int) false :=
 (.fn0 wis_S x trivial fun y =>
 (.b00 (!y)
 (.ret (zz2, (4 : Int)))
 (.ret (x, (0 : Int)))))
noncomputable abbrev wright_S : FnS := ⟨(.agg yy2), (.pair (.agg yy2) (.one yi)), wright_pre, wright⟩
theorem wright_ok : SpecOk Try.prog 93 (fnSpec wright_S) := SpecOk.tr wright_S wright_t (fn := Try.f93) tt_ok sp_wis_ok mixed (by kernel_rfl) (ItsOk.nil _ _) (fun x => LpsOk.nil) (fun x => (by kernel_rfl)) fun x Q => (by kernel_rfl)
def sp_wright : List (Nat × Ev.Spec) := (93, fnSpec wright_S) :: sp_wis
theorem sp_wright_ok : SpecsOk Try.prog sp_wright := SpecsOk.add (fn := Try.f93) (by kernel_rfl) wright_ok sp_wis_ok
noncomputable def wneg (x : I2) : (I2 × Int) :=
 (letV (wis x) fun y =>
 (if ((!y) = true) then
 (((0 : Int), (0 : Int)), (1 : Int)) else
 (if ((x.2 == (0 : Int)) = true) then
 (((w64 ((0 : Int) - x.1)), (0 : Int)), (0 : Int)) else
 (letV (wright ((w64 ((w64 ((0 : Int) - x.1)) - (1 : Int))), (w64 ((1000000000000000000 : Int) - x.2)))) fun y_1 =>
 y_1))))
noncomputable def wneg_pre (_ : I2) : Prop := True
noncomputable def wneg_t (x : I2) : Tr (I2 × Int) false :=
 (.fn0 wis_S x trivial fun y =>
 (.b00 (!y)
 (.ret (zz2, (1 : Int)))
 (.b00 (x.2 == (0 : Int))
 (.ret (((w64 ((0 : Int) - x.1)), (0 : Int)), (0 : Int)))
 (.fn0 wright_S ((w64 ((w64 ((0 : Int) - x.1)) - (1 : Int))), (w64 ((1000000000000000000 : Int) - x.2))) trivial fun y_1 =>
 (.ret y_1)))))
noncomputable abbrev wneg_S : FnS := ⟨(.agg yy2), (.pair (.agg yy2) (.one yi)), wneg_pre, wneg⟩
theorem wneg_ok : SpecOk Try.prog 79 (fnSpec wneg_S) := SpecOk.tr wneg_S wneg_t (fn := Try.f79) tt_ok sp_wright_ok mixed (by kernel_rfl) (ItsOk.nil _ _) (fun x => LpsOk.nil) (fun x => (by kernel_rfl)) fun x Q => (by kernel_rfl)
def sp_wneg : List (Nat × Ev.Spec) := (79, fnSpec wneg_S) :: sp_wright
theorem sp_wneg_ok : SpecsOk Try.prog sp_wneg := SpecsOk.add (fn := Try.f79) (by kernel_rfl) wneg_ok sp_wright_ok
noncomputable def cor_l0 (x : (List Int)) : LoopD := ⟨[], ⟨pvs 18 0 [(3, .v (.one (.i .i64))), (6, .v (.one (.full 0))), (7, .v (.one (.i .i64))), (8, .v (.one (.i .i64)))], [.row yi 0], 0, none, [], [0, 1, 3], [2], [.i], [.i (0 : Int), .i (((List.length x) : Nat) : Int), .l yi x]⟩, [⟨.ret, .ret, ⟨pvs 18 0 [(2, .v (.one (.i .i64)))], [], 0, none, [], [], [0], [.i], []⟩⟩, ⟨(.exit 0), .normal, ⟨pvs 18 0 [(3, .v (.one (.i .i64)))], [], 0, none, [], [0], [], [], [.i (0 : Int)]⟩⟩]⟩
noncomputable def cor_l0_step (x : (List Int)) (s : Int) : Int ⊕ (Int ⊕ Unit) :=
 (if (s < (((List.length x) : Nat) : Int)) then
 (if (((List.getD x (Int.toNat s) (0 : Int)) != (0 : Int)) = true) then
 (Sum.inr (Sum.inl (List.getD x (Int.toNat s) (0 : Int)))) else
 (Sum.inl (w64 (s + (1 : Int))))) else
 (Sum.inr (Sum.inr (()))))
noncomputable def cor_l0_pre (x : (List Int)) (s : Int) : Prop :=
 ((s < (((List.length x) : Nat) : Int)) →
 ((((0 : Int) ≤ s) ∧ (s < (((List.length x) : Nat) : Int))) ∧
 (((Int.toNat s) < (List.length x)) ∧
 ((Int.toNat s) < (List.length x)))))
noncomputable def cor_l0_t (x : (List Int)) (s : Int) : Tr (Int ⊕ (Int ⊕ Unit)) true :=
 (.i10 (s < (((List.length x) : Nat) : Int))
 (.oR s (((List.length x) : Nat) : Int)
 (.od ((Int.toNat s) < (List.length x))
 (.od ((Int.toNat s) < (List.length x))
 (.b00 ((List.getD x (Int.toNat s) (0 : Int)) != (0 : Int))
 (.ret (.inr (Sum.inl (List.getD x (Int.toNat s) (0 : Int)))))
 (.ret (.inl (w64 (s + (1 : Int)))))))))
 (.ret (.inr (Sum.inr (())))))
noncomputable def cor (x : (List Int)) : Int :=
 (letV (run (cor_l0_step x) (0 : Int)) fun r =>
 (Sum.elim (fun a =>
 a) (fun b =>
 (0 : Int)) r))
noncomputable def cor_pre (x : (List Int)) : Prop :=
 (Term (cor_l0_step x) (cor_l0_pre x) (0 : Int))
noncomputable def cor_t (x : (List Int)) : Tr Int true :=
 (LoopD.lp (cor_l0 x) (cor_l0_t x) (0 : Int) fun r =>
 (.s00 r (fun a =>
 (.ret a)) (fun b =>
 (.ret (0 : Int)))))
noncomputable abbrev cor_S : FnS := ⟨(.one (Ty.sl yi)), (.one yi), cor_pre, cor⟩
theorem cor_ok : SpecOk Try.prog 57 (fnSpec cor_S) := SpecOk.tr cor_S cor_t (fn := Try.f57) tt_ok sp_wneg_ok mixed (by kernel_rfl) (ItsOk.nil _ _) (fun x => (LpsOk.tr tt_ok (SpecsOk.ctxI sp_wneg_ok (ItsOk.nil _ _)) mixed 0 (cor_l0 x) (cor_l0_t x) LpsOk.nil (by kernel_rfl) fun g s Q => (by kernel_rfl))) (fun x => (by kernel_rfl)) fun x Q => (by kernel_rfl)
def sp_cor : List (Nat × Ev.Spec) := (57, fnSpec cor_S) :: sp_wneg
theorem sp_cor_ok : SpecsOk Try.prog sp_cor := SpecsOk.add (fn := Try.f57) (by kernel_rfl) cor_ok sp_wneg_ok
noncomputable def wmul (x : I2) : (I2 × Int) :=
 (if ((maxI x.1 x.2) > (1000000000000000000 : Int)) then
 (((0 : Int), (0 : Int)), (2 : Int)) else
 (if ((minI x.1 x.2) < (-1000000000000000000 : Int)) then
 (((0 : Int), (0 : Int)), (2 : Int)) else
 (letV (halves (maxI x.1 (w64 ((0 : Int) - x.1)))) fun y =>
 (letV (halves (maxI x.2 (w64 ((0 : Int) - x.2)))) fun y_1 =>
 (if ((!((decide (x.1 < (0 : Int))) == (decide (x.2 < (0 : Int))))) = true) then
 (letV (wneg ((w64 ((w64 ((w64 (y.1 * y_1.1)) + (w64 (Int.tdiv (w64 ((w64 (y.1 * y_1.2)) + (w64 (y.2 * y_1.1)))) (1000000000 : Int))))) + (w64 (Int.tdiv (w64 ((w64 (y.2 * y_1.2)) + (w64 ((Int.tmod (w64 ((w64 (y.1 * y_1.2)) + (w64 (y.2 * y_1.1)))) (1000000000 : Int)) * (1000000000 : Int))))) (1000000000000000000 : Int))))), (Int.tmod (w64 ((w64 (y.2 * y_1.2)) + (w64 ((Int.tmod (w64 ((w64 (y.1 * y_1.2)) + (w64 (y.2 * y_1.1)))) (1000000000 : Int)) * (1000000000 : Int))))) (1000000000000000000 : Int)))) fun y_2 =>
 y_2) else
 (((w64 ((w64 ((w64 (y.1 * y_1.1)) + (w64 (Int.tdiv (w64 ((w64 (y.1 * y_1.2)) + (w64 (y.2 * y_1.1)))) (1000000000 : Int))))) + (w64 (Int.tdiv (w64 ((w64 (y.2 * y_1.2)) + (w64 ((Int.tmod (w64 ((w64 (y.1 * y_1.2)) + (w64 (y.2 * y_1.1)))) (1000000000 : Int)) * (1000000000 : Int))))) (1000000000000000000 : Int))))), (Int.tmod (w64 ((w64 (y.2 * y_1.2)) + (w64 ((Int.tmod (w64 ((w64 (y.1 * y_1.2)) + (w64 (y.2 * y_1.1)))) (1000000000 : Int)) * (1000000000 : Int))))) (1000000000000000000 : Int))), (0 : Int)))))))
noncomputable def wmul_pre (_ : I2) : Prop := True
noncomputable def wmul_t (x : I2) : Tr (I2 × Int) false :=
 (.i00 ((maxI x.1 x.2) > (1000000000000000000 : Int))
 (.ret (zz2, (2 : Int)))
 (.i00 ((minI x.1 x.2) < (-1000000000000000000 : Int))
 (.ret (zz2, (2 : Int)))
 (.fn0 halves_S (maxI x.1 (w64 ((0 : Int) - x.1))) trivial fun y =>
 (.fn0 halves_S (maxI x.2 (w64 ((0 : Int) - x.2))) trivial fun y_1 =>
 (.b00 (!((decide (x.1 < (0 : Int))) == (decide (x.2 < (0 : Int)))))
 (.fn0 wneg_S ((w64 ((w64 ((w64 (y.1 * y_1.1)) + (w64 (Int.tdiv (w64 ((w64 (y.1 * y_1.2)) + (w64 (y.2 * y_1.1)))) (1000000000 : Int))))) + (w64 (Int.tdiv (w64 ((w64 (y.2 * y_1.2)) + (w64 ((Int.tmod (w64 ((w64 (y.1 * y_1.2)) + (w64 (y.2 * y_1.1)))) (1000000000 : Int)) * (1000000000 : Int))))) (1000000000000000000 : Int))))), (Int.tmod (w64 ((w64 (y.2 * y_1.2)) + (w64 ((Int.tmod (w64 ((w64 (y.1 * y_1.2)) + (w64 (y.2 * y_1.1)))) (1000000000 : Int)) * (1000000000 : Int))))) (1000000000000000000 : Int))) trivial fun y_2 =>
 (.ret y_2))
 (.ret (((w64 ((w64 ((w64 (y.1 * y_1.1)) + (w64 (Int.tdiv (w64 ((w64 (y.1 * y_1.2)) + (w64 (y.2 * y_1.1)))) (1000000000 : Int))))) + (w64 (Int.tdiv (w64 ((w64 (y.2 * y_1.2)) + (w64 ((Int.tmod (w64 ((w64 (y.1 * y_1.2)) + (w64 (y.2 * y_1.1)))) (1000000000 : Int)) * (1000000000 : Int))))) (1000000000000000000 : Int))))), (Int.tmod (w64 ((w64 (y.2 * y_1.2)) + (w64 ((Int.tmod (w64 ((w64 (y.1 * y_1.2)) + (w64 (y.2 * y_1.1)))) (1000000000 : Int)) * (1000000000 : Int))))) (1000000000000000000 : Int))), (0 : Int))))))))
noncomputable abbrev wmul_S : FnS := ⟨(.pair (.one yi) (.one yi)), (.pair (.agg yy2) (.one yi)), wmul_pre, wmul⟩
theorem wmul_ok : SpecOk Try.prog 55 (fnSpec wmul_S) := SpecOk.tr wmul_S wmul_t (fn := Try.f55) tt_ok sp_cor_ok mixed (by kernel_rfl) (ItsOk.nil _ _) (fun x => LpsOk.nil) (fun x => (by kernel_rfl)) fun x Q => (by kernel_rfl)
def sp_wmul : List (Nat × Ev.Spec) := (55, fnSpec wmul_S) :: sp_cor
theorem sp_wmul_ok : SpecsOk Try.prog sp_wmul := SpecsOk.add (fn := Try.f55) (by kernel_rfl) wmul_ok sp_cor_ok
noncomputable def wcmp (x : (I2 × I2)) : Int :=
 (if (((x.1.1 == x.2.1) && ((x.1.2 == x.2.2) && true)) = true) then
 (0 : Int) else
 (letV (compare (x.1.1, x.2.1)) fun y =>
 (letV (compare (x.1.2, x.2.2)) fun y_1 =>
 (letV (cor [y, y_1]) fun y_2 =>
 y_2))))
noncomputable def wcmp_pre (x : (I2 × I2)) : Prop :=
 (¬ (((x.1.1 == x.2.1) && ((x.1.2 == x.2.2) && true)) = true) →
 (letP (compare (x.1.1, x.2.1)) fun y =>
 (letP (compare (x.1.2, x.2.2)) fun y_1 =>
 (cor_pre [y, y_1]))))
noncomputable def wcmp_t (x : (I2 × I2)) : Tr Int true :=
 (.b01 ((x.1.1 == x.2.1) && ((x.1.2 == x.2.2) && true))
 (.ret (0 : Int))
 (.fn0 compare_S (x.1.1, x.2.1) trivial fun y =>
 (.fn0 compare_S (x.1.2, x.2.2) trivial fun y_1 =>
 (.fn cor_S [y, y_1] fun y_2 =>
 (.ret y_2)))))
noncomputable abbrev wcmp_S : FnS := ⟨(.pair (.agg yy2) (.agg yy2)), (.one yi), wcmp_pre, wcmp⟩
theorem wcmp_ok : SpecOk Try.prog 56 (fnSpec wcmp_S) := SpecOk.tr wcmp_S wcmp_t (fn := Try.f56) tt_ok sp_wmul_ok mixed (by kernel_rfl) (ItsOk.nil _ _) (fun x => LpsOk.nil) (fun x => (by kernel_rfl)) fun x Q => (by kernel_rfl)
def sp_wcmp : List (Nat × Ev.Spec) := (56, fnSpec wcmp_S) :: sp_wmul
theorem sp_wcmp_ok : SpecsOk Try.prog sp_wcmp := SpecsOk.add (fn := Try.f56) (by kernel_rfl) wcmp_ok sp_wmul_ok
noncomputable def over (x : I2) : Int :=
 (if ((x.2 == (0 : Int)) = true) then
 (3 : Int) else
 (if ((x.1 == (-9223372036854775808 : Int)) = true) then
 (if ((x.2 == (-1 : Int)) = true) then
 (4 : Int) else
 (0 : Int)) else
 (0 : Int)))
noncomputable def over_pre (_ : I2) : Prop := True
noncomputable def over_t (x : I2) : Tr Int false :=
 (.b00 (x.2 == (0 : Int))
 (.ret (3 : Int))
 (.b00 (x.1 == (-9223372036854775808 : Int))
 (.b00 (x.2 == (-1 : Int))
 (.ret (4 : Int))
 (.ret (0 : Int)))
 (.ret (0 : Int))))
noncomputable abbrev over_S : FnS := ⟨(.pair (.one yi) (.one yi)), (.one yi), over_pre, over⟩
theorem over_ok : SpecOk Try.prog 58 (fnSpec over_S) := SpecOk.tr over_S over_t (fn := Try.f58) tt_ok sp_wcmp_ok mixed (by kernel_rfl) (ItsOk.nil _ _) (fun x => LpsOk.nil) (fun x => (by kernel_rfl)) fun x Q => (by kernel_rfl)
def sp_over : List (Nat × Ev.Spec) := (58, fnSpec over_S) :: sp_wcmp
theorem sp_over_ok : SpecsOk Try.prog sp_over := SpecsOk.add (fn := Try.f58) (by kernel_rfl) over_ok sp_wcmp_ok
noncomputable def wfloor (x : I2) : I3 :=
 (letV (over x) fun y =>
 (if ((y != (0 : Int)) = true) then
 ((0 : Int), ((0 : Int), y)) else
 (if (((Int.tmod x.1 x.2) != (0 : Int)) = true) then
 (if ((w64 (((BitVec.toNat ((BitVec.ofInt 64 (Int.tmod x.1 x.2)) ^^^ (BitVec.ofInt 64 x.2))) : Nat) : Int)) < (0 : Int)) then
 ((w64 ((w64 (Int.tdiv x.1 x.2)) - (1 : Int))), ((w64 ((Int.tmod x.1 x.2) + x.2)), (0 : Int))) else
 ((w64 (Int.tdiv x.1 x.2)), ((Int.tmod x.1 x.2), (0 : Int)))) else
 ((w64 (Int.tdiv x.1 x.2)), ((Int.tmod x.1 x.2), (0 : Int))))))
noncomputable def wfloor_pre (x : I2) : Prop :=
 (letP (over x) fun y =>
 (¬ ((y != (0 : Int)) = true) →
 ((x.2 ≠ (0 : Int)) ∧
 (x.2 ≠ (0 : Int)))))
noncomputable def wfloor_t (x : I2) : Tr I3 true :=
 (.fn0 over_S x trivial fun y =>
 (.b01 (y != (0 : Int))
 (.ret ((0 : Int), ((0 : Int), y)))
 (.od (x.2 ≠ (0 : Int))
 (.od (x.2 ≠ (0 : Int))
 (.b00 ((Int.tmod x.1 x.2) != (0 : Int))
 (.i00 ((w64 (((BitVec.toNat ((BitVec.ofInt 64 (Int.tmod x.1 x.2)) ^^^ (BitVec.ofInt 64 x.2))) : Nat) : Int)) < (0 : Int))
 (.ret ((w64 ((w64 (Int.tdiv x.1 x.2)) - (1 : Int))), ((w64 ((Int.tmod x.1 x.2) + x.2)), (0 : Int))))
 (.ret ((w64 (Int.tdiv x.1 x.2)), ((Int.tmod x.1 x.2), (0 : Int)))))
 (.ret ((w64 (Int.tdiv x.1 x.2)), ((Int.tmod x.1 x.2), (0 : Int)))))))))
noncomputable abbrev wfloor_S : FnS := ⟨(.pair (.one yi) (.one yi)), (.pair (.one yi) (.pair (.one yi) (.one yi))), wfloor_pre, wfloor⟩
theorem wfloor_ok : SpecOk Try.prog 38 (fnSpec wfloor_S) := SpecOk.tr wfloor_S wfloor_t (fn := Try.f38) tt_ok sp_over_ok mixed (by kernel_rfl) (ItsOk.nil _ _) (fun x => LpsOk.nil) (fun x => (by kernel_rfl)) fun x Q => (by kernel_rfl)
def sp_wfloor : List (Nat × Ev.Spec) := (38, fnSpec wfloor_S) :: sp_over
theorem sp_wfloor_ok : SpecsOk Try.prog sp_wfloor := SpecsOk.add (fn := Try.f38) (by kernel_rfl) wfloor_ok sp_over_ok
noncomputable def floor (x : I2) : Int :=
 (letV (wfloor x) fun y =>
 y.1)
noncomputable def floor_pre (x : I2) : Prop :=
 (wfloor_pre x)
noncomputable def floor_t (x : I2) : Tr Int true :=
 (.fn wfloor_S x fun y =>
 (.ret y.1))
noncomputable abbrev floor_S : FnS := ⟨(.pair (.one yi) (.one yi)), (.one yi), floor_pre, floor⟩
theorem floor_ok : SpecOk Try.prog 21 (fnSpec floor_S) := SpecOk.tr floor_S floor_t (fn := Try.f21) tt_ok sp_wfloor_ok mixed (by kernel_rfl) (ItsOk.nil _ _) (fun x => LpsOk.nil) (fun x => (by kernel_rfl)) fun x Q => (by kernel_rfl)
def sp_floor : List (Nat × Ev.Spec) := (21, fnSpec floor_S) :: sp_wfloor
theorem sp_floor_ok : SpecsOk Try.prog sp_floor := SpecsOk.add (fn := Try.f21) (by kernel_rfl) floor_ok sp_wfloor_ok
noncomputable def parea (x : I6) : I2 :=
 (letV (small2 [x.1, x.2.1, x.2.2]) fun y =>
 (if ((!y) = true) then
 ((0 : Int), (5 : Int)) else
 (letV (sub2 (x.2.1, x.1)) fun y_1 =>
 (letV (sub2 (x.2.2, x.1)) fun y_2 =>
 (letV (cross2 (y_1, y_2)) fun y_3 =>
 y_3)))))
noncomputable def parea_pre (x : I6) : Prop :=
 ((small2_pre [x.1, x.2.1, x.2.2]) ∧
 letP (small2 [x.1, x.2.1, x.2.2]) fun y =>
 (¬ ((!y) = true) →
 ((sub2_pre (x.2.1, x.1)) ∧
 letP (sub2 (x.2.1, x.1)) fun y_1 =>
 ((sub2_pre (x.2.2, x.1)) ∧
 letP (sub2 (x.2.2, x.1)) fun y_2 =>
 (cross2_pre (y_1, y_2))))))
noncomputable def parea_t (x : I6) : Tr I2 true :=
 (.fn small2_S [x.1, x.2.1, x.2.2] fun y =>
 (.b01 (!y)
 (.ret ((0 : Int), (5 : Int)))
 (.fn sub2_S (x.2.1, x.1) fun y_1 =>
 (.fn sub2_S (x.2.2, x.1) fun y_2 =>
 (.fn cross2_S (y_1, y_2) fun y_3 =>
 (.ret y_3))))))
noncomputable abbrev parea_S : FnS := ⟨(.agg yy6), (.pair (.one yi) (.one yi)), parea_pre, parea⟩
theorem parea_ok : SpecOk Try.prog 51 (fnSpec parea_S) := SpecOk.tr parea_S parea_t (fn := Try.f51) tt_ok sp_floor_ok mixed (by kernel_rfl) (ItsOk.nil _ _) (fun x => LpsOk.nil) (fun x => (by kernel_rfl)) fun x Q => (by kernel_rfl)
def sp_parea : List (Nat × Ev.Spec) := (51, fnSpec parea_S) :: sp_floor
theorem sp_parea_ok : SpecsOk Try.prog sp_parea := SpecsOk.add (fn := Try.f51) (by kernel_rfl) parea_ok sp_floor_ok
noncomputable def sarea (x : I6) : I2 :=
 (letV (parea x) fun y =>
 y)
noncomputable def sarea_pre (x : I6) : Prop :=
 (parea_pre x)
noncomputable def sarea_t (x : I6) : Tr I2 true :=
 (.fn parea_S x fun y =>
 (.ret y))
noncomputable abbrev sarea_S : FnS := ⟨(.pair (.agg yy2) (.pair (.agg yy2) (.agg yy2))), (.pair (.one yi) (.one yi)), sarea_pre, sarea⟩
theorem sarea_ok : SpecOk Try.prog 30 (fnSpec sarea_S) := SpecOk.tr sarea_S sarea_t (fn := Try.f30) tt_ok sp_parea_ok mixed (by kernel_rfl) (ItsOk.nil _ _) (fun x => LpsOk.nil) (fun x => (by kernel_rfl)) fun x Q => (by kernel_rfl)
def sp_sarea : List (Nat × Ev.Spec) := (30, fnSpec sarea_S) :: sp_parea
theorem sp_sarea_ok : SpecsOk Try.prog sp_sarea := SpecsOk.add (fn := Try.f30) (by kernel_rfl) sarea_ok sp_parea_ok
noncomputable def sside (x : I6) : I2 :=
 (letV (sarea x) fun y =>
 (letV (compare (y.1, (0 : Int))) fun y_1 =>
 (y_1, y.2)))
noncomputable def sside_pre (x : I6) : Prop :=
 (sarea_pre x)
noncomputable def sside_t (x : I6) : Tr I2 true :=
 (.fn sarea_S x fun y =>
 (.fn0 compare_S (y.1, (0 : Int)) trivial fun y_1 =>
 (.ret (y_1, y.2))))
noncomputable abbrev sside_S : FnS := ⟨(.pair (.agg yy2) (.pair (.agg yy2) (.agg yy2))), (.pair (.one yi) (.one yi)), sside_pre, sside⟩
theorem sside_ok : SpecOk Try.prog 32 (fnSpec sside_S) := SpecOk.tr sside_S sside_t (fn := Try.f32) tt_ok sp_sarea_ok mixed (by kernel_rfl) (ItsOk.nil _ _) (fun x => LpsOk.nil) (fun x => (by kernel_rfl)) fun x Q => (by kernel_rfl)
def sp_sside : List (Nat × Ev.Spec) := (32, fnSpec sside_S) :: sp_sarea
theorem sp_sside_ok : SpecsOk Try.prog sp_sside := SpecsOk.add (fn := Try.f32) (by kernel_rfl) sside_ok sp_sarea_ok
noncomputable def mright (x : I6) : Bool :=
 (letV (sarea x) fun y =>
 (if ((y.2 == (0 : Int)) = true) then
 (y.1 != (0 : Int)) else
 false))
noncomputable def mright_pre (x : I6) : Prop :=
 (sarea_pre x)
noncomputable def mright_t (x : I6) : Tr Bool true :=
 (.fn sarea_S x fun y =>
 (.b00 (y.2 == (0 : Int))
 (.ret (y.1 != (0 : Int)))
 (.ret false)))
noncomputable abbrev mright_S : FnS := ⟨(.agg yy6), (.one Ty.bool), mright_pre, mright⟩
theorem mright_ok : SpecOk Try.prog 14 (fnSpec mright_S) := SpecOk.tr mright_S mright_t (fn := Try.f14) tt_ok sp_sside_ok mixed (by kernel_rfl) (ItsOk.nil _ _) (fun x => LpsOk.nil) (fun x => (by kernel_rfl)) fun x Q => (by kernel_rfl)
def sp_mright : List (Nat × Ev.Spec) := (14, fnSpec mright_S) :: sp_sside
theorem sp_mright_ok : SpecsOk Try.prog sp_mright := SpecsOk.add (fn := Try.f14) (by kernel_rfl) mright_ok sp_sside_ok
end Go.Proofs.Ytfgdjlhilladhaa
