/- Models of functions, and that the code does what they say. -/
import Derived.Test.YtfgdjlhilladhaaGreatEvR
import Derived.Test.YtfgdjlhilladhaaGreatTt
namespace Go.Proofs.YtfgdjlhilladhaaGreat
open Go Go.Ev Go.Proofs
set_option linter.unusedVariables false
noncomputable def isnan (x : Int) : Bool :=
 (x != x)
noncomputable def isnan_pre (_ : Int) : Prop := True
noncomputable def isnan_t (x : Int) : Tr Bool false :=
 (.ret (x != x))
noncomputable abbrev isnan_S : FnS := ⟨(.one yi), (.one Ty.bool), isnan_pre, isnan⟩
theorem isnan_ok : SpecOk Tryz.prog 176 (fnSpec isnan_S) := SpecOk.tr isnan_S isnan_t (fn := Tryz.f176) tt_ok (SpecsOk.nil _) mixed (by kernel_rfl) (ItsOk.nil _ _) (fun x => LpsOk.nil) (fun x => (by kernel_rfl)) fun x Q => (by kernel_rfl)
def sp_isnan : List (Nat × Ev.Spec) := (176, fnSpec isnan_S) :: []
theorem sp_isnan_ok : SpecsOk Tryz.prog sp_isnan := SpecsOk.add (fn := Tryz.f176) (by kernel_rfl) isnan_ok (SpecsOk.nil _)
noncomputable def compare (x : I2) : Int :=
 (letV (isnan x.1) fun y =>
 (letV (isnan x.2) fun y_1 =>
 (if (y = true) then
 (if (y_1 = true) then
 (0 : Int) else
 (-1 : Int)) else
 (if (y_1 = true) then
 (1 : Int) else
 (if (x.1 < x.2) then
 (-1 : Int) else
 (if (x.1 > x.2) then
 (1 : Int) else
 (0 : Int)))))))
noncomputable def compare_pre (_ : I2) : Prop := True
noncomputable def compare_t (x : I2) : Tr Int false :=
 (.fn0 isnan_S x.1 trivial fun y =>
 (.fn0 isnan_S x.2 trivial fun y_1 =>
 (.b00 y
 (.b00 y_1
 (.ret (0 : Int))
 (.ret (-1 : Int)))
 (.b00 y_1
 (.ret (1 : Int))
 (.i00 (x.1 < x.2)
 (.ret (-1 : Int))
 (.i00 (x.1 > x.2)
 (.ret (1 : Int))
 (.ret (0 : Int))))))))
noncomputable abbrev compare_S : FnS := ⟨(.pair (.one yi) (.one yi)), (.one yi), compare_pre, compare⟩
theorem compare_ok : SpecOk Tryz.prog 148 (fnSpec compare_S) := SpecOk.tr compare_S compare_t (fn := Tryz.f148) tt_ok sp_isnan_ok mixed (by kernel_rfl) (ItsOk.nil _ _) (fun x => LpsOk.nil) (fun x => (by kernel_rfl)) fun x Q => (by kernel_rfl)
def sp_compare : List (Nat × Ev.Spec) := (148, fnSpec compare_S) :: sp_isnan
theorem sp_compare_ok : SpecsOk Tryz.prog sp_compare := SpecsOk.add (fn := Tryz.f148) (by kernel_rfl) compare_ok sp_isnan_ok
noncomputable def dot (x : (I2 × I2)) : Int :=
 (w64 ((w64 (x.1.1 * x.2.1)) + (w64 (x.1.2 * x.2.2))))
noncomputable def dot_pre (_ : (I2 × I2)) : Prop := True
noncomputable def dot_t (x : (I2 × I2)) : Tr Int false :=
 (.ret (w64 ((w64 (x.1.1 * x.2.1)) + (w64 (x.1.2 * x.2.2)))))
noncomputable abbrev dot_S : FnS := ⟨(.pair (.agg yy2) (.agg yy2)), (.one yi), dot_pre, dot⟩
theorem dot_ok : SpecOk Tryz.prog 100 (fnSpec dot_S) := SpecOk.tr dot_S dot_t (fn := Tryz.f100) tt_ok sp_compare_ok mixed (by kernel_rfl) (ItsOk.nil _ _) (fun x => LpsOk.nil) (fun x => (by kernel_rfl)) fun x Q => (by kernel_rfl)
def sp_dot : List (Nat × Ev.Spec) := (100, fnSpec dot_S) :: sp_compare
theorem sp_dot_ok : SpecsOk Tryz.prog sp_dot := SpecsOk.add (fn := Tryz.f100) (by kernel_rfl) dot_ok sp_compare_ok
noncomputable def near_l0 (x : (List Int)) : LoopD := ⟨[], ⟨pvs 18 0 [(5, .v (.one (.full 0))), (6, .v (.one (.i .i64))), (7, .v (.one (.i .i64)))], [.row yi 0], 0, none, [], [0, 2], [1], [.i], [.i (((List.length x) : Nat) : Int), .l yi x]⟩, [⟨.ret, .ret, ⟨pvs 18 0 [(2, .v (.one (.b)))], [], 0, none, [], [0], [], [], [.b false]⟩⟩, ⟨(.exit 0), .normal, ⟨pvs 18 0 [], [], 0, none, [], [], [], [], []⟩⟩]⟩
noncomputable def near_l0_step (x : (List Int)) (s : Int) : Int ⊕ (Unit ⊕ Unit) :=
 (if (s < (((List.length x) : Nat) : Int)) then
 (if ((List.getD x (Int.toNat s) (0 : Int)) < (-1048576 : Int)) then
 (Sum.inr (Sum.inl ())) else
 (if ((List.getD x (Int.toNat s) (0 : Int)) > (1048576 : Int)) then
 (Sum.inr (Sum.inl ())) else
 (Sum.inl (w64 (s + (1 : Int)))))) else
 (Sum.inr (Sum.inr (()))))
noncomputable def near_l0_pre (x : (List Int)) (s : Int) : Prop :=
 ((s < (((List.length x) : Nat) : Int)) →
 ((((0 : Int) ≤ s) ∧ (s < (((List.length x) : Nat) : Int))) ∧
 (((Int.toNat s) < (List.length x)) ∧
 ((Int.toNat s) < (List.length x)))))
noncomputable def near_l0_t (x : (List Int)) (s : Int) : Tr (Int ⊕ (Unit ⊕ Unit)) true :=
 (.i10 (s < (((List.length x) : Nat) : Int))
 (.oR s (((List.length x) : Nat) : Int)
 (.od ((Int.toNat s) < (List.length x))
 (.od ((Int.toNat s) < (List.length x))
 (.i00 ((List.getD x (Int.toNat s) (0 : Int)) < (-1048576 : Int))
 (.ret (.inr (Sum.inl ())))
 (.i00 ((List.getD x (Int.toNat s) (0 : Int)) > (1048576 : Int))
 (.ret (.inr (Sum.inl ())))
 (.ret (.inl (w64 (s + (1 : Int))))))))))
 (.ret (.inr (Sum.inr (())))))
noncomputable def near (x : (List Int)) : Bool :=
 (letV (run (near_l0_step x) (0 : Int)) fun r =>
 (Sum.elim (fun a =>
 false) (fun b =>
 true) r))
noncomputable def near_pre (x : (List Int)) : Prop :=
 (Term (near_l0_step x) (near_l0_pre x) (0 : Int))
noncomputable def near_t (x : (List Int)) : Tr Bool true :=
 (LoopD.lp (near_l0 x) (near_l0_t x) (0 : Int) fun r =>
 (.s00 r (fun a =>
 (.ret false)) (fun b =>
 (.ret true))))
noncomputable abbrev near_S : FnS := ⟨(.one (Ty.sl yi)), (.one Ty.bool), near_pre, near⟩
theorem near_ok : SpecOk Tryz.prog 156 (fnSpec near_S) := SpecOk.tr near_S near_t (fn := Tryz.f156) tt_ok sp_dot_ok mixed (by kernel_rfl) (ItsOk.nil _ _) (fun x => (LpsOk.tr tt_ok (SpecsOk.ctxI sp_dot_ok (ItsOk.nil _ _)) mixed 0 (near_l0 x) (near_l0_t x) LpsOk.nil (by kernel_rfl) fun g s Q => (by kernel_rfl))) (fun x => (by kernel_rfl)) fun x Q => (by kernel_rfl)
def sp_near : List (Nat × Ev.Spec) := (156, fnSpec near_S) :: sp_dot
theorem sp_near_ok : SpecsOk Tryz.prog sp_near := SpecsOk.add (fn := Tryz.f156) (by kernel_rfl) near_ok sp_dot_ok
noncomputable def within_l0 (x : (Int × (List Int))) : LoopD := ⟨[], ⟨pvs 23 0 [(0, .v (.one (.i .i64))), (7, .v (.one (.full 0))), (8, .v (.one (.i .i64))), (9, .v (.one (.i .i64)))], [.row yi 0], 0, none, [], [0, 1, 3], [2], [.i], [.i x.1, .i (((List.length x.2) : Nat) : Int), .l yi x.2]⟩, [⟨.ret, .ret, ⟨pvs 23 0 [(4, .v (.one (.b)))], [], 0, none, [], [0], [], [], [.b false]⟩⟩, ⟨(.exit 0), .normal, ⟨pvs 23 0 [], [], 0, none, [], [], [], [], []⟩⟩]⟩
noncomputable def within_l0_step (x : (Int × (List Int))) (s : Int) : Int ⊕ (Unit ⊕ Unit) :=
 (if (s < (((List.length x.2) : Nat) : Int)) then
 (if ((List.getD x.2 (Int.toNat s) (0 : Int)) < (w64 ((0 : Int) - x.1))) then
 (Sum.inr (Sum.inl ())) else
 (if ((List.getD x.2 (Int.toNat s) (0 : Int)) > x.1) then
 (Sum.inr (Sum.inl ())) else
 (Sum.inl (w64 (s + (1 : Int)))))) else
 (Sum.inr (Sum.inr (()))))
noncomputable def within_l0_pre (x : (Int × (List Int))) (s : Int) : Prop :=
 ((s < (((List.length x.2) : Nat) : Int)) →
 ((((0 : Int) ≤ s) ∧ (s < (((List.length x.2) : Nat) : Int))) ∧
 (((Int.toNat s) < (List.length x.2)) ∧
 ((Int.toNat s) < (List.length x.2)))))
noncomputable def within_l0_t (x : (Int × (List Int))) (s : Int) : Tr (Int ⊕ (Unit ⊕ Unit)) true :=
 (.i10 (s < (((List.length x.2) : Nat) : Int))
 (.oR s (((List.length x.2) : Nat) : Int)
 (.od ((Int.toNat s) < (List.length x.2))
 (.od ((Int.toNat s) < (List.length x.2))
 (.i00 ((List.getD x.2 (Int.toNat s) (0 : Int)) < (w64 ((0 : Int) - x.1)))
 (.ret (.inr (Sum.inl ())))
 (.i00 ((List.getD x.2 (Int.toNat s) (0 : Int)) > x.1)
 (.ret (.inr (Sum.inl ())))
 (.ret (.inl (w64 (s + (1 : Int))))))))))
 (.ret (.inr (Sum.inr (())))))
noncomputable def within (x : (Int × (List Int))) : Bool :=
 (letV (run (within_l0_step x) (0 : Int)) fun r =>
 (Sum.elim (fun a =>
 false) (fun b =>
 true) r))
noncomputable def within_pre (x : (Int × (List Int))) : Prop :=
 (Term (within_l0_step x) (within_l0_pre x) (0 : Int))
noncomputable def within_t (x : (Int × (List Int))) : Tr Bool true :=
 (LoopD.lp (within_l0 x) (within_l0_t x) (0 : Int) fun r =>
 (.s00 r (fun a =>
 (.ret false)) (fun b =>
 (.ret true))))
noncomputable abbrev within_S : FnS := ⟨(.pair (.one yi) (.one (Ty.sl yi))), (.one Ty.bool), within_pre, within⟩
theorem within_ok : SpecOk Tryz.prog 103 (fnSpec within_S) := SpecOk.tr within_S within_t (fn := Tryz.f103) tt_ok sp_near_ok mixed (by kernel_rfl) (ItsOk.nil _ _) (fun x => (LpsOk.tr tt_ok (SpecsOk.ctxI sp_near_ok (ItsOk.nil _ _)) mixed 0 (within_l0 x) (within_l0_t x) LpsOk.nil (by kernel_rfl) fun g s Q => (by kernel_rfl))) (fun x => (by kernel_rfl)) fun x Q => (by kernel_rfl)
def sp_within : List (Nat × Ev.Spec) := (103, fnSpec within_S) :: sp_near
theorem sp_within_ok : SpecsOk Tryz.prog sp_within := SpecsOk.add (fn := Tryz.f103) (by kernel_rfl) within_ok sp_near_ok
noncomputable def is2_l0 (x : (List I2)) : LoopD := ⟨[], ⟨pvs 19 0 [(5, .v (.one (.full 0))), (6, .v (.one (.i .i64))), (7, .v (.one (.i .i64)))], [.row yy2 0], 0, none, [], [0, 2], [1], [.i], [.i (((List.length x) : Nat) : Int), .l yy2 x]⟩, [⟨.ret, .ret, ⟨pvs 19 0 [(2, .v (.one (.b)))], [], 0, none, [], [0], [], [], [.b false]⟩⟩, ⟨(.exit 0), .normal, ⟨pvs 19 0 [], [], 0, none, [], [], [], [], []⟩⟩]⟩
noncomputable def is2_l0_step (x : (List I2)) (s : Int) : Int ⊕ (Unit ⊕ Unit) :=
 (if (s < (((List.length x) : Nat) : Int)) then
 (letV (near [(List.getD x (Int.toNat s) ((0 : Int), (0 : Int))).1, (List.getD x (Int.toNat s) ((0 : Int), (0 : Int))).2]) fun y =>
 (if ((!y) = true) then
 (Sum.inr (Sum.inl ())) else
 (Sum.inl (w64 (s + (1 : Int)))))) else
 (Sum.inr (Sum.inr (()))))
noncomputable def is2_l0_pre (x : (List I2)) (s : Int) : Prop :=
 ((s < (((List.length x) : Nat) : Int)) →
 ((((0 : Int) ≤ s) ∧ (s < (((List.length x) : Nat) : Int))) ∧
 (((Int.toNat s) < (List.length x)) ∧
 (((Int.toNat s) < (List.length x)) ∧
 (near_pre [(List.getD x (Int.toNat s) ((0 : Int), (0 : Int))).1, (List.getD x (Int.toNat s) ((0 : Int), (0 : Int))).2])))))
noncomputable def is2_l0_t (x : (List I2)) (s : Int) : Tr (Int ⊕ (Unit ⊕ Unit)) true :=
 (.i10 (s < (((List.length x) : Nat) : Int))
 (.oR s (((List.length x) : Nat) : Int)
 (.od ((Int.toNat s) < (List.length x))
 (.od ((Int.toNat s) < (List.length x))
 (.fn near_S [(List.getD x (Int.toNat s) zz2).1, (List.getD x (Int.toNat s) zz2).2] fun y =>
 (.b00 (!y)
 (.ret (.inr (Sum.inl ())))
 (.ret (.inl (w64 (s + (1 : Int))))))))))
 (.ret (.inr (Sum.inr (())))))
noncomputable def is2 (x : (List I2)) : Bool :=
 (letV (run (is2_l0_step x) (0 : Int)) fun r =>
 (Sum.elim (fun a =>
 false) (fun b =>
 true) r))
noncomputable def is2_pre (x : (List I2)) : Prop :=
 (Term (is2_l0_step x) (is2_l0_pre x) (0 : Int))
noncomputable def is2_t (x : (List I2)) : Tr Bool true :=
 (LoopD.lp (is2_l0 x) (is2_l0_t x) (0 : Int) fun r =>
 (.s00 r (fun a =>
 (.ret false)) (fun b =>
 (.ret true))))
noncomputable abbrev is2_S : FnS := ⟨(.one (Ty.sl yy2)), (.one Ty.bool), is2_pre, is2⟩
theorem is2_ok : SpecOk Tryz.prog 119 (fnSpec is2_S) := SpecOk.tr is2_S is2_t (fn := Tryz.f119) tt_ok sp_within_ok mixed (by kernel_rfl) (ItsOk.nil _ _) (fun x => (LpsOk.tr tt_ok (SpecsOk.ctxI sp_within_ok (ItsOk.nil _ _)) mixed 0 (is2_l0 x) (is2_l0_t x) LpsOk.nil (by kernel_rfl) fun g s Q => (by kernel_rfl))) (fun x => (by kernel_rfl)) fun x Q => (by kernel_rfl)
def sp_is2 : List (Nat × Ev.Spec) := (119, fnSpec is2_S) :: sp_within
theorem sp_is2_ok : SpecsOk Tryz.prog sp_is2 := SpecsOk.add (fn := Tryz.f119) (by kernel_rfl) is2_ok sp_within_ok
noncomputable def is3_l0 (x : (List I3)) : LoopD := ⟨[], ⟨pvs 21 0 [(5, .v (.one (.full 0))), (6, .v (.one (.i .i64))), (7, .v (.one (.i .i64)))], [.row yy3 0], 0, none, [], [0, 2], [1], [.i], [.i (((List.length x) : Nat) : Int), .l yy3 x]⟩, [⟨.ret, .ret, ⟨pvs 21 0 [(2, .v (.one (.b)))], [], 0, none, [], [0], [], [], [.b false]⟩⟩, ⟨(.exit 0), .normal, ⟨pvs 21 0 [], [], 0, none, [], [], [], [], []⟩⟩]⟩
noncomputable def is3_l0_step (x : (List I3)) (s : Int) : Int ⊕ (Unit ⊕ Unit) :=
 (if (s < (((List.length x) : Nat) : Int)) then
 (letV (near [(List.getD x (Int.toNat s) ((0 : Int), ((0 : Int), (0 : Int)))).1, (List.getD x (Int.toNat s) ((0 : Int), ((0 : Int), (0 : Int)))).2.1, (List.getD x (Int.toNat s) ((0 : Int), ((0 : Int), (0 : Int)))).2.2]) fun y =>
 (if ((!y) = true) then
 (Sum.inr (Sum.inl ())) else
 (Sum.inl (w64 (s + (1 : Int)))))) else
 (Sum.inr (Sum.inr (()))))
noncomputable def is3_l0_pre (x : (List I3)) (s : Int) : Prop :=
 ((s < (((List.length x) : Nat) : Int)) →
 ((((0 : Int) ≤ s) ∧ (s < (((List.length x) : Nat) : Int))) ∧
 (((Int.toNat s) < (List.length x)) ∧
 (((Int.toNat s) < (List.length x)) ∧
 (near_pre [(List.getD x (Int.toNat s) ((0 : Int), ((0 : Int), (0 : Int)))).1, (List.getD x (Int.toNat s) ((0 : Int), ((0 : Int), (0 : Int)))).2.1, (List.getD x (Int.toNat s) ((0 : Int), ((0 : Int), (0 : Int)))).2.2])))))
noncomputable def is3_l0_t (x : (List I3)) (s : Int) : Tr (Int ⊕ (Unit ⊕ Unit)) true :=
 (.i10 (s < (((List.length x) : Nat) : Int))
 (.oR s (((List.length x) : Nat) : Int)
 (.od ((Int.toNat s) < (List.length x))
 (.od ((Int.toNat s) < (List.length x))
 (.fn near_S [(List.getD x (Int.toNat s) zz3).1, (List.getD x (Int.toNat s) zz3).2.1, (List.getD x (Int.toNat s) zz3).2.2] fun y =>
 (.b00 (!y)
 (.ret (.inr (Sum.inl ())))
 (.ret (.inl (w64 (s + (1 : Int))))))))))
 (.ret (.inr (Sum.inr (())))))
noncomputable def is3 (x : (List I3)) : Bool :=
 (letV (run (is3_l0_step x) (0 : Int)) fun r =>
 (Sum.elim (fun a =>
 false) (fun b =>
 true) r))
noncomputable def is3_pre (x : (List I3)) : Prop :=
 (Term (is3_l0_step x) (is3_l0_pre x) (0 : Int))
noncomputable def is3_t (x : (List I3)) : Tr Bool true :=
 (LoopD.lp (is3_l0 x) (is3_l0_t x) (0 : Int) fun r =>
 (.s00 r (fun a =>
 (.ret false)) (fun b =>
 (.ret true))))
noncomputable abbrev is3_S : FnS := ⟨(.one (Ty.sl yy3)), (.one Ty.bool), is3_pre, is3⟩
theorem is3_ok : SpecOk Tryz.prog 118 (fnSpec is3_S) := SpecOk.tr is3_S is3_t (fn := Tryz.f118) tt_ok sp_is2_ok mixed (by kernel_rfl) (ItsOk.nil _ _) (fun x => (LpsOk.tr tt_ok (SpecsOk.ctxI sp_is2_ok (ItsOk.nil _ _)) mixed 0 (is3_l0 x) (is3_l0_t x) LpsOk.nil (by kernel_rfl) fun g s Q => (by kernel_rfl))) (fun x => (by kernel_rfl)) fun x Q => (by kernel_rfl)
def sp_is3 : List (Nat × Ev.Spec) := (118, fnSpec is3_S) :: sp_is2
theorem sp_is3_ok : SpecsOk Tryz.prog sp_is3 := SpecsOk.add (fn := Tryz.f118) (by kernel_rfl) is3_ok sp_is2_ok
noncomputable def small2_l0 (x : (List I2)) : LoopD := ⟨[], ⟨pvs 19 0 [(5, .v (.one (.full 0))), (6, .v (.one (.i .i64))), (7, .v (.one (.i .i64)))], [.row yy2 0], 0, none, [], [0, 2], [1], [.i], [.i (((List.length x) : Nat) : Int), .l yy2 x]⟩, [⟨.ret, .ret, ⟨pvs 19 0 [(2, .v (.one (.b)))], [], 0, none, [], [0], [], [], [.b false]⟩⟩, ⟨(.exit 0), .normal, ⟨pvs 19 0 [], [], 0, none, [], [], [], [], []⟩⟩]⟩
noncomputable def small2_l0_step (x : (List I2)) (s : Int) : Int ⊕ (Unit ⊕ Unit) :=
 (if (s < (((List.length x) : Nat) : Int)) then
 (letV (within ((4096 : Int), [(List.getD x (Int.toNat s) ((0 : Int), (0 : Int))).1, (List.getD x (Int.toNat s) ((0 : Int), (0 : Int))).2])) fun y =>
 (if ((!y) = true) then
 (Sum.inr (Sum.inl ())) else
 (Sum.inl (w64 (s + (1 : Int)))))) else
 (Sum.inr (Sum.inr (()))))
noncomputable def small2_l0_pre (x : (List I2)) (s : Int) : Prop :=
 ((s < (((List.length x) : Nat) : Int)) →
 ((((0 : Int) ≤ s) ∧ (s < (((List.length x) : Nat) : Int))) ∧
 (((Int.toNat s) < (List.length x)) ∧
 (((Int.toNat s) < (List.length x)) ∧
 (within_pre ((4096 : Int), [(List.getD x (Int.toNat s) ((0 : Int), (0 : Int))).1, (List.getD x (Int.toNat s) ((0 : Int), (0 : Int))).2]))))))
noncomputable def small2_l0_t (x : (List I2)) (s : Int) : Tr (Int ⊕ (Unit ⊕ Unit)) true :=
 (.i10 (s < (((List.length x) : Nat) : Int))
 (.oR s (((List.length x) : Nat) : Int)
 (.od ((Int.toNat s) < (List.length x))
 (.od ((Int.toNat s) < (List.length x))
 (.fn within_S ((4096 : Int), [(List.getD x (Int.toNat s) zz2).1, (List.getD x (Int.toNat s) zz2).2]) fun y =>
 (.b00 (!y)
 (.ret (.inr (Sum.inl ())))
 (.ret (.inl (w64 (s + (1 : Int))))))))))
 (.ret (.inr (Sum.inr (())))))
noncomputable def small2 (x : (List I2)) : Bool :=
 (letV (run (small2_l0_step x) (0 : Int)) fun r =>
 (Sum.elim (fun a =>
 false) (fun b =>
 true) r))
noncomputable def small2_pre (x : (List I2)) : Prop :=
 (Term (small2_l0_step x) (small2_l0_pre x) (0 : Int))
noncomputable def small2_t (x : (List I2)) : Tr Bool true :=
 (LoopD.lp (small2_l0 x) (small2_l0_t x) (0 : Int) fun r =>
 (.s00 r (fun a =>
 (.ret false)) (fun b =>
 (.ret true))))
noncomputable abbrev small2_S : FnS := ⟨(.one (Ty.sl yy2)), (.one Ty.bool), small2_pre, small2⟩
theorem small2_ok : SpecOk Tryz.prog 63 (fnSpec small2_S) := SpecOk.tr small2_S small2_t (fn := Tryz.f63) tt_ok sp_is3_ok mixed (by kernel_rfl) (ItsOk.nil _ _) (fun x => (LpsOk.tr tt_ok (SpecsOk.ctxI sp_is3_ok (ItsOk.nil _ _)) mixed 0 (small2_l0 x) (small2_l0_t x) LpsOk.nil (by kernel_rfl) fun g s Q => (by kernel_rfl))) (fun x => (by kernel_rfl)) fun x Q => (by kernel_rfl)
def sp_small2 : List (Nat × Ev.Spec) := (63, fnSpec small2_S) :: sp_is3
theorem sp_small2_ok : SpecsOk Tryz.prog sp_small2 := SpecsOk.add (fn := Tryz.f63) (by kernel_rfl) small2_ok sp_is3_ok
noncomputable def small3_l0 (x : (List I3)) : LoopD := ⟨[], ⟨pvs 21 0 [(5, .v (.one (.full 0))), (6, .v (.one (.i .i64))), (7, .v (.one (.i .i64)))], [.row yy3 0], 0, none, [], [0, 2], [1], [.i], [.i (((List.length x) : Nat) : Int), .l yy3 x]⟩, [⟨.ret, .ret, ⟨pvs 21 0 [(2, .v (.one (.b)))], [], 0, none, [], [0], [], [], [.b false]⟩⟩, ⟨(.exit 0), .normal, ⟨pvs 21 0 [], [], 0, none, [], [], [], [], []⟩⟩]⟩
noncomputable def small3_l0_step (x : (List I3)) (s : Int) : Int ⊕ (Unit ⊕ Unit) :=
 (if (s < (((List.length x) : Nat) : Int)) then
 (letV (within ((16384 : Int), [(List.getD x (Int.toNat s) ((0 : Int), ((0 : Int), (0 : Int)))).1, (List.getD x (Int.toNat s) ((0 : Int), ((0 : Int), (0 : Int)))).2.1, (List.getD x (Int.toNat s) ((0 : Int), ((0 : Int), (0 : Int)))).2.2])) fun y =>
 (if ((!y) = true) then
 (Sum.inr (Sum.inl ())) else
 (Sum.inl (w64 (s + (1 : Int)))))) else
 (Sum.inr (Sum.inr (()))))
noncomputable def small3_l0_pre (x : (List I3)) (s : Int) : Prop :=
 ((s < (((List.length x) : Nat) : Int)) →
 ((((0 : Int) ≤ s) ∧ (s < (((List.length x) : Nat) : Int))) ∧
 (((Int.toNat s) < (List.length x)) ∧
 (((Int.toNat s) < (List.length x)) ∧
 (within_pre ((16384 : Int), [(List.getD x (Int.toNat s) ((0 : Int), ((0 : Int), (0 : Int)))).1, (List.getD x (Int.toNat s) ((0 : Int), ((0 : Int), (0 : Int)))).2.1, (List.getD x (Int.toNat s) ((0 : Int), ((0 : Int), (0 : Int)))).2.2]))))))
noncomputable def small3_l0_t (x : (List I3)) (s : Int) : Tr (Int ⊕ (Unit ⊕ Unit)) true :=
 (.i10 (s < (((List.length x) : Nat) : Int))
 (.oR s (((List.length x) : Nat) : Int)
 (.od ((Int.toNat s) < (List.length x))
 (.od ((Int.toNat s) < (List.length x))
 (.fn within_S ((16384 : Int), [(List.getD x (Int.toNat s) zz3).1, (List.getD x (Int.toNat s) zz3).2.1, (List.getD x (Int.toNat s) zz3).2.2]) fun y =>
 (.b00 (!y)
 (.ret (.inr (Sum.inl ())))
 (.ret (.inl (w64 (s + (1 : Int))))))))))
 (.ret (.inr (Sum.inr (())))))
noncomputable def small3 (x : (List I3)) : Bool :=
 (letV (run (small3_l0_step x) (0 : Int)) fun r =>
 (Sum.elim (fun a =>
 false) (fun b =>
 true) r))
noncomputable def small3_pre (x : (List I3)) : Prop :=
 (Term (small3_l0_step x) (small3_l0_pre x) (0 : Int))
noncomputable def small3_t (x : (List I3)) : Tr Bool true :=
 (LoopD.lp (small3_l0 x) (small3_l0_t x) (0 : Int) fun r =>
 (.s00 r (fun a =>
 (.ret false)) (fun b =>
 (.ret true))))
noncomputable abbrev small3_S : FnS := ⟨(.one (Ty.sl yy3)), (.one Ty.bool), small3_pre, small3⟩
theorem small3_ok : SpecOk Tryz.prog 64 (fnSpec small3_S) := SpecOk.tr small3_S small3_t (fn := Tryz.f64) tt_ok sp_small2_ok mixed (by kernel_rfl) (ItsOk.nil _ _) (fun x => (LpsOk.tr tt_ok (SpecsOk.ctxI sp_small2_ok (ItsOk.nil _ _)) mixed 0 (small3_l0 x) (small3_l0_t x) LpsOk.nil (by kernel_rfl) fun g s Q => (by kernel_rfl))) (fun x => (by kernel_rfl)) fun x Q => (by kernel_rfl)
def sp_small3 : List (Nat × Ev.Spec) := (64, fnSpec small3_S) :: sp_small2
theorem sp_small3_ok : SpecsOk Tryz.prog sp_small3 := SpecsOk.add (fn := Tryz.f64) (by kernel_rfl) small3_ok sp_small2_ok
noncomputable def sub2 (x : (I2 × I2)) : I2 :=
 (letV (is2 [x.1, x.2]) fun y =>
 (if ((!y) = true) then
 ((0 : Int), (0 : Int)) else
 ((w64 (x.1.1 - x.2.1)), (w64 (x.1.2 - x.2.2)))))
noncomputable def sub2_pre (x : (I2 × I2)) : Prop :=
 (is2_pre [x.1, x.2])
noncomputable def sub2_t (x : (I2 × I2)) : Tr I2 true :=
 (.fn is2_S [x.1, x.2] fun y =>
 (.b00 (!y)
 (.ret zz2)
 (.ret ((w64 (x.1.1 - x.2.1)), (w64 (x.1.2 - x.2.2))))))
noncomputable abbrev sub2_S : FnS := ⟨(.pair (.agg yy2) (.agg yy2)), (.agg yy2), sub2_pre, sub2⟩
theorem sub2_ok : SpecOk Tryz.prog 99 (fnSpec sub2_S) := SpecOk.tr sub2_S sub2_t (fn := Tryz.f99) tt_ok sp_small3_ok mixed (by kernel_rfl) (ItsOk.nil _ _) (fun x => LpsOk.nil) (fun x => (by kernel_rfl)) fun x Q => (by kernel_rfl)
def sp_sub2 : List (Nat × Ev.Spec) := (99, fnSpec sub2_S) :: sp_small3
theorem sp_sub2_ok : SpecsOk Tryz.prog sp_sub2 := SpecsOk.add (fn := Tryz.f99) (by kernel_rfl) sub2_ok sp_small3_ok
noncomputable def cross2 (x : (I2 × I2)) : I2 :=
 (letV (is2 [x.1, x.2]) fun y =>
 (if ((!y) = true) then
 ((0 : Int), (5 : Int)) else
 ((w64 ((w64 (x.1.1 * x.2.2)) - (w64 (x.1.2 * x.2.1)))), (0 : Int))))
noncomputable def cross2_pre (x : (I2 × I2)) : Prop :=
 (is2_pre [x.1, x.2])
noncomputable def cross2_t (x : (I2 × I2)) : Tr I2 true :=
 (.fn is2_S [x.1, x.2] fun y =>
 (.b00 (!y)
 (.ret ((0 : Int), (5 : Int)))
 (.ret ((w64 ((w64 (x.1.1 * x.2.2)) - (w64 (x.1.2 * x.2.1)))), (0 : Int)))))
noncomputable abbrev cross2_S : FnS := ⟨(.pair (.agg yy2) (.agg yy2)), (.pair (.one yi) (.one yi)), cross2_pre, cross2⟩
theorem cross2_ok : SpecOk Tryz.prog 173 (fnSpec cross2_S) := SpecOk.tr cross2_S cross2_t (fn := Tryz.f173) tt_ok sp_sub2_ok mixed (by kernel_rfl) (ItsOk.nil _ _) (fun x => LpsOk.nil) (fun x => (by kernel_rfl)) fun x Q => (by kernel_rfl)
def sp_cross2 : List (Nat × Ev.Spec) := (173, fnSpec cross2_S) :: sp_sub2
theorem sp_cross2_ok : SpecsOk Tryz.prog sp_cross2 := SpecsOk.add (fn := Tryz.f173) (by kernel_rfl) cross2_ok sp_sub2_ok
noncomputable def halves (x : Int) : I2 :=
 ((w64 (Int.tdiv x (1000000000 : Int))), (Int.tmod x (1000000000 : Int)))
noncomputable def halves_pre (_ : Int) : Prop := True
noncomputable def halves_t (x : Int) : Tr I2 false :=
 (.ret ((w64 (Int.tdiv x (1000000000 : Int))), (Int.tmod x (1000000000 : Int))))
noncomputable abbrev halves_S : FnS := ⟨(.one yi), (.agg yy2), halves_pre, halves⟩
theorem halves_ok : SpecOk Tryz.prog 174 (fnSpec halves_S) := SpecOk.tr halves_S halves_t (fn := Tryz.f174) tt_ok sp_cross2_ok mixed (by kernel_rfl) (ItsOk.nil _ _) (fun x => LpsOk.nil) (fun x => (by kernel_rfl)) fun x Q => (by kernel_rfl)
def sp_halves : List (Nat × Ev.Spec) := (174, fnSpec halves_S) :: sp_cross2
theorem sp_halves_ok : SpecsOk Tryz.prog sp_halves := SpecsOk.add (fn := Tryz.f174) (by kernel_rfl) halves_ok sp_cross2_ok
noncomputable def wis (x : I2) : Bool :=
 (if (x.2 ≥ (0 : Int)) then
 (if (x.2 < (1000000000000000000 : Int)) then
 (if (x.1 ≥ (-4000000000000000000 : Int)) then
 (decide (x.1 ≤ (4000000000000000000 : Int))) else
 false) else
 false) else
 false)
noncomputable def wis_pre (_ : I2) : Prop := True
noncomputable def wis_t (x : I2) : Tr Bool false :=
 (.i00 (x.2 ≥ (0 : Int))
 (.i00 (x.2 < (1000000000000000000 : Int))
 (.i00 (x.1 ≥ (-4000000000000000000 : Int))
 (.ret (decide (x.1 ≤ (4000000000000000000 : Int))))
 (.ret false))
 (.ret false))
 (.ret false))
noncomputable abbrev wis_S : FnS := ⟨(.agg yy2), (.one Ty.bool), wis_pre, wis⟩
theorem wis_ok : SpecOk Tryz.prog 188 (fnSpec wis_S) := SpecOk.tr wis_S wis_t (fn := Tryz.f188) tt_ok sp_halves_ok mixed (by kernel_rfl) (ItsOk.nil _ _) (fun x => LpsOk.nil) (fun x => (by kernel_rfl)) fun x Q => (by kernel_rfl)
def sp_wis : List (Nat × Ev.Spec) := (188, fnSpec wis_S) :: sp_halves
theorem sp_wis_ok : SpecsOk Tryz.prog sp_wis := SpecsOk.add (fn := Tryz.f188) (by kernel_rfl) wis_ok sp_halves_ok
noncomputable def wright (x : I2) : (I2 × Int) :=
 (letV (wis x) fun y =>
 (if ((!y) = true) then
 (((0 : Int), (0 : Int)), (4 : Int)) else
 (x, (0 : Int))))
noncomputable def wright_pre (_ : I2) : Prop := True
noncomputable def wright_t (x : I2) : Tr (I2 × Int) false :=
 (.fn0 wis_S x trivial fun y =>
 (.b00 (!y)
 (.ret (zz2, (4 : Int)))
 (.ret (x, (0 : Int)))))
noncomputable abbrev wright_S : FnS := ⟨(.agg yy2), (.pair (.agg yy2) (.one yi)), wright_pre, wright⟩
theorem wright_ok : SpecOk Tryz.prog 189 (fnSpec wright_S) := SpecOk.tr wright_S wright_t (fn := Tryz.f189) tt_ok sp_wis_ok mixed (by kernel_rfl) (ItsOk.nil _ _) (fun x => LpsOk.nil) (fun x => (by kernel_rfl)) fun x Q => (by kernel_rfl)
def sp_wright : List (Nat × Ev.Spec) := (189, fnSpec wright_S) :: sp_wis
theorem sp_wright_ok : SpecsOk Tryz.prog sp_wright := SpecsOk.add (fn := Tryz.f189) (by kernel_rfl) wright_ok sp_wis_ok
noncomputable def wneg (x : I2) : (I2 × Int) :=
 (letV (wis x) fun y =>
 (if ((!y) = true) then
 (((0 : Int), (0 : Int)), (1 : Int)) else
 (if ((x.2 == (0 : Int)) = true) then
 (((w64 ((0 : Int) - x.1)), (0 : Int)), (0 : Int)) else
 (letV (wright ((w64 ((w64 ((0 : Int) - x.1)) - (1 : Int))), (w64 ((1000000000000000000 : Int) - x.2)))) fun y_1 =>
 y_1))))
noncomputable def wneg_pre (_ : I2) : Prop := True
noncomputable def wneg_t (x : I2) : Tr (I2 × Int) false :=
 (.fn0 wis_S x trivial fun y =>
 (.b00 (!y)
 (.ret (zz2, (1 : Int)))
 (.b00 (x.2 == (0 : Int))
 (.ret (((w64 ((0 : Int) - x.1)), (0 : Int)), (0 : Int)))
 (.fn0 wright_S ((w64 ((w64 ((0 : Int) - x.1)) - (1 : Int))), (w64 ((1000000000000000000 : Int) - x.2))) trivial fun y_1 =>
 (.ret y_1)))))
noncomputable abbrev wneg_S : FnS := ⟨(.agg yy2), (.pair (.agg yy2) (.one yi)), wneg_pre, wneg⟩
theorem wneg_ok : SpecOk Tryz.prog 175 (fnSpec wneg_S) := SpecOk.tr wneg_S wneg_t (fn := Tryz.f175) tt_ok sp_wright_ok mixed (by kernel_rfl) (ItsOk.nil _ _) (fun x => LpsOk.nil) (fun x => (by kernel_rfl)) fun x Q => (by kernel_rfl)
def sp_wneg : List (Nat × Ev.Spec) := (175, fnSpec wneg_S) :: sp_wright
theorem sp_wneg_ok : SpecsOk Tryz.prog sp_wneg := SpecsOk.add (fn := Tryz.f175) (by kernel_rfl) wneg_ok sp_wright_ok
noncomputable def cor_l0 (x : (List Int)) : LoopD := ⟨[], ⟨pvs 18 0 [(3, .v (.one (.i .i64))), (6, .v (.one (.full 0))), (7, .v (.one (.i .i64))), (8, .v (.one (.i .i64)))], [.row yi 0], 0, none, [], [0, 1, 3], [2], [.i], [.i (0 : Int), .i (((List.length x) : Nat) : Int), .l yi x]⟩, [⟨.ret, .ret, ⟨pvs 18 0 [(2, .v (.one (.i .i64)))], [], 0, none, [], [], [0], [.i], []⟩⟩, ⟨(.exit 0), .normal, ⟨pvs 18 0 [(3, .v (.one (.i .i64)))], [], 0, none, [], [0], [], [], [.i (0 : Int)]⟩⟩]⟩
noncomputable def cor_l0_step (x : (List Int)) (s : Int) : Int ⊕ (Int ⊕ Unit) :=
 (if (s < (((List.length x) : Nat) : Int)) then
 (if (((List.getD x (Int.toNat s) (0 : Int)) != (0 : Int)) = true) then
 (Sum.inr (Sum.inl (List.getD x (Int.toNat s) (0 : Int)))) else
 (Sum.inl (w64 (s + (1 : Int))))) else
 (Sum.inr (Sum.inr (()))))
noncomputable def cor_l0_pre (x : (List Int)) (s : Int) : Prop :=
 ((s < (((List.length x) : Nat) : Int)) →
 ((((0 : Int) ≤ s) ∧ (s < (((List.length x) : Nat) : Int))) ∧
 (((Int.toNat s) < (List.length x)) ∧
 ((Int.toNat s) < (List.length x)))))
noncomputable def cor_l0_t (x : (List Int)) (s : Int) : Tr (Int ⊕ (Int ⊕ Unit)) true :=
 (.i10 (s < (((List.length x) : Nat) : Int))
 (.oR s (((List.length x) : Nat) : Int)
 (.od ((Int.toNat s) < (List.length x))
 (.od ((Int.toNat s) < (List.length x))
 (.b00 ((List.getD x (Int.toNat s) (0 : Int)) != (0 : Int))
 (.ret (.inr (Sum.inl (List.getD x (Int.toNat s) (0 : Int)))))
 (.ret (.inl (w64 (s + (1 : Int)))))))))
 (.ret (.inr (Sum.inr (())))))
noncomputable def cor (x : (List Int)) : Int :=
 (letV (run (cor_l0_step x) (0 : Int)) fun r =>
 (Sum.elim (fun a =>
 a) (fun b =>
 (0 : Int)) r))
noncomputable def cor_pre (x : (List Int)) : Prop :=
 (Term (cor_l0_step x) (cor_l0_pre x) (0 : Int))
noncomputable def cor_t (x : (List Int)) : Tr Int true :=
 (LoopD.lp (cor_l0 x) (cor_l0_t x) (0 : Int) fun r =>
 (.s00 r (fun a =>
 (.ret a)) (fun b =>
 (.ret (0 : Int)))))
noncomputable abbrev cor_S : FnS := ⟨(.one (Ty.sl yi)), (.one yi), cor_pre, cor⟩
theorem cor_ok : SpecOk Tryz.prog 147 (fnSpec cor_S) := SpecOk.tr cor_S cor_t (fn := Tryz.f147) tt_ok sp_wneg_ok mixed (by kernel_rfl) (ItsOk.nil _ _) (fun x => (LpsOk.tr tt_ok (SpecsOk.ctxI sp_wneg_ok (ItsOk.nil _ _)) mixed 0 (cor_l0 x) (cor_l0_t x) LpsOk.nil (by kernel_rfl) fun g s Q => (by kernel_rfl))) (fun x => (by kernel_rfl)) fun x Q => (by kernel_rfl)
def sp_cor : List (Nat × Ev.Spec) := (147, fnSpec cor_S) :: sp_wneg
theorem sp_cor_ok : SpecsOk Tryz.prog sp_cor := SpecsOk.add (fn := Tryz.f147) (by kernel_rfl) cor_ok sp_wneg_ok
noncomputable def wmul (x : I2) : (I2 × Int) :=
 (if ((maxI x.1 x.2) > (1000000000000000000 : Int)) then
 (((0 : Int), (0 : Int)), (2 : Int)) else
 (if ((minI x.1 x.2) < (-1000000000000000000 : Int)) then
 (((0 : Int), (0 : Int)), (2 : Int)) else
 (letV (halves (maxI x.1 (w64 ((0 : Int) - x.1)))) fun y =>
 (letV (halves (maxI x.2 (w64 ((0 : Int) - x.2)))) fun y_1 =>
 (if ((!((decide (x.1 < (0 : Int))) == (decide (x.2 < (0 : Int))))) = true) then
 (letV (wneg ((w64 ((w64 ((w64 (y.1 * y_1.1)) + (w64 (Int.tdiv (w64 ((w64 (y.1 * y_1.2)) + (w64 (y.2 * y_1.1)))) (1000000000 : Int))))) + (w64 (Int.tdiv (w64 ((w64 (y.2 * y_1.2)) + (w64 ((Int.tmod (w64 ((w64 (y.1 * y_1.2)) + (w64 (y.2 * y_1.1)))) (1000000000 : Int)) * (1000000000 : Int))))) (1000000000000000000 : Int))))), (Int.tmod (w64 ((w64 (y.2 * y_1.2)) + (w64 ((Int.tmod (w64 ((w64 (y.1 * y_1.2)) + (w64 (y.2 * y_1.1)))) (1000000000 : Int)) * (1000000000 : Int))))) (1000000000000000000 : Int)))) fun y_2 =>
 y_2) else
 (((w64 ((w64 ((w64 (y.1 * y_1.1)) + (w64 (Int.tdiv (w64 ((w64 (y.1 * y_1.2)) + (w64 (y.2 * y_1.1)))) (1000000000 : Int))))) + (w64 (Int.tdiv (w64 ((w64 (y.2 * y_1.2)) + (w64 ((Int.tmod (w64 ((w64 (y.1 * y_1.2)) + (w64 (y.2 * y_1.1)))) (1000000000 : Int)) * (1000000000 : Int))))) (1000000000000000000 : Int))))), (Int.tmod (w64 ((w64 (y.2 * y_1.2)) + (w64 ((Int.tmod (w64 ((w64 (y.1 * y_1.2)) + (w64 (y.2 * y_1.1)))) (1000000000 : Int)) * (1000000000 : Int))))) (1000000000000000000 : Int))), (0 : Int)))))))
noncomputable def wmul_pre (_ : I2) : Prop := True
noncomputable def wmul_t (x : I2) : Tr (I2 × Int) false :=
 (.i00 ((maxI x.1 x.2) > (1000000000000000000 : Int))
 (.ret (zz2, (2 : Int)))
 (.i00 ((minI x.1 x.2) < (-1000000000000000000 : Int))
 (.ret (zz2, (2 : Int)))
 (.fn0 halves_S (maxI x.1 (w64 ((0 : Int) - x.1))) trivial fun y =>
 (.fn0 halves_S (maxI x.2 (w64 ((0 : Int) - x.2))) trivial fun y_1 =>
 (.b00 (!((decide (x.1 < (0 : Int))) == (decide (x.2 < (0 : Int)))))
 (.fn0 wneg_S ((w64 ((w64 ((w64 (y.1 * y_1.1)) + (w64 (Int.tdiv (w64 ((w64 (y.1 * y_1.2)) + (w64 (y.2 * y_1.1)))) (1000000000 : Int))))) + (w64 (Int.tdiv (w64 ((w64 (y.2 * y_1.2)) + (w64 ((Int.tmod (w64 ((w64 (y.1 * y_1.2)) + (w64 (y.2 * y_1.1)))) (1000000000 : Int)) * (1000000000 : Int))))) (1000000000000000000 : Int))))), (Int.tmod (w64 ((w64 (y.2 * y_1.2)) + (w64 ((Int.tmod (w64 ((w64 (y.1 * y_1.2)) + (w64 (y.2 * y_1.1)))) (1000000000 : Int)) * (1000000000 : Int))))) (1000000000000000000 : Int))) trivial fun y_2 =>
 (.ret y_2))
 (.ret (((w64 ((w64 ((w64 (y.1 * y_1.1)) + (w64 (Int.tdiv (w64 ((w64 (y.1 * y_1.2)) + (w64 (y.2 * y_1.1)))) (1000000000 : Int))))) + (w64 (Int.tdiv (w64 ((w64 (y.2 * y_1.2)) + (w64 ((Int.tmod (w64 ((w64 (y.1 * y_1.2)) + (w64 (y.2 * y_1.1)))) (1000000000 : Int)) * (1000000000 : Int))))) (1000000000000000000 : Int))))), (Int.tmod (w64 ((w64 (y.2 * y_1.2)) + (w64 ((Int.tmod (w64 ((w64 (y.1 * y_1.2)) + (w64 (y.2 * y_1.1)))) (1000000000 : Int)) * (1000000000 : Int))))) (1000000000000000000 : Int))), (0 : Int))))))))
noncomputable abbrev wmul_S : FnS := ⟨(.pair (.one yi) (.one yi)), (.pair (.agg yy2) (.one yi)), wmul_pre, wmul⟩
theorem wmul_ok : SpecOk Tryz.prog 145 (fnSpec wmul_S) := SpecOk.tr wmul_S wmul_t (fn := Tryz.f145) tt_ok sp_cor_ok mixed (by kernel_rfl) (ItsOk.nil _ _) (fun x => LpsOk.nil) (fun x => (by kernel_rfl)) fun x Q => (by kernel_rfl)
def sp_wmul : List (Nat × Ev.Spec) := (145, fnSpec wmul_S) :: sp_cor
theorem sp_wmul_ok : SpecsOk Tryz.prog sp_wmul := SpecsOk.add (fn := Tryz.f145) (by kernel_rfl) wmul_ok sp_cor_ok
noncomputable def wcmp (x : (I2 × I2)) : Int :=
 (if (((x.1.1 == x.2.1) && ((x.1.2 == x.2.2) && true)) = true) then
 (0 : Int) else
 (letV (compare (x.1.1, x.2.1)) fun y =>
 (letV (compare (x.1.2, x.2.2)) fun y_1 =>
 (letV (cor [y, y_1]) fun y_2 =>
 y_2))))
noncomputable def wcmp_pre (x : (I2 × I2)) : Prop :=
 (¬ (((x.1.1 == x.2.1) && ((x.1.2 == x.2.2) && true)) = true) →
 (letP (compare (x.1.1, x.2.1)) fun y =>
 (letP (compare (x.1.2, x.2.2)) fun y_1 =>
 (cor_pre [y, y_1]))))
noncomputable def wcmp_t (x : (I2 × I2)) : Tr Int true :=
 (.b01 ((x.1.1 == x.2.1) && ((x.1.2 == x.2.2) && true))
 (.ret (0 : Int))
 (.fn0 compare_S (x.1.1, x.2.1) trivial fun y =>
 (.fn0 compare_S (x.1.2, x.2.2) trivial fun y_1 =>
 (.fn cor_S [y, y_1] fun y_2 =>
 (.ret y_2)))))
noncomputable abbrev wcmp_S : FnS := ⟨(.pair (.agg yy2) (.agg yy2)), (.one yi), wcmp_pre, wcmp⟩
theorem wcmp_ok : SpecOk Tryz.prog 146 (fnSpec wcmp_S) := SpecOk.tr wcmp_S wcmp_t (fn := Tryz.f146) tt_ok sp_wmul_ok mixed (by kernel_rfl) (ItsOk.nil _ _) (fun x => LpsOk.nil) (fun x => (by kernel_rfl)) fun x Q => (by kernel_rfl)
def sp_wcmp : List (Nat × Ev.Spec) := (146, fnSpec wcmp_S) :: sp_wmul
theorem sp_wcmp_ok : SpecsOk Tryz.prog sp_wcmp := SpecsOk.add (fn := Tryz.f146) (by kernel_rfl) wcmp_ok sp_wmul_ok
noncomputable def over (x : I2) : Int :=
 (if ((x.2 == (0 : Int)) = true) then
 (3 : Int) else
 (if ((x.1 == (-9223372036854775808 : Int)) = true) then
 (if ((x.2 == (-1 : Int)) = true) then
 (4 : Int) else
 (0 : Int)) else
 (0 : Int)))
noncomputable def over_pre (_ : I2) : Prop := True
noncomputable def over_t (x : I2) : Tr Int false :=
 (.b00 (x.2 == (0 : Int))
 (.ret (3 : Int))
 (.b00 (x.1 == (-9223372036854775808 : Int))
 (.b00 (x.2 == (-1 : Int))
 (.ret (4 : Int))
 (.ret (0 : Int)))
 (.ret (0 : Int))))
noncomputable abbrev over_S : FnS := ⟨(.pair (.one yi) (.one yi)), (.one yi), over_pre, over⟩
theorem over_ok : SpecOk Tryz.prog 149 (fnSpec over_S) := SpecOk.tr over_S over_t (fn := Tryz.f149) tt_ok sp_wcmp_ok mixed (by kernel_rfl) (ItsOk.nil _ _) (fun x => LpsOk.nil) (fun x => (by kernel_rfl)) fun x Q => (by kernel_rfl)
def sp_over : List (Nat × Ev.Spec) := (149, fnSpec over_S) :: sp_wcmp
theorem sp_over_ok : SpecsOk Tryz.prog sp_over := SpecsOk.add (fn := Tryz.f149) (by kernel_rfl) over_ok sp_wcmp_ok
noncomputable def wfloor (x : I2) : I3 :=
 (letV (over x) fun y =>
 (if ((y != (0 : Int)) = true) then
 ((0 : Int), ((0 : Int), y)) else
 (if (((Int.tmod x.1 x.2) != (0 : Int)) = true) then
 (if ((w64 (((BitVec.toNat ((BitVec.ofInt 64 (Int.tmod x.1 x.2)) ^^^ (BitVec.ofInt 64 x.2))) : Nat) : Int)) < (0 : Int)) then
 ((w64 ((w64 (Int.tdiv x.1 x.2)) - (1 : Int))), ((w64 ((Int.tmod x.1 x.2) + x.2)), (0 : Int))) else
 ((w64 (Int.tdiv x.1 x.2)), ((Int.tmod x.1 x.2), (0 : Int)))) else
 ((w64 (Int.tdiv x.1 x.2)), ((Int.tmod x.1 x.2), (0 : Int))))))
noncomputable def wfloor_pre (x : I2) : Prop :=
 (letP (over x) fun y =>
 (¬ ((y != (0 : Int)) = true) →
 ((x.2 ≠ (0 : Int)) ∧
 (x.2 ≠ (0 : Int)))))
noncomputable def wfloor_t (x : I2) : Tr I3 true :=
 (.fn0 over_S x trivial fun y =>
 (.b01 (y != (0 : Int))
 (.ret ((0 : Int), ((0 : Int), y)))
 (.od (x.2 ≠ (0 : Int))
 (.od (x.2 ≠ (0 : Int))
 (.b00 ((Int.tmod x.1 x.2) != (0 : Int))
 (.i00 ((w64 (((BitVec.toNat ((BitVec.ofInt 64 (Int.tmod x.1 x.2)) ^^^ (BitVec.ofInt 64 x.2))) : Nat) : Int)) < (0 : Int))
 (.ret ((w64 ((w64 (Int.tdiv x.1 x.2)) - (1 : Int))), ((w64 ((Int.tmod x.1 x.2) + x.2)), (0 : Int))))
 (.ret ((w64 (Int.tdiv x.1 x.2)), ((Int.tmod x.1 x.2), (0 : Int)))))
 (.ret ((w64 (Int.tdiv x.1 x.2)), ((Int.tmod x.1 x.2), (0 : Int)))))))))
noncomputable abbrev wfloor_S : FnS := ⟨(.pair (.one yi) (.one yi)), (.pair (.one yi) (.pair (.one yi) (.one yi))), wfloor_pre, wfloor⟩
theorem wfloor_ok : SpecOk Tryz.prog 105 (fnSpec wfloor_S) := SpecOk.tr wfloor_S wfloor_t (fn := Tryz.f105) tt_ok sp_over_ok mixed (by kernel_rfl) (ItsOk.nil _ _) (fun x => LpsOk.nil) (fun x => (by kernel_rfl)) fun x Q => (by kernel_rfl)
def sp_wfloor : List (Nat × Ev.Spec) := (105, fnSpec wfloor_S) :: sp_over
theorem sp_wfloor_ok : SpecsOk Tryz.prog sp_wfloor := SpecsOk.add (fn := Tryz.f105) (by kernel_rfl) wfloor_ok sp_over_ok
noncomputable def floor (x : I2) : Int :=
 (letV (wfloor x) fun y =>
 y.1)
noncomputable def floor_pre (x : I2) : Prop :=
 (wfloor_pre x)
noncomputable def floor_t (x : I2) : Tr Int true :=
 (.fn wfloor_S x fun y =>
 (.ret y.1))
noncomputable abbrev floor_S : FnS := ⟨(.pair (.one yi) (.one yi)), (.one yi), floor_pre, floor⟩
theorem floor_ok : SpecOk Tryz.prog 66 (fnSpec floor_S) := SpecOk.tr floor_S floor_t (fn := Tryz.f66) tt_ok sp_wfloor_ok mixed (by kernel_rfl) (ItsOk.nil _ _) (fun x => LpsOk.nil) (fun x => (by kernel_rfl)) fun x Q => (by kernel_rfl)
def sp_floor : List (Nat × Ev.Spec) := (66, fnSpec floor_S) :: sp_wfloor
theorem sp_floor_ok : SpecsOk Tryz.prog sp_floor := SpecsOk.add (fn := Tryz.f66) (by kernel_rfl) floor_ok sp_wfloor_ok
noncomputable def parea (x : I6) : I2 :=
 (letV (small2 [x.1, x.2.1, x.2.2]) fun y =>
 (if ((!y) = true) then
 ((0 : Int), (5 : Int)) else
 (letV (sub2 (x.2.1, x.1)) fun y_1 =>
 (letV (sub2 (x.2.2, x.1)) fun y_2 =>
 (letV (cross2 (y_1, y_2)) fun y_3 =>
 y_3)))))
noncomputable def parea_pre (x : I6) : Prop :=
 ((small2_pre [x.1, x.2.1, x.2.2]) ∧
 letP (small2 [x.1, x.2.1, x.2.2]) fun y =>
 (¬ ((!y) = true) →
 ((sub2_pre (x.2.1, x.1)) ∧
 letP (sub2 (x.2.1, x.1)) fun y_1 =>
 ((sub2_pre (x.2.2, x.1)) ∧
 letP (sub2 (x.2.2, x.1)) fun y_2 =>
 (cross2_pre (y_1, y_2))))))
noncomputable def parea_t (x : I6) : Tr I2 true :=
 (.fn small2_S [x.1, x.2.1, x.2.2] fun y =>
 (.b01 (!y)
 (.ret ((0 : Int), (5 : Int)))
 (.fn sub2_S (x.2.1, x.1) fun y_1 =>
 (.fn sub2_S (x.2.2, x.1) fun y_2 =>
 (.fn cross2_S (y_1, y_2) fun y_3 =>
 (.ret y_3))))))
noncomputable abbrev parea_S : FnS := ⟨(.agg yy6), (.pair (.one yi) (.one yi)), parea_pre, parea⟩
theorem parea_ok : SpecOk Tryz.prog 140 (fnSpec parea_S) := SpecOk.tr parea_S parea_t (fn := Tryz.f140) tt_ok sp_floor_ok mixed (by kernel_rfl) (ItsOk.nil _ _) (fun x => LpsOk.nil) (fun x => (by kernel_rfl)) fun x Q => (by kernel_rfl)
def sp_parea : List (Nat × Ev.Spec) := (140, fnSpec parea_S) :: sp_floor
theorem sp_parea_ok : SpecsOk Tryz.prog sp_parea := SpecsOk.add (fn := Tryz.f140) (by kernel_rfl) parea_ok sp_floor_ok
noncomputable def sarea (x : I6) : I2 :=
 (letV (parea x) fun y =>
 y)
noncomputable def sarea_pre (x : I6) : Prop :=
 (parea_pre x)
noncomputable def sarea_t (x : I6) : Tr I2 true :=
 (.fn parea_S x fun y =>
 (.ret y))
noncomputable abbrev sarea_S : FnS := ⟨(.pair (.agg yy2) (.pair (.agg yy2) (.agg yy2))), (.pair (.one yi) (.one yi)), sarea_pre, sarea⟩
theorem sarea_ok : SpecOk Tryz.prog 95 (fnSpec sarea_S) := SpecOk.tr sarea_S sarea_t (fn := Tryz.f95) tt_ok sp_parea_ok mixed (by kernel_rfl) (ItsOk.nil _ _) (fun x => LpsOk.nil) (fun x => (by kernel_rfl)) fun x Q => (by kernel_rfl)
def sp_sarea : List (Nat × Ev.Spec) := (95, fnSpec sarea_S) :: sp_parea
theorem sp_sarea_ok : SpecsOk Tryz.prog sp_sarea := SpecsOk.add (fn := Tryz.f95) (by kernel_rfl) sarea_ok sp_parea_ok
noncomputable def sside (x : I6) : I2 :=
 (letV (sarea x) fun y =>
 (letV (compare (y.1, (0 : Int))) fun y_1 =>
 (y_1, y.2)))
noncomputable def sside_pre (x : I6) : Prop :=
 (sarea_pre x)
noncomputable def sside_t (x : I6) : Tr I2 true :=
 (.fn sarea_S x fun y =>
 (.fn0 compare_S (y.1, (0 : Int)) trivial fun y_1 =>
 (.ret (y_1, y.2))))
noncomputable abbrev sside_S : FnS := ⟨(.pair (.agg yy2) (.pair (.agg yy2) (.agg yy2))), (.pair (.one yi) (.one yi)), sside_pre, sside⟩
theorem sside_ok : SpecOk Tryz.prog 104 (fnSpec sside_S) := SpecOk.tr sside_S sside_t (fn := Tryz.f104) tt_ok sp_sarea_ok mixed (by kernel_rfl) (ItsOk.nil _ _) (fun x => LpsOk.nil) (fun x => (by kernel_rfl)) fun x Q => (by kernel_rfl)
def sp_sside : List (Nat × Ev.Spec) := (104, fnSpec sside_S) :: sp_sarea
theorem sp_sside_ok : SpecsOk Tryz.prog sp_sside := SpecsOk.add (fn := Tryz.f104) (by kernel_rfl) sside_ok sp_sarea_ok
noncomputable def mright (x : I6) : Bool :=
 (letV (sarea x) fun y =>
 (if ((y.2 == (0 : Int)) = true) then
 (y.1 != (0 : Int)) else
 false))
noncomputable def mright_pre (x : I6) : Prop :=
 (sarea_pre x)
noncomputable def mright_t (x : I6) : Tr Bool true :=
 (.fn sarea_S x fun y =>
 (.b00 (y.2 == (0 : Int))
 (.ret (y.1 != (0 : Int)))
 (.ret false)))
noncomputable abbrev mright_S : FnS := ⟨(.agg yy6), (.one Ty.bool), mright_pre, mright⟩
theorem mright_ok : SpecOk Tryz.prog 52 (fnSpec mright_S) := SpecOk.tr mright_S mright_t (fn := Tryz.f52) tt_ok sp_sside_ok mixed (by kernel_rfl) (ItsOk.nil _ _) (fun x => LpsOk.nil) (fun x => (by kernel_rfl)) fun x Q => (by kernel_rfl)
def sp_mright : List (Nat × Ev.Spec) := (52, fnSpec mright_S) :: sp_sside
theorem sp_mright_ok : SpecsOk Tryz.prog sp_mright := SpecsOk.add (fn := Tryz.f52) (by kernel_rfl) mright_ok sp_sside_ok
noncomputable def mfew (x : ((List I3) × ((List I2) × ((List I3) × (List I9))))) : Bool :=
 (if ((maxI (maxI (((List.length x.1) : Nat) : Int) (((List.length x.2.1) : Nat) : Int)) (((List.length x.2.2.1) : Nat) : Int)) ≤ (2000 : Int)) then
 (decide ((((List.length x.2.2.2) : Nat) : Int) ≤ (500 : Int))) else
 false)
noncomputable def mfew_pre (_ : ((List I3) × ((List I2) × ((List I3) × (List I9))))) : Prop := True
noncomputable def mfew_t (x : ((List I3) × ((List I2) × ((List I3) × (List I9))))) : Tr Bool false :=
 (.i00 ((maxI (maxI (((List.length x.1) : Nat) : Int) (((List.length x.2.1) : Nat) : Int)) (((List.length x.2.2.1) : Nat) : Int)) ≤ (2000 : Int))
 (.ret (decide ((((List.length x.2.2.2) : Nat) : Int) ≤ (500 : Int))))
 (.ret false))
noncomputable abbrev mfew_S : FnS := ⟨(.agg (Ty.prod (Ty.sl yy3) (Ty.prod (Ty.sl yy2) (Ty.prod (Ty.sl yy3) (Ty.sl yy9))))), (.one Ty.bool), mfew_pre, mfew⟩
theorem mfew_ok : SpecOk Tryz.prog 117 (fnSpec mfew_S) := SpecOk.tr mfew_S mfew_t (fn := Tryz.f117) tt_ok sp_mright_ok mixed (by kernel_rfl) (ItsOk.nil _ _) (fun x => LpsOk.nil) (fun x => (by kernel_rfl)) fun x Q => (by kernel_rfl)
def sp_mfew : List (Nat × Ev.Spec) := (117, fnSpec mfew_S) :: sp_mright
theorem sp_mfew_ok : SpecsOk Tryz.prog sp_mfew := SpecsOk.add (fn := Tryz.f117) (by kernel_rfl) mfew_ok sp_mright_ok
noncomputable def among (x : (Int × (Int × Bool))) : Bool :=
 (if (x.1 ≥ (0 : Int)) then
 (if (x.1 < x.2.1) then
 true else
 (if (x.2.2 = true) then
 (x.1 == (-1 : Int)) else
 false)) else
 (if (x.2.2 = true) then
 (x.1 == (-1 : Int)) else
 false))
noncomputable def among_pre (_ : (Int × (Int × Bool))) : Prop := True
noncomputable def among_t (x : (Int × (Int × Bool))) : Tr Bool false :=
 (.i00 (x.1 ≥ (0 : Int))
 (.i00 (x.1 < x.2.1)
 (.ret true)
 (.b00 x.2.2
 (.ret (x.1 == (-1 : Int)))
 (.ret false)))
 (.b00 x.2.2
 (.ret (x.1 == (-1 : Int)))
 (.ret false)))
noncomputable abbrev among_S : FnS := ⟨(.pair (.one yi) (.pair (.one yi) (.one Ty.bool))), (.one Ty.bool), among_pre, among⟩
theorem among_ok : SpecOk Tryz.prog 120 (fnSpec among_S) := SpecOk.tr among_S among_t (fn := Tryz.f120) tt_ok sp_mfew_ok mixed (by kernel_rfl) (ItsOk.nil _ _) (fun x => LpsOk.nil) (fun x => (by kernel_rfl)) fun x Q => (by kernel_rfl)
def sp_among : List (Nat × Ev.Spec) := (120, fnSpec among_S) :: sp_mfew
theorem sp_among_ok : SpecsOk Tryz.prog sp_among := SpecsOk.add (fn := Tryz.f120) (by kernel_rfl) among_ok sp_mfew_ok
noncomputable def meshis_l0 (x : ((List I3) × ((List I2) × ((List I3) × (List I9))))) : LoopD := ⟨[], ⟨pvs 86 0 [(1, .v (.one (.ptr 0 0))), (29, .v (.one (.full 4))), (30, .v (.one (.i .i64))), (31, .v (.one (.i .i64)))], [.cells [.full 1, .full 2, .full 3, .full 4] 32, .row yy3 0, .row yy2 0, .row yy3 0, .row yy9 0], 0, none, [], [0, 2, 3, 4, 5], [1], [.i], [.i (((List.length x.2.2.2) : Nat) : Int), .l yy3 x.1, .l yy2 x.2.1, .l yy3 x.2.2.1, .l yy9 x.2.2.2]⟩, [⟨.ret, .ret, ⟨pvs 86 0 [(2, .v (.one (.b)))], [], 0, none, [], [0], [], [], [.b false]⟩⟩, ⟨(.exit 0), .normal, ⟨pvs 86 0 [], [], 0, none, [], [], [], [], []⟩⟩]⟩
noncomputable def meshis_l0_step (x : ((List I3) × ((List I2) × ((List I3) × (List I9))))) (s : Int) : Int ⊕ (Unit ⊕ Unit) :=
 (if (s < (((List.length x.2.2.2) : Nat) : Int)) then
 (letV (among ((List.getD x.2.2.2 (Int.toNat s) (((0 : Int), ((0 : Int), (0 : Int))), (((0 : Int), ((0 : Int), (0 : Int))), ((0 : Int), ((0 : Int), (0 : Int)))))).1.1, ((((List.length x.1) : Nat) : Int), false))) fun y =>
 (if ((!y) = true) then
 (Sum.inr (Sum.inl ())) else
 (letV (among ((List.getD x.2.2.2 (Int.toNat s) (((0 : Int), ((0 : Int), (0 : Int))), (((0 : Int), ((0 : Int), (0 : Int))), ((0 : Int), ((0 : Int), (0 : Int)))))).1.2.1, ((((List.length x.2.1) : Nat) : Int), true))) fun y_1 =>
 (if ((!y_1) = true) then
 (Sum.inr (Sum.inl ())) else
 (letV (among ((List.getD x.2.2.2 (Int.toNat s) (((0 : Int), ((0 : Int), (0 : Int))), (((0 : Int), ((0 : Int), (0 : Int))), ((0 : Int), ((0 : Int), (0 : Int)))))).1.2.2, ((((List.length x.2.2.1) : Nat) : Int), true))) fun y_2 =>
 (if ((!y_2) = true) then
 (Sum.inr (Sum.inl ())) else
 (if ((!((decide ((List.getD x.2.2.2 (Int.toNat s) (((0 : Int), ((0 : Int), (0 : Int))), (((0 : Int), ((0 : Int), (0 : Int))), ((0 : Int), ((0 : Int), (0 : Int)))))).1.2.1 < (0 : Int))) == (decide ((List.getD x.2.2.2 (Int.toNat s) (((0 : Int), ((0 : Int), (0 : Int))), (((0 : Int), ((0 : Int), (0 : Int))), ((0 : Int), ((0 : Int), (0 : Int)))))).1.2.1 < (0 : Int))))) = true) then
 (Sum.inr (Sum.inl ())) else
 (if ((!((decide ((List.getD x.2.2.2 (Int.toNat s) (((0 : Int), ((0 : Int), (0 : Int))), (((0 : Int), ((0 : Int), (0 : Int))), ((0 : Int), ((0 : Int), (0 : Int)))))).1.2.2 < (0 : Int))) == (decide ((List.getD x.2.2.2 (Int.toNat s) (((0 : Int), ((0 : Int), (0 : Int))), (((0 : Int), ((0 : Int), (0 : Int))), ((0 : Int), ((0 : Int), (0 : Int)))))).1.2.2 < (0 : Int))))) = true) then
 (Sum.inr (Sum.inl ())) else
 (letV (among ((List.getD x.2.2.2 (Int.toNat s) (((0 : Int), ((0 : Int), (0 : Int))), (((0 : Int), ((0 : Int), (0 : Int))), ((0 : Int), ((0 : Int), (0 : Int)))))).2.1.1, ((((List.length x.1) : Nat) : Int), false))) fun y_3 =>
 (if ((!y_3) = true) then
 (Sum.inr (Sum.inl ())) else
 (letV (among ((List.getD x.2.2.2 (Int.toNat s) (((0 : Int), ((0 : Int), (0 : Int))), (((0 : Int), ((0 : Int), (0 : Int))), ((0 : Int), ((0 : Int), (0 : Int)))))).2.1.2.1, ((((List.length x.2.1) : Nat) : Int), true))) fun y_4 =>
 (if ((!y_4) = true) then
 (Sum.inr (Sum.inl ())) else
 (letV (among ((List.getD x.2.2.2 (Int.toNat s) (((0 : Int), ((0 : Int), (0 : Int))), (((0 : Int), ((0 : Int), (0 : Int))), ((0 : Int), ((0 : Int), (0 : Int)))))).2.1.2.2, ((((List.length x.2.2.1) : Nat) : Int), true))) fun y_5 =>
 (if ((!y_5) = true) then
 (Sum.inr (Sum.inl ())) else
 (if ((!((decide ((List.getD x.2.2.2 (Int.toNat s) (((0 : Int), ((0 : Int), (0 : Int))), (((0 : Int), ((0 : Int), (0 : Int))), ((0 : Int), ((0 : Int), (0 : Int)))))).2.1.2.1 < (0 : Int))) == (decide ((List.getD x.2.2.2 (Int.toNat s) (((0 : Int), ((0 : Int), (0 : Int))), (((0 : Int), ((0 : Int), (0 : Int))), ((0 : Int), ((0 : Int), (0 : Int)))))).1.2.1 < (0 : Int))))) = true) then
 (Sum.inr (Sum.inl ())) else
 (if ((!((decide ((List.getD x.2.2.2 (Int.toNat s) (((0 : Int), ((0 : Int), (0 : Int))), (((0 : Int), ((0 : Int), (0 : Int))), ((0 : Int), ((0 : Int), (0 : Int)))))).2.1.2.2 < (0 : Int))) == (decide ((List.getD x.2.2.2 (Int.toNat s) (((0 : Int), ((0 : Int), (0 : Int))), (((0 : Int), ((0 : Int), (0 : Int))), ((0 : Int), ((0 : Int), (0 : Int)))))).1.2.2 < (0 : Int))))) = true) then
 (Sum.inr (Sum.inl ())) else
 (letV (among ((List.getD x.2.2.2 (Int.toNat s) (((0 : Int), ((0 : Int), (0 : Int))), (((0 : Int), ((0 : Int), (0 : Int))), ((0 : Int), ((0 : Int), (0 : Int)))))).2.2.1, ((((List.length x.1) : Nat) : Int), false))) fun y_6 =>
 (if ((!y_6) = true) then
 (Sum.inr (Sum.inl ())) else
 (letV (among ((List.getD x.2.2.2 (Int.toNat s) (((0 : Int), ((0 : Int), (0 : Int))), (((0 : Int), ((0 : Int), (0 : Int))), ((0 : Int), ((0 : Int), (0 : Int)))))).2.2.2.1, ((((List.length x.2.1) : Nat) : Int), true))) fun y_7 =>
 (if ((!y_7) = true) then
 (Sum.inr (Sum.inl ())) else
 (letV (among ((List.getD x.2.2.2 (Int.toNat s) (((0 : Int), ((0 : Int), (0 : Int))), (((0 : Int), ((0 : Int), (0 : Int))), ((0 : Int), ((0 : Int), (0 : Int)))))).2.2.2.2, ((((List.length x.2.2.1) : Nat) : Int), true))) fun y_8 =>
 (if ((!y_8) = true) then
 (Sum.inr (Sum.inl ())) else
 (if ((!((decide ((List.getD x.2.2.2 (Int.toNat s) (((0 : Int), ((0 : Int), (0 : Int))), (((0 : Int), ((0 : Int), (0 : Int))), ((0 : Int), ((0 : Int), (0 : Int)))))).2.2.2.1 < (0 : Int))) == (decide ((List.getD x.2.2.2 (Int.toNat s) (((0 : Int), ((0 : Int), (0 : Int))), (((0 : Int), ((0 : Int), (0 : Int))), ((0 : Int), ((0 : Int), (0 : Int)))))).1.2.1 < (0 : Int))))) = true) then
 (Sum.inr (Sum.inl ())) else
 (if ((!((decide ((List.getD x.2.2.2 (Int.toNat s) (((0 : Int), ((0 : Int), (0 : Int))), (((0 : Int), ((0 : Int), (0 : Int))), ((0 : Int), ((0 : Int), (0 : Int)))))).2.2.2.2 < (0 : Int))) == (decide ((List.getD x.2.2.2 (Int.toNat s) (((0 : Int), ((0 : Int), (0 : Int))), (((0 : Int), ((0 : Int), (0 : Int))), ((0 : Int), ((0 : Int), (0 : Int)))))).1.2.2 < (0 : Int))))) = true) then
 (Sum.inr (Sum.inl ())) else
 (Sum.inl (w64 (s + (1 : Int)))))))))))))))))))))))))))) else
 (Sum.inr (Sum.inr (()))))
noncomputable def meshis_l0_pre (x : ((List I3) × ((List I2) × ((List I3) × (List I9))))) (s : Int) : Prop :=
 ((s < (((List.length x.2.2.2) : Nat) : Int)) →
 ((((0 : Int) ≤ s) ∧ (s < (((List.length x.2.2.2) : Nat) : Int))) ∧
 (((Int.toNat s) < (List.length x.2.2.2)) ∧
 ((Int.toNat s) < (List.length x.2.2.2)))))
noncomputable def meshis_l0_t (x : ((List I3) × ((List I2) × ((List I3) × (List I9))))) (s : Int) : Tr (Int ⊕ (Unit ⊕ Unit)) true :=
 (.i10 (s < (((List.length x.2.2.2) : Nat) : Int))
 (.oR s (((List.length x.2.2.2) : Nat) : Int)
 (.od ((Int.toNat s) < (List.length x.2.2.2))
 (.od ((Int.toNat s) < (List.length x.2.2.2))
 (.fn0 among_S ((List.getD x.2.2.2 (Int.toNat s) zz9).1.1, ((((List.length x.1) : Nat) : Int), false)) trivial fun y =>
 (.b00 (!y)
 (.ret (.inr (Sum.inl ())))
 (.fn0 among_S ((List.getD x.2.2.2 (Int.toNat s) zz9).1.2.1, ((((List.length x.2.1) : Nat) : Int), true)) trivial fun y_1 =>
 (.b00 (!y_1)
 (.ret (.inr (Sum.inl ())))
 (.fn0 among_S ((List.getD x.2.2.2 (Int.toNat s) zz9).1.2.2, ((((List.length x.2.2.1) : Nat) : Int), true)) trivial fun y_2 =>
 (.b00 (!y_2)
 (.ret (.inr (Sum.inl ())))
 (.b00 (!((decide ((List.getD x.2.2.2 (Int.toNat s) zz9).1.2.1 < (0 : Int))) == (decide ((List.getD x.2.2.2 (Int.toNat s) zz9).1.2.1 < (0 : Int)))))
 (.ret (.inr (Sum.inl ())))
 (.b00 (!((decide ((List.getD x.2.2.2 (Int.toNat s) zz9).1.2.2 < (0 : Int))) == (decide ((List.getD x.2.2.2 (Int.toNat s) zz9).1.2.2 < (0 : Int)))))
 (.ret (.inr (Sum.inl ())))
 (.fn0 among_S ((List.getD x.2.2.2 (Int.toNat s) zz9).2.1.1, ((((List.length x.1) : Nat) : Int), false)) trivial fun y_3 =>
 (.b00 (!y_3)
 (.ret (.inr (Sum.inl ())))
 (.fn0 among_S ((List.getD x.2.2.2 (Int.toNat s) zz9).2.1.2.1, ((((List.length x.2.1) : Nat) : Int), true)) trivial fun y_4 =>
 (.b00 (!y_4)
 (.ret (.inr (Sum.inl ())))
 (.fn0 among_S ((List.getD x.2.2.2 (Int.toNat s) zz9).2.1.2.2, ((((List.length x.2.2.1) : Nat) : Int), true)) trivial fun y_5 =>
 (.b00 (!y_5)
 (.ret (.inr (Sum.inl ())))
 (.b00 (!((decide ((List.getD x.2.2.2 (Int.toNat s) zz9).2.1.2.1 < (0 : Int))) == (decide ((List.getD x.2.2.2 (Int.toNat s) zz9).1.2.1 < (0 : Int)))))
 (.ret (.inr (Sum.inl ())))
 (.b00 (!((decide ((List.getD x.2.2.2 (Int.toNat s) zz9).2.1.2.2 < (0 : Int))) == (decide ((List.getD x.2.2.2 (Int.toNat s) zz9).1.2.2 < (0 : Int)))))
 (.ret (.inr (Sum.inl ())))
 (.fn0 among_S ((List.getD x.2.2.2 (Int.toNat s) zz9).2.2.1, ((((List.length x.1) : Nat) : Int), false)) trivial fun y_6 =>
 (.b00 (!y_6)
 (.ret (.inr (Sum.inl ())))
 (.fn0 among_S ((List.getD x.2.2.2 (Int.toNat s) zz9).2.2.2.1, ((((List.length x.2.1) : Nat) : Int), true)) trivial fun y_7 =>
 (.b00 (!y_7)
 (.ret (.inr (Sum.inl ())))
 (.fn0 among_S ((List.getD x.2.2.2 (Int.toNat s) zz9).2.2.2.2, ((((List.length x.2.2.1) : Nat) : Int), true)) trivial fun y_8 =>
 (.b00 (!y_8)
 (.ret (.inr (Sum.inl ())))
 (.b00 (!((decide ((List.getD x.2.2.2 (Int.toNat s) zz9).2.2.2.1 < (0 : Int))) == (decide ((List.getD x.2.2.2 (Int.toNat s) zz9).1.2.1 < (0 : Int)))))
 (.ret (.inr (Sum.inl ())))
 (.b00 (!((decide ((List.getD x.2.2.2 (Int.toNat s) zz9).2.2.2.2 < (0 : Int))) == (decide ((List.getD x.2.2.2 (Int.toNat s) zz9).1.2.2 < (0 : Int)))))
 (.ret (.inr (Sum.inl ())))
 (.ret (.inl (w64 (s + (1 : Int))))))))))))))))))))))))))))))))
 (.ret (.inr (Sum.inr (())))))
noncomputable def meshis (x : ((List I3) × ((List I2) × ((List I3) × (List I9))))) : Bool :=
 (letV (mfew x) fun y =>
 (if ((!y) = true) then
 false else
 (letV (is3 x.1) fun y_1 =>
 (if ((!y_1) = true) then
 false else
 (letV (is2 x.2.1) fun y_2 =>
 (if ((!y_2) = true) then
 false else
 (letV (is3 x.2.2.1) fun y_3 =>
 (if ((!y_3) = true) then
 false else
 (letV (run (meshis_l0_step x) (0 : Int)) fun r =>
 (Sum.elim (fun a =>
 false) (fun b =>
 true) r))))))))))
noncomputable def meshis_pre (x : ((List I3) × ((List I2) × ((List I3) × (List I9))))) : Prop :=
 (letP (mfew x) fun y =>
 (¬ ((!y) = true) →
 ((is3_pre x.1) ∧
 letP (is3 x.1) fun y_1 =>
 (¬ ((!y_1) = true) →
 ((is2_pre x.2.1) ∧
 letP (is2 x.2.1) fun y_2 =>
 (¬ ((!y_2) = true) →
 ((is3_pre x.2.2.1) ∧
 letP (is3 x.2.2.1) fun y_3 =>
 (¬ ((!y_3) = true) →
 (Term (meshis_l0_step x) (meshis_l0_pre x) (0 : Int))))))))))
noncomputable def meshis_t (x : ((List I3) × ((List I2) × ((List I3) × (List I9))))) : Tr Bool true :=
 (.fn0 mfew_S x trivial fun y =>
 (.b01 (!y)
 (.ret false)
 (.fn is3_S x.1 fun y_1 =>
 (.b01 (!y_1)
 (.ret false)
 (.fn is2_S x.2.1 fun y_2 =>
 (.b01 (!y_2)
 (.ret false)
 (.fn is3_S x.2.2.1 fun y_3 =>
 (.b01 (!y_3)
 (.ret false)
 (LoopD.lp (meshis_l0 x) (meshis_l0_t x) (0 : Int) fun r =>
 (.s00 r (fun a =>
 (.ret false)) (fun b =>
 (.ret true))))))))))))
noncomputable abbrev meshis_S : FnS := ⟨(.agg (Ty.prod (Ty.sl yy3) (Ty.prod (Ty.sl yy2) (Ty.prod (Ty.sl yy3) (Ty.sl yy9))))), (.one Ty.bool), meshis_pre, meshis⟩
theorem meshis_ok : SpecOk Tryz.prog 76 (fnSpec meshis_S) := SpecOk.tr meshis_S meshis_t (fn := Tryz.f76) tt_ok sp_among_ok mixed (by kernel_rfl) (ItsOk.nil _ _) (fun x => (LpsOk.tr tt_ok (SpecsOk.ctxI sp_among_ok (ItsOk.nil _ _)) mixed 0 (meshis_l0 x) (meshis_l0_t x) (LpsOk.unrollT tt_ok (SpecsOk.ctxI sp_among_ok (ItsOk.nil _ _)) mixed 2 4 LpsOk.nil (by kernel_rfl)) (by kernel_rfl) fun g s Q => (by kernel_rfl))) (fun x => (by kernel_rfl)) fun x Q => (by kernel_rfl)
def sp_meshis : List (Nat × Ev.Spec) := (76, fnSpec meshis_S) :: sp_among
theorem sp_meshis_ok : SpecsOk Tryz.prog sp_meshis := SpecsOk.add (fn := Tryz.f76) (by kernel_rfl) meshis_ok sp_among_ok
noncomputable def far (x : I3) : Bool :=
 (if ((maxI (maxI x.1 x.2.1) x.2.2) > (4096 : Int)) then
 true else
 (decide ((minI (minI x.1 x.2.1) x.2.2) < (-4096 : Int))))
noncomputable def far_pre (_ : I3) : Prop := True
noncomputable def far_t (x : I3) : Tr Bool false :=
 (.i00 ((maxI (maxI x.1 x.2.1) x.2.2) > (4096 : Int))
 (.ret true)
 (.ret (decide ((minI (minI x.1 x.2.1) x.2.2) < (-4096 : Int)))))
noncomputable abbrev far_S : FnS := ⟨(.agg yy3), (.one Ty.bool), far_pre, far⟩
theorem far_ok : SpecOk Tryz.prog 78 (fnSpec far_S) := SpecOk.tr far_S far_t (fn := Tryz.f78) tt_ok sp_meshis_ok mixed (by kernel_rfl) (ItsOk.nil _ _) (fun x => LpsOk.nil) (fun x => (by kernel_rfl)) fun x Q => (by kernel_rfl)
def sp_far : List (Nat × Ev.Spec) := (78, fnSpec far_S) :: sp_meshis
theorem sp_far_ok : SpecsOk Tryz.prog sp_far := SpecsOk.add (fn := Tryz.f78) (by kernel_rfl) far_ok sp_meshis_ok
noncomputable def fsize (x : Int) : I2 :=
 (if (x < (0 : Int)) then
 ((0 : Int), (5 : Int)) else
 (if (x > (4096 : Int)) then
 ((0 : Int), (5 : Int)) else
 ((w64 ((w64 (Int.tdiv x (16 : Int))) + (1 : Int))), (0 : Int))))
noncomputable def fsize_pre (_ : Int) : Prop := True
noncomputable def fsize_t (x : Int) : Tr I2 false :=
 (.i00 (x < (0 : Int))
 (.ret ((0 : Int), (5 : Int)))
 (.i00 (x > (4096 : Int))
 (.ret ((0 : Int), (5 : Int)))
 (.ret ((w64 ((w64 (Int.tdiv x (16 : Int))) + (1 : Int))), (0 : Int)))))
noncomputable abbrev fsize_S : FnS := ⟨(.one yi), (.pair (.one yi) (.one yi)), fsize_pre, fsize⟩
theorem fsize_ok : SpecOk Tryz.prog 171 (fnSpec fsize_S) := SpecOk.tr fsize_S fsize_t (fn := Tryz.f171) tt_ok sp_far_ok mixed (by kernel_rfl) (ItsOk.nil _ _) (fun x => LpsOk.nil) (fun x => (by kernel_rfl)) fun x Q => (by kernel_rfl)
def sp_fsize : List (Nat × Ev.Spec) := (171, fnSpec fsize_S) :: sp_far
theorem sp_fsize_ok : SpecsOk Tryz.prog sp_fsize := SpecsOk.add (fn := Tryz.f171) (by kernel_rfl) fsize_ok sp_far_ok
noncomputable def fsizes (x : I2) : I2 :=
 (letV (fsize x.1) fun y =>
 (letV (fsize x.2) fun y_1 =>
 (y.1, y_1.1)))
noncomputable def fsizes_pre (_ : I2) : Prop := True
noncomputable def fsizes_t (x : I2) : Tr I2 false :=
 (.fn0 fsize_S x.1 trivial fun y =>
 (.fn0 fsize_S x.2 trivial fun y_1 =>
 (.ret (y.1, y_1.1))))
noncomputable abbrev fsizes_S : FnS := ⟨(.agg yy2), (.pair (.one yi) (.one yi)), fsizes_pre, fsizes⟩
theorem fsizes_ok : SpecOk Tryz.prog 135 (fnSpec fsizes_S) := SpecOk.tr fsizes_S fsizes_t (fn := Tryz.f135) tt_ok sp_fsize_ok mixed (by kernel_rfl) (ItsOk.nil _ _) (fun x => LpsOk.nil) (fun x => (by kernel_rfl)) fun x Q => (by kernel_rfl)
def sp_fsizes : List (Nat × Ev.Spec) := (135, fnSpec fsizes_S) :: sp_fsize
theorem sp_fsizes_ok : SpecsOk Tryz.prog sp_fsizes := SpecsOk.add (fn := Tryz.f135) (by kernel_rfl) fsizes_ok sp_fsize_ok
end Go.Proofs.YtfgdjlhilladhaaGreat
