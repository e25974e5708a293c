/- Models of seam's functions. -/
import Derived.Test.YtojielnkfeoccaaGreatEvR
import Derived.Test.YtojielnkfeoccaaGreatTt
namespace Go.Proofs.YtojielnkfeoccaaGreat
open Go Go.Ev Go.Proofs
set_option linter.unusedVariables false
noncomputable def within_l0 (x : (Int × (List Int))) : LoopD := ⟨[], ⟨pvs 23 0 [(0, .v (.one (.i .i64))), (7, .v (.one (.full 0))), (8, .v (.one (.i .i64))), (9, .v (.one (.i .i64)))], [.row yi 0], 0, none, [], [0, 1, 3], [2], [.i], [.i x.1, .i (((List.length x.2) : Nat) : Int), .l yi x.2]⟩, [⟨.ret, .ret, ⟨pvs 23 0 [(4, .v (.one (.b)))], [], 0, none, [], [0], [], [], [.b false]⟩⟩, ⟨(.exit 0), .normal, ⟨pvs 23 0 [], [], 0, none, [], [], [], [], []⟩⟩]⟩
noncomputable def within_l0_step (x : (Int × (List Int))) (s : Int) : Int ⊕ (Unit ⊕ Unit) :=
 (if (s < (((List.length x.2) : Nat) : Int)) then
 (if ((List.getD x.2 (Int.toNat s) (0 : Int)) < (w64 ((0 : Int) - x.1))) then
 (Sum.inr (Sum.inl ())) else
 (if ((List.getD x.2 (Int.toNat s) (0 : Int)) > x.1) then
 (Sum.inr (Sum.inl ())) else
 (Sum.inl (w64 (s + (1 : Int)))))) else
 (Sum.inr (Sum.inr (()))))
noncomputable def within_l0_pre (x : (Int × (List Int))) (s : Int) : Prop :=
 ((s < (((List.length x.2) : Nat) : Int)) →
 ((((0 : Int) ≤ s) ∧ (s < (((List.length x.2) : Nat) : Int))) ∧
 (((Int.toNat s) < (List.length x.2)) ∧
 ((Int.toNat s) < (List.length x.2)))))
noncomputable def within_l0_t (x : (Int × (List Int))) (s : Int) : Tr (Int ⊕ (Unit ⊕ Unit)) true :=
 (.i10 (s < (((List.length x.2) : Nat) : Int))
 (.oR s (((List.length x.2) : Nat) : Int)
 (.od ((Int.toNat s) < (List.length x.2))
 (.od ((Int.toNat s) < (List.length x.2))
 (.i00 ((List.getD x.2 (Int.toNat s) (0 : Int)) < (w64 ((0 : Int) - x.1)))
 (.ret (.inr (Sum.inl ())))
 (.i00 ((List.getD x.2 (Int.toNat s) (0 : Int)) > x.1)
 (.ret (.inr (Sum.inl ())))
 (.ret (.inl (w64 (s + (1 : Int))))))))))
 (.ret (.inr (Sum.inr (())))))
noncomputable def within (x : (Int × (List Int))) : Bool :=
 (letV (run (within_l0_step x) (0 : Int)) fun r =>
 (Sum.elim (fun a =>
 false) (fun b =>
 true) r))
noncomputable def within_pre (x : (Int × (List Int))) : Prop :=
 (Term (within_l0_step x) (within_l0_pre x) (0 : Int))
noncomputable def within_t (x : (Int × (List Int))) : Tr Bool true :=
 (LoopD.lp (within_l0 x) (within_l0_t x) (0 : Int) fun r =>
 (.s00 r (fun a =>
 (.ret false)) (fun b =>
 (.ret true))))
noncomputable abbrev within_S : FnS := ⟨(.pair (.one yi) (.one (Ty.sl yi))), (.one Ty.bool), within_pre, within⟩
theorem within_ok : SpecOk Tryz.prog 43 (fnSpec within_S) := SpecOk.tr within_S within_t (fn := Tryz.f43) tt_ok (SpecsOk.nil _) mixed (by kernel_rfl) (ItsOk.nil _ _) (fun x => (LpsOk.tr tt_ok (SpecsOk.ctxI (SpecsOk.nil _) (ItsOk.nil _ _)) mixed 0 (within_l0 x) (within_l0_t x) LpsOk.nil (by kernel_rfl) fun g s Q => (by kernel_rfl))) (fun x => (by kernel_rfl)) fun x Q => (by kernel_rfl)
def sp_within : List (Nat × Ev.Spec) := (43, fnSpec within_S) :: []
theorem sp_within_ok : SpecsOk Tryz.prog sp_within := SpecsOk.add (fn := Tryz.f43) (by kernel_rfl) within_ok (SpecsOk.nil _)
noncomputable def small2_l0 (x : (List I2)) : LoopD := ⟨[], ⟨pvs 19 0 [(5, .v (.one (.full 0))), (6, .v (.one (.i .i64))), (7, .v (.one (.i .i64)))], [.row yy2 0], 0, none, [], [0, 2], [1], [.i], [.i (((List.length x) : Nat) : Int), .l yy2 x]⟩, [⟨.ret, .ret, ⟨pvs 19 0 [(2, .v (.one (.b)))], [], 0, none, [], [0], [], [], [.b false]⟩⟩, ⟨(.exit 0), .normal, ⟨pvs 19 0 [], [], 0, none, [], [], [], [], []⟩⟩]⟩
noncomputable def small2_l0_step (x : (List I2)) (s : Int) : Int ⊕ (Unit ⊕ Unit) :=
 (if (s < (((List.length x) : Nat) : Int)) then
 (letV (within ((4096 : Int), [(List.getD x (Int.toNat s) ((0 : Int), (0 : Int))).1, (List.getD x (Int.toNat s) ((0 : Int), (0 : Int))).2])) fun y =>
 (if ((!y) = true) then
 (Sum.inr (Sum.inl ())) else
 (Sum.inl (w64 (s + (1 : Int)))))) else
 (Sum.inr (Sum.inr (()))))
noncomputable def small2_l0_pre (x : (List I2)) (s : Int) : Prop :=
 ((s < (((List.length x) : Nat) : Int)) →
 ((((0 : Int) ≤ s) ∧ (s < (((List.length x) : Nat) : Int))) ∧
 (((Int.toNat s) < (List.length x)) ∧
 (((Int.toNat s) < (List.length x)) ∧
 (within_pre ((4096 : Int), [(List.getD x (Int.toNat s) ((0 : Int), (0 : Int))).1, (List.getD x (Int.toNat s) ((0 : Int), (0 : Int))).2]))))))
noncomputable def small2_l0_t (x : (List I2)) (s : Int) : Tr (Int ⊕ (Unit ⊕ Unit)) true :=
 (.i10 (s < (((List.length x) : Nat) : Int))
 (.oR s (((List.length x) : Nat) : Int)
 (.od ((Int.toNat s) < (List.length x))
 (.od ((Int.toNat s) < (List.length x))
 (.fn within_S ((4096 : Int), [(List.getD x (Int.toNat s) zz2).1, (List.getD x (Int.toNat s) zz2).2]) fun y =>
 (.b00 (!y)
 (.ret (.inr (Sum.inl ())))
 (.ret (.inl (w64 (s + (1 : Int))))))))))
 (.ret (.inr (Sum.inr (())))))
noncomputable def small2 (x : (List I2)) : Bool :=
 (letV (run (small2_l0_step x) (0 : Int)) fun r =>
 (Sum.elim (fun a =>
 false) (fun b =>
 true) r))
noncomputable def small2_pre (x : (List I2)) : Prop :=
 (Term (small2_l0_step x) (small2_l0_pre x) (0 : Int))
noncomputable def small2_t (x : (List I2)) : Tr Bool true :=
 (LoopD.lp (small2_l0 x) (small2_l0_t x) (0 : Int) fun r =>
 (.s00 r (fun a =>
 (.ret false)) (fun b =>
 (.ret true))))
noncomputable abbrev small2_S : FnS := ⟨(.one (Ty.sl yy2)), (.one Ty.bool), small2_pre, small2⟩
theorem small2_ok : SpecOk Tryz.prog 21 (fnSpec small2_S) := SpecOk.tr small2_S small2_t (fn := Tryz.f21) tt_ok sp_within_ok mixed (by kernel_rfl) (ItsOk.nil _ _) (fun x => (LpsOk.tr tt_ok (SpecsOk.ctxI sp_within_ok (ItsOk.nil _ _)) mixed 0 (small2_l0 x) (small2_l0_t x) LpsOk.nil (by kernel_rfl) fun g s Q => (by kernel_rfl))) (fun x => (by kernel_rfl)) fun x Q => (by kernel_rfl)
def sp_small2 : List (Nat × Ev.Spec) := (21, fnSpec small2_S) :: sp_within
theorem sp_small2_ok : SpecsOk Tryz.prog sp_small2 := SpecsOk.add (fn := Tryz.f21) (by kernel_rfl) small2_ok sp_within_ok
noncomputable def over (x : I2) : Int :=
 (if ((x.2 == (0 : Int)) = true) then
 (3 : Int) else
 (if ((x.1 == (-9223372036854775808 : Int)) = true) then
 (if ((x.2 == (-1 : Int)) = true) then
 (4 : Int) else
 (0 : Int)) else
 (0 : Int)))
noncomputable def over_pre (_ : I2) : Prop := True
noncomputable def over_t (x : I2) : Tr Int false :=
 (.b00 (x.2 == (0 : Int))
 (.ret (3 : Int))
 (.b00 (x.1 == (-9223372036854775808 : Int))
 (.b00 (x.2 == (-1 : Int))
 (.ret (4 : Int))
 (.ret (0 : Int)))
 (.ret (0 : Int))))
noncomputable abbrev over_S : FnS := ⟨(.pair (.one yi) (.one yi)), (.one yi), over_pre, over⟩
theorem over_ok : SpecOk Tryz.prog 44 (fnSpec over_S) := SpecOk.tr over_S over_t (fn := Tryz.f44) tt_ok sp_small2_ok mixed (by kernel_rfl) (ItsOk.nil _ _) (fun x => LpsOk.nil) (fun x => (by kernel_rfl)) fun x Q => (by kernel_rfl)
def sp_over : List (Nat × Ev.Spec) := (44, fnSpec over_S) :: sp_small2
theorem sp_over_ok : SpecsOk Tryz.prog sp_over := SpecsOk.add (fn := Tryz.f44) (by kernel_rfl) over_ok sp_small2_ok
noncomputable def wfloor (x : I2) : I3 :=
 (letV (over x) fun y =>
 (if ((y != (0 : Int)) = true) then
 ((0 : Int), ((0 : Int), y)) else
 (if (((Int.tmod x.1 x.2) != (0 : Int)) = true) then
 (if ((w64 (((BitVec.toNat ((BitVec.ofInt 64 (Int.tmod x.1 x.2)) ^^^ (BitVec.ofInt 64 x.2))) : Nat) : Int)) < (0 : Int)) then
 ((w64 ((w64 (Int.tdiv x.1 x.2)) - (1 : Int))), ((w64 ((Int.tmod x.1 x.2) + x.2)), (0 : Int))) else
 ((w64 (Int.tdiv x.1 x.2)), ((Int.tmod x.1 x.2), (0 : Int)))) else
 ((w64 (Int.tdiv x.1 x.2)), ((Int.tmod x.1 x.2), (0 : Int))))))
noncomputable def wfloor_pre (x : I2) : Prop :=
 (letP (over x) fun y =>
 (¬ ((y != (0 : Int)) = true) →
 ((x.2 ≠ (0 : Int)) ∧
 (x.2 ≠ (0 : Int)))))
noncomputable def wfloor_t (x : I2) : Tr I3 true :=
 (.fn0 over_S x trivial fun y =>
 (.b01 (y != (0 : Int))
 (.ret ((0 : Int), ((0 : Int), y)))
 (.od (x.2 ≠ (0 : Int))
 (.od (x.2 ≠ (0 : Int))
 (.b00 ((Int.tmod x.1 x.2) != (0 : Int))
 (.i00 ((w64 (((BitVec.toNat ((BitVec.ofInt 64 (Int.tmod x.1 x.2)) ^^^ (BitVec.ofInt 64 x.2))) : Nat) : Int)) < (0 : Int))
 (.ret ((w64 ((w64 (Int.tdiv x.1 x.2)) - (1 : Int))), ((w64 ((Int.tmod x.1 x.2) + x.2)), (0 : Int))))
 (.ret ((w64 (Int.tdiv x.1 x.2)), ((Int.tmod x.1 x.2), (0 : Int)))))
 (.ret ((w64 (Int.tdiv x.1 x.2)), ((Int.tmod x.1 x.2), (0 : Int)))))))))
noncomputable abbrev wfloor_S : FnS := ⟨(.pair (.one yi) (.one yi)), (.pair (.one yi) (.pair (.one yi) (.one yi))), wfloor_pre, wfloor⟩
theorem wfloor_ok : SpecOk Tryz.prog 22 (fnSpec wfloor_S) := SpecOk.tr wfloor_S wfloor_t (fn := Tryz.f22) tt_ok sp_over_ok mixed (by kernel_rfl) (ItsOk.nil _ _) (fun x => LpsOk.nil) (fun x => (by kernel_rfl)) fun x Q => (by kernel_rfl)
def sp_wfloor : List (Nat × Ev.Spec) := (22, fnSpec wfloor_S) :: sp_over
theorem sp_wfloor_ok : SpecsOk Tryz.prog sp_wfloor := SpecsOk.add (fn := Tryz.f22) (by kernel_rfl) wfloor_ok sp_over_ok
noncomputable def along (x : (I2 × (I2 × Int))) : (I2 × Int) :=
 (letV (small2 [x.1, x.2.1]) fun y =>
 (if ((!y) = true) then
 (((0 : Int), (0 : Int)), (5 : Int)) else
 (if (x.2.2 < (0 : Int)) then
 (((0 : Int), (0 : Int)), (5 : Int)) else
 (if (x.2.2 > (8 : Int)) then
 (((0 : Int), (0 : Int)), (5 : Int)) else
 (letV (wfloor ((w64 ((w64 (x.2.1.1 - x.1.1)) * x.2.2)), (8 : Int))) fun y_1 =>
 (letV (wfloor ((w64 ((w64 (x.2.1.2 - x.1.2)) * x.2.2)), (8 : Int))) fun y_2 =>
 (((w64 (x.1.1 + y_1.1)), (w64 (x.1.2 + y_2.1))), (0 : Int))))))))
noncomputable def along_pre (x : (I2 × (I2 × Int))) : Prop :=
 ((small2_pre [x.1, x.2.1]) ∧
 letP (small2 [x.1, x.2.1]) fun y =>
 (¬ ((!y) = true) →
 (¬ (x.2.2 < (0 : Int)) →
 (¬ (x.2.2 > (8 : Int)) →
 ((wfloor_pre ((w64 ((w64 (x.2.1.1 - x.1.1)) * x.2.2)), (8 : Int))) ∧
 letP (wfloor ((w64 ((w64 (x.2.1.1 - x.1.1)) * x.2.2)), (8 : Int))) fun y_1 =>
 (wfloor_pre ((w64 ((w64 (x.2.1.2 - x.1.2)) * x.2.2)), (8 : Int))))))))
noncomputable def along_t (x : (I2 × (I2 × Int))) : Tr (I2 × Int) true :=
 (.fn small2_S [x.1, x.2.1] fun y =>
 (.b01 (!y)
 (.ret (zz2, (5 : Int)))
 (.i01 (x.2.2 < (0 : Int))
 (.ret (zz2, (5 : Int)))
 (.i01 (x.2.2 > (8 : Int))
 (.ret (zz2, (5 : Int)))
 (.fn wfloor_S ((w64 ((w64 (x.2.1.1 - x.1.1)) * x.2.2)), (8 : Int)) fun y_1 =>
 (.fn wfloor_S ((w64 ((w64 (x.2.1.2 - x.1.2)) * x.2.2)), (8 : Int)) fun y_2 =>
 (.ret (((w64 (x.1.1 + y_1.1)), (w64 (x.1.2 + y_2.1))), (0 : Int)))))))))
noncomputable abbrev along_S : FnS := ⟨(.pair (.agg yy2) (.pair (.agg yy2) (.one yi))), (.pair (.agg yy2) (.one yi)), along_pre, along⟩
theorem along_ok : SpecOk Tryz.prog 10 (fnSpec along_S) := SpecOk.tr along_S along_t (fn := Tryz.f10) tt_ok sp_wfloor_ok mixed (by kernel_rfl) (ItsOk.nil _ _) (fun x => LpsOk.nil) (fun x => (by kernel_rfl)) fun x Q => (by kernel_rfl)
def sp_along : List (Nat × Ev.Spec) := (10, fnSpec along_S) :: sp_wfloor
theorem sp_along_ok : SpecsOk Tryz.prog sp_along := SpecsOk.add (fn := Tryz.f10) (by kernel_rfl) along_ok sp_wfloor_ok
noncomputable def lodd (x : Int) : Bool :=
 (if (x < (-1 : Int)) then
 true else
 (decide (x > (255 : Int))))
noncomputable def lodd_pre (_ : Int) : Prop := True
noncomputable def lodd_t (x : Int) : Tr Bool false :=
 (.i00 (x < (-1 : Int))
 (.ret true)
 (.ret (decide (x > (255 : Int)))))
noncomputable abbrev lodd_S : FnS := ⟨(.one yi), (.one Ty.bool), lodd_pre, lodd⟩
theorem lodd_ok : SpecOk Tryz.prog 15 (fnSpec lodd_S) := SpecOk.tr lodd_S lodd_t (fn := Tryz.f15) tt_ok sp_along_ok mixed (by kernel_rfl) (ItsOk.nil _ _) (fun x => LpsOk.nil) (fun x => (by kernel_rfl)) fun x Q => (by kernel_rfl)
def sp_lodd : List (Nat × Ev.Spec) := (15, fnSpec lodd_S) :: sp_along
theorem sp_lodd_ok : SpecsOk Tryz.prog sp_lodd := SpecsOk.add (fn := Tryz.f15) (by kernel_rfl) lodd_ok sp_along_ok
noncomputable def indexL_l0 (x : ((List Int) × Bool)) : LoopD := ⟨[], ⟨pvs 19 0 [(0, .v (.one (.full 0))), (1, .v (.one (.clo 15 0 []))), (7, .v (.one (.i .i64))), (8, .v (.one (.i .i64)))], [.row yi 0], 0, none, [], [0, 2], [1], [.i], [.i (((List.length x.1) : Nat) : Int), .l yi x.1]⟩, [⟨.ret, .ret, ⟨pvs 19 0 [(4, .v (.one (.i .i64)))], [], 0, none, [], [], [0], [.i], []⟩⟩, ⟨(.exit 0), .normal, ⟨pvs 19 0 [], [], 0, none, [], [], [], [], []⟩⟩]⟩
noncomputable def indexL_l0_step (x : ((List Int) × Bool)) (s : Int) : Int ⊕ (Int ⊕ Unit) :=
 (if (s < (((List.length x.1) : Nat) : Int)) then
 (letV (lodd (List.getD x.1 (Int.toNat s) (0 : Int))) fun y =>
 (if (y = true) then
 (Sum.inr (Sum.inl s)) else
 (Sum.inl (w64 (s + (1 : Int)))))) else
 (Sum.inr (Sum.inr (()))))
noncomputable def indexL_l0_pre (x : ((List Int) × Bool)) (s : Int) : Prop :=
 ((s < (((List.length x.1) : Nat) : Int)) →
 ((((0 : Int) ≤ s) ∧ (s < (((List.length x.1) : Nat) : Int))) ∧
 (((Int.toNat s) < (List.length x.1)) ∧
 ((Int.toNat s) < (List.length x.1)))))
noncomputable def indexL_l0_t (x : ((List Int) × Bool)) (s : Int) : Tr (Int ⊕ (Int ⊕ Unit)) true :=
 (.i10 (s < (((List.length x.1) : Nat) : Int))
 (.oR s (((List.length x.1) : Nat) : Int)
 (.od ((Int.toNat s) < (List.length x.1))
 (.od ((Int.toNat s) < (List.length x.1))
 (.fn0 lodd_S (List.getD x.1 (Int.toNat s) (0 : Int)) trivial fun y =>
 (.b00 y
 (.ret (.inr (Sum.inl s)))
 (.ret (.inl (w64 (s + (1 : Int))))))))))
 (.ret (.inr (Sum.inr (())))))
noncomputable def indexL (x : ((List Int) × Bool)) : Int :=
 (letV (run (indexL_l0_step x) (0 : Int)) fun r =>
 (Sum.elim (fun a =>
 a) (fun b =>
 (-1 : Int)) r))
noncomputable def indexL_pre (x : ((List Int) × Bool)) : Prop :=
 (Term (indexL_l0_step x) (indexL_l0_pre x) (0 : Int))
noncomputable def indexL_t (x : ((List Int) × Bool)) : Tr Int true :=
 (LoopD.lp (indexL_l0 x) (indexL_l0_t x) (0 : Int) fun r =>
 (.s00 r (fun a =>
 (.ret a)) (fun b =>
 (.ret (-1 : Int)))))
noncomputable abbrev indexL_S : FnS := ⟨(.pair (.one (Ty.sl yi)) (.clo 15 .none)), (.one yi), indexL_pre, indexL⟩
theorem indexL_ok : SpecOk Tryz.prog 38 (fnSpec indexL_S) := SpecOk.tr indexL_S indexL_t (fn := Tryz.f38) tt_ok sp_lodd_ok mixed (by kernel_rfl) (ItsOk.nil _ _) (fun x => (LpsOk.tr tt_ok (SpecsOk.ctxI sp_lodd_ok (ItsOk.nil _ _)) mixed 0 (indexL_l0 x) (indexL_l0_t x) LpsOk.nil (by kernel_rfl) fun g s Q => (by kernel_rfl))) (fun x => (by kernel_rfl)) fun x Q => (by kernel_rfl)
def sp_indexL : List (Nat × Ev.Spec) := (38, fnSpec indexL_S) :: sp_lodd
theorem sp_indexL_ok : SpecsOk Tryz.prog sp_indexL := SpecsOk.add (fn := Tryz.f38) (by kernel_rfl) indexL_ok sp_lodd_ok
noncomputable def containsL (x : ((List Int) × Bool)) : Bool :=
 (letV (indexL (x.1, false)) fun y =>
 (decide (y ≥ (0 : Int))))
noncomputable def containsL_pre (x : ((List Int) × Bool)) : Prop :=
 (indexL_pre (x.1, false))
noncomputable def containsL_t (x : ((List Int) × Bool)) : Tr Bool true :=
 (.fn indexL_S (x.1, false) fun y =>
 (.ret (decide (y ≥ (0 : Int)))))
noncomputable abbrev containsL_S : FnS := ⟨(.pair (.one (Ty.sl yi)) (.clo 15 .none)), (.one Ty.bool), containsL_pre, containsL⟩
theorem containsL_ok : SpecOk Tryz.prog 16 (fnSpec containsL_S) := SpecOk.tr containsL_S containsL_t (fn := Tryz.f16) tt_ok sp_indexL_ok mixed (by kernel_rfl) (ItsOk.nil _ _) (fun x => LpsOk.nil) (fun x => (by kernel_rfl)) fun x Q => (by kernel_rfl)
def sp_containsL : List (Nat × Ev.Spec) := (16, fnSpec containsL_S) :: sp_indexL
theorem sp_containsL_ok : SpecsOk Tryz.prog sp_containsL := SpecsOk.add (fn := Tryz.f16) (by kernel_rfl) containsL_ok sp_indexL_ok
noncomputable def cloneI_i : ItsB Tryz.prog := ⟨_, (ItsOk.dead 19 (fn := Tryz.f19) (by kernel_rfl))⟩
noncomputable def cloneI (x : (List Int)) : (List Int) :=
 x
noncomputable def cloneI_pre (x : (List Int)) : Prop :=
 (∀ b : Bool, ((0 < (List.length x)) → (b = false)) → (((if (b = true) then
 [] else
 x) = x) ∧ (¬ (b = true) →
 ((0 + (List.length x)) < 1099511627776))))
noncomputable def cloneI_t (x : (List Int)) : Tr (List Int) true :=
 (.nil (fun b => ((0 < (List.length x)) → (b = false))) fun b =>
 (.b01 b
 (.ret [])
 (.od ((0 + (List.length x)) < 1099511627776)
 (.ret x))))
noncomputable abbrev cloneI_S : FnS := ⟨(.one (Ty.sl yi)), (.one (Ty.sl yi)), cloneI_pre, cloneI⟩
theorem cloneI_ok : SpecOk Tryz.prog 19 (fnSpec cloneI_S) := SpecOk.tr cloneI_S cloneI_t (fn := Tryz.f19) tt_ok sp_containsL_ok mixed (by kernel_rfl) cloneI_i.ok (fun x => LpsOk.nil) (fun x => (by kernel_rfl)) fun x Q => (by kernel_rfl)
def sp_cloneI : List (Nat × Ev.Spec) := (19, fnSpec cloneI_S) :: sp_containsL
theorem sp_cloneI_ok : SpecsOk Tryz.prog sp_cloneI := SpecsOk.add (fn := Tryz.f19) (by kernel_rfl) cloneI_ok sp_containsL_ok
noncomputable def lin (x : (I2 × (Int × (List Int)))) : Bool :=
 (if ((minI x.1.1 x.1.2) ≥ (0 : Int)) then
 (if (x.1.1 < x.2.1) then
 (decide (x.1.2 < (w64 (Int.tdiv (((List.length x.2.2) : Nat) : Int) x.2.1)))) else
 false) else
 false)
noncomputable def lin_pre (x : (I2 × (Int × (List Int)))) : Prop :=
 (((minI x.1.1 x.1.2) ≥ (0 : Int)) →
 ((x.1.1 < x.2.1) →
 (x.2.1 ≠ (0 : Int))))
noncomputable def lin_t (x : (I2 × (Int × (List Int)))) : Tr Bool true :=
 (.i10 ((minI x.1.1 x.1.2) ≥ (0 : Int))
 (.i10 (x.1.1 < x.2.1)
 (.od (x.2.1 ≠ (0 : Int))
 (.ret (decide (x.1.2 < (w64 (Int.tdiv (((List.length x.2.2) : Nat) : Int) x.2.1))))))
 (.ret false))
 (.ret false))
noncomputable abbrev lin_S : FnS := ⟨(.pair (.agg yy2) (.pair (.ptr (.int .i64)) (.ptr (.sl (.int .i64))))), (.one Ty.bool), lin_pre, lin⟩
theorem lin_ok : SpecOk Tryz.prog 17 (fnSpec lin_S) := SpecOk.tr lin_S lin_t (fn := Tryz.f17) tt_ok sp_cloneI_ok mixed (by kernel_rfl) (ItsOk.nil _ _) (fun x => LpsOk.nil) (fun x => (by kernel_rfl)) fun x Q => (by kernel_rfl)
def sp_lin : List (Nat × Ev.Spec) := (17, fnSpec lin_S) :: sp_cloneI
theorem sp_lin_ok : SpecsOk Tryz.prog sp_lin := SpecsOk.add (fn := Tryz.f17) (by kernel_rfl) lin_ok sp_cloneI_ok
noncomputable def level_i : ItsB Tryz.prog := ⟨_, (ItsOk.walk tt_ok sp_lin_ok mixed 18 (fn := Tryz.f18) (by kernel_rfl) (ItsOk.nil _ _) fun ys hy => LpsOk.nil)⟩
noncomputable def level_l0 (x : (Int × ((List Int) × (List (I2 × I2))))) : LoopD := ⟨[], ⟨pvs 141 0 [(2, .v (.one (.full 0))), (3, .v (.one (.ptr 1 0))), (4, .v (.one (.ptr 2 0))), (9, .v (.one (.clo 17 0 [.loc 1 0, .loc 2 0]))), (10, .v (.one (.ptr 4 0))), (11, .v (.one (.clo 18 0 [.loc 4 0]))), (51, .v (.one (.full 3))), (52, .v (.one (.i .i64))), (53, .v (.one (.i .i64)))], [.row (Ty.prod yy2 yy2) 0, .cells [.i .i64] 3, .cells [.full 3] 22, .row yi 0, .cells [.full 5] 56, .row yy2 2], 0, none, [], [0, 2, 3, 4], [5, 1], [(.l yy2), .i], [.i (((List.length x.2.1) : Nat) : Int), .l (Ty.prod yy2 yy2) x.2.2, .i x.1, .l yi x.2.1]⟩, [⟨(.exit 0), .normal, ⟨pvs 141 0 [(2, .v (.one (.full 0))), (3, .v (.one (.ptr 1 0))), (4, .v (.one (.ptr 2 0))), (9, .v (.one (.clo 17 0 [.loc 1 0, .loc 2 0]))), (10, .v (.one (.ptr 4 0))), (11, .v (.one (.clo 18 0 [.loc 4 0])))], [.row (Ty.prod yy2 yy2) 0, .cells [.i .i64] 3, .cells [.full 3] 22, .row yi 0, .cells [.full 5] 56, .row yy2 2], 0, none, [], [0, 1, 2], [3], [(.l yy2)], [.l (Ty.prod yy2 yy2) x.2.2, .i x.1, .l yi x.2.1]⟩⟩]⟩
noncomputable def level_l0_step (x : (Int × ((List Int) × (List (I2 × I2))))) (s : ((List I2) × Int)) : ((List I2) × Int) ⊕ (List I2) :=
 (if (s.2 < (((List.length x.2.1) : Nat) : Int)) then
 (if (((List.getD x.2.1 (Int.toNat s.2) (0 : Int)) != (-1 : Int)) = true) then
 (letV (List.set s.1 (Int.toNat s.2) ((w64 ((List.getD s.1 (Int.toNat s.2) ((0 : Int), (0 : Int))).1 + (List.getD x.2.1 (Int.toNat s.2) (0 : Int)))), (List.getD s.1 (Int.toNat s.2) ((0 : Int), (0 : Int))).2)) fun y =>
 (letV (List.set y (Int.toNat s.2) ((List.getD y (Int.toNat s.2) ((0 : Int), (0 : Int))).1, (w64 ((List.getD y (Int.toNat s.2) ((0 : Int), (0 : Int))).2 + (1 : Int))))) fun y_1 =>
 (Sum.inl (y_1, (w64 (s.2 + (1 : Int))))))) else
 (Sum.inl (s.1, (w64 (s.2 + (1 : Int)))))) else
 (Sum.inr (s.1)))
noncomputable def level_l0_pre (x : (Int × ((List Int) × (List (I2 × I2))))) (s : ((List I2) × Int)) : Prop :=
 ((s.2 < (((List.length x.2.1) : Nat) : Int)) →
 ((((0 : Int) ≤ s.2) ∧ (s.2 < (((List.length x.2.1) : Nat) : Int))) ∧
 (((Int.toNat s.2) < (List.length x.2.1)) ∧
 (((Int.toNat s.2) < (List.length x.2.1)) ∧
 ((((List.getD x.2.1 (Int.toNat s.2) (0 : Int)) != (-1 : Int)) = true) →
 ((((0 : Int) ≤ s.2) ∧ (s.2 < (((List.length s.1) : Nat) : Int))) ∧
 (((Int.toNat s.2) < (List.length s.1)) ∧
 (((Int.toNat s.2) < (List.length s.1)) ∧
 (((Int.toNat s.2) < (List.length s.1)) ∧
 ((((0 : Int) ≤ s.2) ∧ (s.2 < (((List.length s.1) : Nat) : Int))) ∧
 (((Int.toNat s.2) < (List.length s.1)) ∧
 (((Int.toNat s.2) < (List.length s.1)) ∧
 (((Int.toNat s.2) < (List.length s.1)) ∧
 (letP (List.set s.1 (Int.toNat s.2) ((w64 ((List.getD s.1 (Int.toNat s.2) ((0 : Int), (0 : Int))).1 + (List.getD x.2.1 (Int.toNat s.2) (0 : Int)))), (List.getD s.1 (Int.toNat s.2) ((0 : Int), (0 : Int))).2)) fun y =>
 ((((0 : Int) ≤ s.2) ∧ (s.2 < (((List.length y) : Nat) : Int))) ∧
 (((Int.toNat s.2) < (List.length y)) ∧
 (((Int.toNat s.2) < (List.length y)) ∧
 (((Int.toNat s.2) < (List.length y)) ∧
 ((((0 : Int) ≤ s.2) ∧ (s.2 < (((List.length y) : Nat) : Int))) ∧
 (((Int.toNat s.2) < (List.length y)) ∧
 (((Int.toNat s.2) < (List.length y)) ∧
 ((Int.toNat s.2) < (List.length y)))))))))))))))))))))))
noncomputable def level_l0_t (x : (Int × ((List Int) × (List (I2 × I2))))) (s : ((List I2) × Int)) : Tr (((List I2) × Int) ⊕ (List I2)) true :=
 (.i10 (s.2 < (((List.length x.2.1) : Nat) : Int))
 (.oR s.2 (((List.length x.2.1) : Nat) : Int)
 (.od ((Int.toNat s.2) < (List.length x.2.1))
 (.od ((Int.toNat s.2) < (List.length x.2.1))
 (.allE
 (.b10 ((List.getD x.2.1 (Int.toNat s.2) (0 : Int)) != (-1 : Int))
 (.oR s.2 (((List.length s.1) : Nat) : Int)
 (.od ((Int.toNat s.2) < (List.length s.1))
 (.od ((Int.toNat s.2) < (List.length s.1))
 (.od ((Int.toNat s.2) < (List.length s.1))
 (.oR s.2 (((List.length s.1) : Nat) : Int)
 (.od ((Int.toNat s.2) < (List.length s.1))
 (.od ((Int.toNat s.2) < (List.length s.1))
 (.od ((Int.toNat s.2) < (List.length s.1))
 (.lt (List.set s.1 (Int.toNat s.2) ((w64 ((List.getD s.1 (Int.toNat s.2) zz2).1 + (List.getD x.2.1 (Int.toNat s.2) (0 : Int)))), (List.getD s.1 (Int.toNat s.2) zz2).2)) fun y =>
 (.oR s.2 (((List.length y) : Nat) : Int)
 (.od ((Int.toNat s.2) < (List.length y))
 (.od ((Int.toNat s.2) < (List.length y))
 (.od ((Int.toNat s.2) < (List.length y))
 (.oR s.2 (((List.length y) : Nat) : Int)
 (.od ((Int.toNat s.2) < (List.length y))
 (.od ((Int.toNat s.2) < (List.length y))
 (.od ((Int.toNat s.2) < (List.length y))
 (.lt (List.set y (Int.toNat s.2) ((List.getD y (Int.toNat s.2) zz2).1, (w64 ((List.getD y (Int.toNat s.2) zz2).2 + (1 : Int))))) fun y_1 =>
 (.pn 0 6
 (.ret (.inl (y_1, (w64 (s.2 + (1 : Int)))))))))))))))))))))))))
 (.pn 0 6
 (.ret (.inl (s.1, (w64 (s.2 + (1 : Int))))))))))))
 (.ret (.inr (s.1))))
noncomputable def level_l2 (x : (Int × ((List Int) × (List (I2 × I2))))) : LoopD := ⟨[], ⟨pvs 141 0 [(3, .v (.one (.ptr 0 0))), (4, .v (.one (.ptr 1 0))), (9, .v (.one (.clo 17 0 [.loc 0 0, .loc 1 0]))), (10, .v (.one (.ptr 3 0))), (11, .v (.one (.clo 18 0 [.loc 3 0]))), (63, .v (.one (.full 5))), (64, .v (.one (.i .i64))), (65, .v (.one (.i .i64)))], [.cells [.i .i64] 3, .cells [.full 2] 22, .row yi 0, .cells [.full 4] 56, .row yy2 2, .row (Ty.prod yy2 yy2) 0], 0, none, [], [0, 2, 3, 5], [4, 1], [(.l yy2), .i], [.i (((List.length x.2.2) : Nat) : Int), .i x.1, .l yi x.2.1, .l (Ty.prod yy2 yy2) x.2.2]⟩, [⟨.ret, .ret, ⟨pvs 141 0 [(6, .v (.one (.raw))), (7, .v (.one (.i .i64)))], [], 0, none, [], [0, 1], [], [], [.v (.slice none 0 0), .i (1 : Int)]⟩⟩, ⟨(.exit 2), .normal, ⟨pvs 141 0 [(4, .v (.one (.ptr 0 0))), (10, .v (.one (.ptr 2 0)))], [.cells [.full 1] 22, .row yi 0, .cells [.full 3] 56, .row yy2 2], 0, none, [], [0], [1], [(.l yy2)], [.l yi x.2.1]⟩⟩]⟩
noncomputable def level_l2_step (x : (Int × ((List Int) × (List (I2 × I2))))) (s : ((List I2) × Int)) : ((List I2) × Int) ⊕ (Unit ⊕ (List I2)) :=
 (if (s.2 < (((List.length x.2.2) : Nat) : Int)) then
 (letV (lin ((List.getD x.2.2 (Int.toNat s.2) (((0 : Int), (0 : Int)), ((0 : Int), (0 : Int)))).1, (x.1, x.2.1))) fun y =>
 (if ((!y) = true) then
 (Sum.inr (Sum.inl ())) else
 (letV (lin ((List.getD x.2.2 (Int.toNat s.2) (((0 : Int), (0 : Int)), ((0 : Int), (0 : Int)))).2, (x.1, x.2.1))) fun y_1 =>
 (if ((!y_1) = true) then
 (Sum.inr (Sum.inl ())) else
 (if (((List.getD x.2.1 (Int.toNat (w64 ((w64 ((List.getD x.2.2 (Int.toNat s.2) (((0 : Int), (0 : Int)), ((0 : Int), (0 : Int)))).2.2 * x.1)) + (List.getD x.2.2 (Int.toNat s.2) (((0 : Int), (0 : Int)), ((0 : Int), (0 : Int)))).2.1))) (0 : Int)) != (-1 : Int)) = true) then
 (letV (List.set s.1 (Int.toNat (w64 ((w64 ((List.getD x.2.2 (Int.toNat s.2) (((0 : Int), (0 : Int)), ((0 : Int), (0 : Int)))).1.2 * x.1)) + (List.getD x.2.2 (Int.toNat s.2) (((0 : Int), (0 : Int)), ((0 : Int), (0 : Int)))).1.1))) ((w64 ((List.getD s.1 (Int.toNat (w64 ((w64 ((List.getD x.2.2 (Int.toNat s.2) (((0 : Int), (0 : Int)), ((0 : Int), (0 : Int)))).1.2 * x.1)) + (List.getD x.2.2 (Int.toNat s.2) (((0 : Int), (0 : Int)), ((0 : Int), (0 : Int)))).1.1))) ((0 : Int), (0 : Int))).1 + (List.getD x.2.1 (Int.toNat (w64 ((w64 ((List.getD x.2.2 (Int.toNat s.2) (((0 : Int), (0 : Int)), ((0 : Int), (0 : Int)))).2.2 * x.1)) + (List.getD x.2.2 (Int.toNat s.2) (((0 : Int), (0 : Int)), ((0 : Int), (0 : Int)))).2.1))) (0 : Int)))), (List.getD s.1 (Int.toNat (w64 ((w64 ((List.getD x.2.2 (Int.toNat s.2) (((0 : Int), (0 : Int)), ((0 : Int), (0 : Int)))).1.2 * x.1)) + (List.getD x.2.2 (Int.toNat s.2) (((0 : Int), (0 : Int)), ((0 : Int), (0 : Int)))).1.1))) ((0 : Int), (0 : Int))).2)) fun y_2 =>
 (letV (List.set y_2 (Int.toNat (w64 ((w64 ((List.getD x.2.2 (Int.toNat s.2) (((0 : Int), (0 : Int)), ((0 : Int), (0 : Int)))).1.2 * x.1)) + (List.getD x.2.2 (Int.toNat s.2) (((0 : Int), (0 : Int)), ((0 : Int), (0 : Int)))).1.1))) ((List.getD y_2 (Int.toNat (w64 ((w64 ((List.getD x.2.2 (Int.toNat s.2) (((0 : Int), (0 : Int)), ((0 : Int), (0 : Int)))).1.2 * x.1)) + (List.getD x.2.2 (Int.toNat s.2) (((0 : Int), (0 : Int)), ((0 : Int), (0 : Int)))).1.1))) ((0 : Int), (0 : Int))).1, (w64 ((List.getD y_2 (Int.toNat (w64 ((w64 ((List.getD x.2.2 (Int.toNat s.2) (((0 : Int), (0 : Int)), ((0 : Int), (0 : Int)))).1.2 * x.1)) + (List.getD x.2.2 (Int.toNat s.2) (((0 : Int), (0 : Int)), ((0 : Int), (0 : Int)))).1.1))) ((0 : Int), (0 : Int))).2 + (1 : Int))))) fun y_3 =>
 (if (((List.getD x.2.1 (Int.toNat (w64 ((w64 ((List.getD x.2.2 (Int.toNat s.2) (((0 : Int), (0 : Int)), ((0 : Int), (0 : Int)))).1.2 * x.1)) + (List.getD x.2.2 (Int.toNat s.2) (((0 : Int), (0 : Int)), ((0 : Int), (0 : Int)))).1.1))) (0 : Int)) != (-1 : Int)) = true) then
 (letV (List.set y_3 (Int.toNat (w64 ((w64 ((List.getD x.2.2 (Int.toNat s.2) (((0 : Int), (0 : Int)), ((0 : Int), (0 : Int)))).2.2 * x.1)) + (List.getD x.2.2 (Int.toNat s.2) (((0 : Int), (0 : Int)), ((0 : Int), (0 : Int)))).2.1))) ((w64 ((List.getD y_3 (Int.toNat (w64 ((w64 ((List.getD x.2.2 (Int.toNat s.2) (((0 : Int), (0 : Int)), ((0 : Int), (0 : Int)))).2.2 * x.1)) + (List.getD x.2.2 (Int.toNat s.2) (((0 : Int), (0 : Int)), ((0 : Int), (0 : Int)))).2.1))) ((0 : Int), (0 : Int))).1 + (List.getD x.2.1 (Int.toNat (w64 ((w64 ((List.getD x.2.2 (Int.toNat s.2) (((0 : Int), (0 : Int)), ((0 : Int), (0 : Int)))).1.2 * x.1)) + (List.getD x.2.2 (Int.toNat s.2) (((0 : Int), (0 : Int)), ((0 : Int), (0 : Int)))).1.1))) (0 : Int)))), (List.getD y_3 (Int.toNat (w64 ((w64 ((List.getD x.2.2 (Int.toNat s.2) (((0 : Int), (0 : Int)), ((0 : Int), (0 : Int)))).2.2 * x.1)) + (List.getD x.2.2 (Int.toNat s.2) (((0 : Int), (0 : Int)), ((0 : Int), (0 : Int)))).2.1))) ((0 : Int), (0 : Int))).2)) fun y_4 =>
 (letV (List.set y_4 (Int.toNat (w64 ((w64 ((List.getD x.2.2 (Int.toNat s.2) (((0 : Int), (0 : Int)), ((0 : Int), (0 : Int)))).2.2 * x.1)) + (List.getD x.2.2 (Int.toNat s.2) (((0 : Int), (0 : Int)), ((0 : Int), (0 : Int)))).2.1))) ((List.getD y_4 (Int.toNat (w64 ((w64 ((List.getD x.2.2 (Int.toNat s.2) (((0 : Int), (0 : Int)), ((0 : Int), (0 : Int)))).2.2 * x.1)) + (List.getD x.2.2 (Int.toNat s.2) (((0 : Int), (0 : Int)), ((0 : Int), (0 : Int)))).2.1))) ((0 : Int), (0 : Int))).1, (w64 ((List.getD y_4 (Int.toNat (w64 ((w64 ((List.getD x.2.2 (Int.toNat s.2) (((0 : Int), (0 : Int)), ((0 : Int), (0 : Int)))).2.2 * x.1)) + (List.getD x.2.2 (Int.toNat s.2) (((0 : Int), (0 : Int)), ((0 : Int), (0 : Int)))).2.1))) ((0 : Int), (0 : Int))).2 + (1 : Int))))) fun y_5 =>
 (Sum.inl (y_5, (w64 (s.2 + (1 : Int))))))) else
 (Sum.inl (y_3, (w64 (s.2 + (1 : Int)))))))) else
 (if (((List.getD x.2.1 (Int.toNat (w64 ((w64 ((List.getD x.2.2 (Int.toNat s.2) (((0 : Int), (0 : Int)), ((0 : Int), (0 : Int)))).1.2 * x.1)) + (List.getD x.2.2 (Int.toNat s.2) (((0 : Int), (0 : Int)), ((0 : Int), (0 : Int)))).1.1))) (0 : Int)) != (-1 : Int)) = true) then
 (letV (List.set s.1 (Int.toNat (w64 ((w64 ((List.getD x.2.2 (Int.toNat s.2) (((0 : Int), (0 : Int)), ((0 : Int), (0 : Int)))).2.2 * x.1)) + (List.getD x.2.2 (Int.toNat s.2) (((0 : Int), (0 : Int)), ((0 : Int), (0 : Int)))).2.1))) ((w64 ((List.getD s.1 (Int.toNat (w64 ((w64 ((List.getD x.2.2 (Int.toNat s.2) (((0 : Int), (0 : Int)), ((0 : Int), (0 : Int)))).2.2 * x.1)) + (List.getD x.2.2 (Int.toNat s.2) (((0 : Int), (0 : Int)), ((0 : Int), (0 : Int)))).2.1))) ((0 : Int), (0 : Int))).1 + (List.getD x.2.1 (Int.toNat (w64 ((w64 ((List.getD x.2.2 (Int.toNat s.2) (((0 : Int), (0 : Int)), ((0 : Int), (0 : Int)))).1.2 * x.1)) + (List.getD x.2.2 (Int.toNat s.2) (((0 : Int), (0 : Int)), ((0 : Int), (0 : Int)))).1.1))) (0 : Int)))), (List.getD s.1 (Int.toNat (w64 ((w64 ((List.getD x.2.2 (Int.toNat s.2) (((0 : Int), (0 : Int)), ((0 : Int), (0 : Int)))).2.2 * x.1)) + (List.getD x.2.2 (Int.toNat s.2) (((0 : Int), (0 : Int)), ((0 : Int), (0 : Int)))).2.1))) ((0 : Int), (0 : Int))).2)) fun y_2 =>
 (letV (List.set y_2 (Int.toNat (w64 ((w64 ((List.getD x.2.2 (Int.toNat s.2) (((0 : Int), (0 : Int)), ((0 : Int), (0 : Int)))).2.2 * x.1)) + (List.getD x.2.2 (Int.toNat s.2) (((0 : Int), (0 : Int)), ((0 : Int), (0 : Int)))).2.1))) ((List.getD y_2 (Int.toNat (w64 ((w64 ((List.getD x.2.2 (Int.toNat s.2) (((0 : Int), (0 : Int)), ((0 : Int), (0 : Int)))).2.2 * x.1)) + (List.getD x.2.2 (Int.toNat s.2) (((0 : Int), (0 : Int)), ((0 : Int), (0 : Int)))).2.1))) ((0 : Int), (0 : Int))).1, (w64 ((List.getD y_2 (Int.toNat (w64 ((w64 ((List.getD x.2.2 (Int.toNat s.2) (((0 : Int), (0 : Int)), ((0 : Int), (0 : Int)))).2.2 * x.1)) + (List.getD x.2.2 (Int.toNat s.2) (((0 : Int), (0 : Int)), ((0 : Int), (0 : Int)))).2.1))) ((0 : Int), (0 : Int))).2 + (1 : Int))))) fun y_3 =>
 (Sum.inl (y_3, (w64 (s.2 + (1 : Int))))))) else
 (Sum.inl (s.1, (w64 (s.2 + (1 : Int))))))))))) else
 (Sum.inr (Sum.inr (s.1))))
noncomputable def level_l2_pre (x : (Int × ((List Int) × (List (I2 × I2))))) (s : ((List I2) × Int)) : Prop :=
 ((s.2 < (((List.length x.2.2) : Nat) : Int)) →
 ((((0 : Int) ≤ s.2) ∧ (s.2 < (((List.length x.2.2) : Nat) : Int))) ∧
 (((Int.toNat s.2) < (List.length x.2.2)) ∧
 (((Int.toNat s.2) < (List.length x.2.2)) ∧
 ((lin_pre ((List.getD x.2.2 (Int.toNat s.2) (((0 : Int), (0 : Int)), ((0 : Int), (0 : Int)))).1, (x.1, x.2.1))) ∧
 letP (lin ((List.getD x.2.2 (Int.toNat s.2) (((0 : Int), (0 : Int)), ((0 : Int), (0 : Int)))).1, (x.1, x.2.1))) fun y =>
 (¬ ((!y) = true) →
 ((lin_pre ((List.getD x.2.2 (Int.toNat s.2) (((0 : Int), (0 : Int)), ((0 : Int), (0 : Int)))).2, (x.1, x.2.1))) ∧
 letP (lin ((List.getD x.2.2 (Int.toNat s.2) (((0 : Int), (0 : Int)), ((0 : Int), (0 : Int)))).2, (x.1, x.2.1))) fun y_1 =>
 (¬ ((!y_1) = true) →
 ((((0 : Int) ≤ (w64 ((w64 ((List.getD x.2.2 (Int.toNat s.2) (((0 : Int), (0 : Int)), ((0 : Int), (0 : Int)))).2.2 * x.1)) + (List.getD x.2.2 (Int.toNat s.2) (((0 : Int), (0 : Int)), ((0 : Int), (0 : Int)))).2.1))) ∧ ((w64 ((w64 ((List.getD x.2.2 (Int.toNat s.2) (((0 : Int), (0 : Int)), ((0 : Int), (0 : Int)))).2.2 * x.1)) + (List.getD x.2.2 (Int.toNat s.2) (((0 : Int), (0 : Int)), ((0 : Int), (0 : Int)))).2.1)) < (((List.length x.2.1) : Nat) : Int))) ∧
 (((Int.toNat (w64 ((w64 ((List.getD x.2.2 (Int.toNat s.2) (((0 : Int), (0 : Int)), ((0 : Int), (0 : Int)))).2.2 * x.1)) + (List.getD x.2.2 (Int.toNat s.2) (((0 : Int), (0 : Int)), ((0 : Int), (0 : Int)))).2.1))) < (List.length x.2.1)) ∧
 (((Int.toNat (w64 ((w64 ((List.getD x.2.2 (Int.toNat s.2) (((0 : Int), (0 : Int)), ((0 : Int), (0 : Int)))).2.2 * x.1)) + (List.getD x.2.2 (Int.toNat s.2) (((0 : Int), (0 : Int)), ((0 : Int), (0 : Int)))).2.1))) < (List.length x.2.1)) ∧
 (((((List.getD x.2.1 (Int.toNat (w64 ((w64 ((List.getD x.2.2 (Int.toNat s.2) (((0 : Int), (0 : Int)), ((0 : Int), (0 : Int)))).2.2 * x.1)) + (List.getD x.2.2 (Int.toNat s.2) (((0 : Int), (0 : Int)), ((0 : Int), (0 : Int)))).2.1))) (0 : Int)) != (-1 : Int)) = true) →
 ((((0 : Int) ≤ (w64 ((w64 ((List.getD x.2.2 (Int.toNat s.2) (((0 : Int), (0 : Int)), ((0 : Int), (0 : Int)))).1.2 * x.1)) + (List.getD x.2.2 (Int.toNat s.2) (((0 : Int), (0 : Int)), ((0 : Int), (0 : Int)))).1.1))) ∧ ((w64 ((w64 ((List.getD x.2.2 (Int.toNat s.2) (((0 : Int), (0 : Int)), ((0 : Int), (0 : Int)))).1.2 * x.1)) + (List.getD x.2.2 (Int.toNat s.2) (((0 : Int), (0 : Int)), ((0 : Int), (0 : Int)))).1.1)) < (((List.length s.1) : Nat) : Int))) ∧
 (((Int.toNat (w64 ((w64 ((List.getD x.2.2 (Int.toNat s.2) (((0 : Int), (0 : Int)), ((0 : Int), (0 : Int)))).1.2 * x.1)) + (List.getD x.2.2 (Int.toNat s.2) (((0 : Int), (0 : Int)), ((0 : Int), (0 : Int)))).1.1))) < (List.length s.1)) ∧
 (((Int.toNat (w64 ((w64 ((List.getD x.2.2 (Int.toNat s.2) (((0 : Int), (0 : Int)), ((0 : Int), (0 : Int)))).1.2 * x.1)) + (List.getD x.2.2 (Int.toNat s.2) (((0 : Int), (0 : Int)), ((0 : Int), (0 : Int)))).1.1))) < (List.length s.1)) ∧
 (((Int.toNat (w64 ((w64 ((List.getD x.2.2 (Int.toNat s.2) (((0 : Int), (0 : Int)), ((0 : Int), (0 : Int)))).1.2 * x.1)) + (List.getD x.2.2 (Int.toNat s.2) (((0 : Int), (0 : Int)), ((0 : Int), (0 : Int)))).1.1))) < (List.length s.1)) ∧
 ((((0 : Int) ≤ (w64 ((w64 ((List.getD x.2.2 (Int.toNat s.2) (((0 : Int), (0 : Int)), ((0 : Int), (0 : Int)))).1.2 * x.1)) + (List.getD x.2.2 (Int.toNat s.2) (((0 : Int), (0 : Int)), ((0 : Int), (0 : Int)))).1.1))) ∧ ((w64 ((w64 ((List.getD x.2.2 (Int.toNat s.2) (((0 : Int), (0 : Int)), ((0 : Int), (0 : Int)))).1.2 * x.1)) + (List.getD x.2.2 (Int.toNat s.2) (((0 : Int), (0 : Int)), ((0 : Int), (0 : Int)))).1.1)) < (((List.length s.1) : Nat) : Int))) ∧
 (((Int.toNat (w64 ((w64 ((List.getD x.2.2 (Int.toNat s.2) (((0 : Int), (0 : Int)), ((0 : Int), (0 : Int)))).1.2 * x.1)) + (List.getD x.2.2 (Int.toNat s.2) (((0 : Int), (0 : Int)), ((0 : Int), (0 : Int)))).1.1))) < (List.length s.1)) ∧
 (((Int.toNat (w64 ((w64 ((List.getD x.2.2 (Int.toNat s.2) (((0 : Int), (0 : Int)), ((0 : Int), (0 : Int)))).1.2 * x.1)) + (List.getD x.2.2 (Int.toNat s.2) (((0 : Int), (0 : Int)), ((0 : Int), (0 : Int)))).1.1))) < (List.length s.1)) ∧
 (((Int.toNat (w64 ((w64 ((List.getD x.2.2 (Int.toNat s.2) (((0 : Int), (0 : Int)), ((0 : Int), (0 : Int)))).1.2 * x.1)) + (List.getD x.2.2 (Int.toNat s.2) (((0 : Int), (0 : Int)), ((0 : Int), (0 : Int)))).1.1))) < (List.length s.1)) ∧
 (letP (List.set s.1 (Int.toNat (w64 ((w64 ((List.getD x.2.2 (Int.toNat s.2) (((0 : Int), (0 : Int)), ((0 : Int), (0 : Int)))).1.2 * x.1)) + (List.getD x.2.2 (Int.toNat s.2) (((0 : Int), (0 : Int)), ((0 : Int), (0 : Int)))).1.1))) ((w64 ((List.getD s.1 (Int.toNat (w64 ((w64 ((List.getD x.2.2 (Int.toNat s.2) (((0 : Int), (0 : Int)), ((0 : Int), (0 : Int)))).1.2 * x.1)) + (List.getD x.2.2 (Int.toNat s.2) (((0 : Int), (0 : Int)), ((0 : Int), (0 : Int)))).1.1))) ((0 : Int), (0 : Int))).1 + (List.getD x.2.1 (Int.toNat (w64 ((w64 ((List.getD x.2.2 (Int.toNat s.2) (((0 : Int), (0 : Int)), ((0 : Int), (0 : Int)))).2.2 * x.1)) + (List.getD x.2.2 (Int.toNat s.2) (((0 : Int), (0 : Int)), ((0 : Int), (0 : Int)))).2.1))) (0 : Int)))), (List.getD s.1 (Int.toNat (w64 ((w64 ((List.getD x.2.2 (Int.toNat s.2) (((0 : Int), (0 : Int)), ((0 : Int), (0 : Int)))).1.2 * x.1)) + (List.getD x.2.2 (Int.toNat s.2) (((0 : Int), (0 : Int)), ((0 : Int), (0 : Int)))).1.1))) ((0 : Int), (0 : Int))).2)) fun y_2 =>
 ((((0 : Int) ≤ (w64 ((w64 ((List.getD x.2.2 (Int.toNat s.2) (((0 : Int), (0 : Int)), ((0 : Int), (0 : Int)))).1.2 * x.1)) + (List.getD x.2.2 (Int.toNat s.2) (((0 : Int), (0 : Int)), ((0 : Int), (0 : Int)))).1.1))) ∧ ((w64 ((w64 ((List.getD x.2.2 (Int.toNat s.2) (((0 : Int), (0 : Int)), ((0 : Int), (0 : Int)))).1.2 * x.1)) + (List.getD x.2.2 (Int.toNat s.2) (((0 : Int), (0 : Int)), ((0 : Int), (0 : Int)))).1.1)) < (((List.length y_2) : Nat) : Int))) ∧
 (((Int.toNat (w64 ((w64 ((List.getD x.2.2 (Int.toNat s.2) (((0 : Int), (0 : Int)), ((0 : Int), (0 : Int)))).1.2 * x.1)) + (List.getD x.2.2 (Int.toNat s.2) (((0 : Int), (0 : Int)), ((0 : Int), (0 : Int)))).1.1))) < (List.length y_2)) ∧
 (((Int.toNat (w64 ((w64 ((List.getD x.2.2 (Int.toNat s.2) (((0 : Int), (0 : Int)), ((0 : Int), (0 : Int)))).1.2 * x.1)) + (List.getD x.2.2 (Int.toNat s.2) (((0 : Int), (0 : Int)), ((0 : Int), (0 : Int)))).1.1))) < (List.length y_2)) ∧
 (((Int.toNat (w64 ((w64 ((List.getD x.2.2 (Int.toNat s.2) (((0 : Int), (0 : Int)), ((0 : Int), (0 : Int)))).1.2 * x.1)) + (List.getD x.2.2 (Int.toNat s.2) (((0 : Int), (0 : Int)), ((0 : Int), (0 : Int)))).1.1))) < (List.length y_2)) ∧
 ((((0 : Int) ≤ (w64 ((w64 ((List.getD x.2.2 (Int.toNat s.2) (((0 : Int), (0 : Int)), ((0 : Int), (0 : Int)))).1.2 * x.1)) + (List.getD x.2.2 (Int.toNat s.2) (((0 : Int), (0 : Int)), ((0 : Int), (0 : Int)))).1.1))) ∧ ((w64 ((w64 ((List.getD x.2.2 (Int.toNat s.2) (((0 : Int), (0 : Int)), ((0 : Int), (0 : Int)))).1.2 * x.1)) + (List.getD x.2.2 (Int.toNat s.2) (((0 : Int), (0 : Int)), ((0 : Int), (0 : Int)))).1.1)) < (((List.length y_2) : Nat) : Int))) ∧
 (((Int.toNat (w64 ((w64 ((List.getD x.2.2 (Int.toNat s.2) (((0 : Int), (0 : Int)), ((0 : Int), (0 : Int)))).1.2 * x.1)) + (List.getD x.2.2 (Int.toNat s.2) (((0 : Int), (0 : Int)), ((0 : Int), (0 : Int)))).1.1))) < (List.length y_2)) ∧
 (((Int.toNat (w64 ((w64 ((List.getD x.2.2 (Int.toNat s.2) (((0 : Int), (0 : Int)), ((0 : Int), (0 : Int)))).1.2 * x.1)) + (List.getD x.2.2 (Int.toNat s.2) (((0 : Int), (0 : Int)), ((0 : Int), (0 : Int)))).1.1))) < (List.length y_2)) ∧
 (((Int.toNat (w64 ((w64 ((List.getD x.2.2 (Int.toNat s.2) (((0 : Int), (0 : Int)), ((0 : Int), (0 : Int)))).1.2 * x.1)) + (List.getD x.2.2 (Int.toNat s.2) (((0 : Int), (0 : Int)), ((0 : Int), (0 : Int)))).1.1))) < (List.length y_2)) ∧
 (letP (List.set y_2 (Int.toNat (w64 ((w64 ((List.getD x.2.2 (Int.toNat s.2) (((0 : Int), (0 : Int)), ((0 : Int), (0 : Int)))).1.2 * x.1)) + (List.getD x.2.2 (Int.toNat s.2) (((0 : Int), (0 : Int)), ((0 : Int), (0 : Int)))).1.1))) ((List.getD y_2 (Int.toNat (w64 ((w64 ((List.getD x.2.2 (Int.toNat s.2) (((0 : Int), (0 : Int)), ((0 : Int), (0 : Int)))).1.2 * x.1)) + (List.getD x.2.2 (Int.toNat s.2) (((0 : Int), (0 : Int)), ((0 : Int), (0 : Int)))).1.1))) ((0 : Int), (0 : Int))).1, (w64 ((List.getD y_2 (Int.toNat (w64 ((w64 ((List.getD x.2.2 (Int.toNat s.2) (((0 : Int), (0 : Int)), ((0 : Int), (0 : Int)))).1.2 * x.1)) + (List.getD x.2.2 (Int.toNat s.2) (((0 : Int), (0 : Int)), ((0 : Int), (0 : Int)))).1.1))) ((0 : Int), (0 : Int))).2 + (1 : Int))))) fun y_3 =>
 ((((0 : Int) ≤ (w64 ((w64 ((List.getD x.2.2 (Int.toNat s.2) (((0 : Int), (0 : Int)), ((0 : Int), (0 : Int)))).1.2 * x.1)) + (List.getD x.2.2 (Int.toNat s.2) (((0 : Int), (0 : Int)), ((0 : Int), (0 : Int)))).1.1))) ∧ ((w64 ((w64 ((List.getD x.2.2 (Int.toNat s.2) (((0 : Int), (0 : Int)), ((0 : Int), (0 : Int)))).1.2 * x.1)) + (List.getD x.2.2 (Int.toNat s.2) (((0 : Int), (0 : Int)), ((0 : Int), (0 : Int)))).1.1)) < (((List.length x.2.1) : Nat) : Int))) ∧
 (((Int.toNat (w64 ((w64 ((List.getD x.2.2 (Int.toNat s.2) (((0 : Int), (0 : Int)), ((0 : Int), (0 : Int)))).1.2 * x.1)) + (List.getD x.2.2 (Int.toNat s.2) (((0 : Int), (0 : Int)), ((0 : Int), (0 : Int)))).1.1))) < (List.length x.2.1)) ∧
 (((Int.toNat (w64 ((w64 ((List.getD x.2.2 (Int.toNat s.2) (((0 : Int), (0 : Int)), ((0 : Int), (0 : Int)))).1.2 * x.1)) + (List.getD x.2.2 (Int.toNat s.2) (((0 : Int), (0 : Int)), ((0 : Int), (0 : Int)))).1.1))) < (List.length x.2.1)) ∧
 ((((List.getD x.2.1 (Int.toNat (w64 ((w64 ((List.getD x.2.2 (Int.toNat s.2) (((0 : Int), (0 : Int)), ((0 : Int), (0 : Int)))).1.2 * x.1)) + (List.getD x.2.2 (Int.toNat s.2) (((0 : Int), (0 : Int)), ((0 : Int), (0 : Int)))).1.1))) (0 : Int)) != (-1 : Int)) = true) →
 ((((0 : Int) ≤ (w64 ((w64 ((List.getD x.2.2 (Int.toNat s.2) (((0 : Int), (0 : Int)), ((0 : Int), (0 : Int)))).2.2 * x.1)) + (List.getD x.2.2 (Int.toNat s.2) (((0 : Int), (0 : Int)), ((0 : Int), (0 : Int)))).2.1))) ∧ ((w64 ((w64 ((List.getD x.2.2 (Int.toNat s.2) (((0 : Int), (0 : Int)), ((0 : Int), (0 : Int)))).2.2 * x.1)) + (List.getD x.2.2 (Int.toNat s.2) (((0 : Int), (0 : Int)), ((0 : Int), (0 : Int)))).2.1)) < (((List.length y_3) : Nat) : Int))) ∧
 (((Int.toNat (w64 ((w64 ((List.getD x.2.2 (Int.toNat s.2) (((0 : Int), (0 : Int)), ((0 : Int), (0 : Int)))).2.2 * x.1)) + (List.getD x.2.2 (Int.toNat s.2) (((0 : Int), (0 : Int)), ((0 : Int), (0 : Int)))).2.1))) < (List.length y_3)) ∧
 (((Int.toNat (w64 ((w64 ((List.getD x.2.2 (Int.toNat s.2) (((0 : Int), (0 : Int)), ((0 : Int), (0 : Int)))).2.2 * x.1)) + (List.getD x.2.2 (Int.toNat s.2) (((0 : Int), (0 : Int)), ((0 : Int), (0 : Int)))).2.1))) < (List.length y_3)) ∧
 (((Int.toNat (w64 ((w64 ((List.getD x.2.2 (Int.toNat s.2) (((0 : Int), (0 : Int)), ((0 : Int), (0 : Int)))).2.2 * x.1)) + (List.getD x.2.2 (Int.toNat s.2) (((0 : Int), (0 : Int)), ((0 : Int), (0 : Int)))).2.1))) < (List.length y_3)) ∧
 ((((0 : Int) ≤ (w64 ((w64 ((List.getD x.2.2 (Int.toNat s.2) (((0 : Int), (0 : Int)), ((0 : Int), (0 : Int)))).2.2 * x.1)) + (List.getD x.2.2 (Int.toNat s.2) (((0 : Int), (0 : Int)), ((0 : Int), (0 : Int)))).2.1))) ∧ ((w64 ((w64 ((List.getD x.2.2 (Int.toNat s.2) (((0 : Int), (0 : Int)), ((0 : Int), (0 : Int)))).2.2 * x.1)) + (List.getD x.2.2 (Int.toNat s.2) (((0 : Int), (0 : Int)), ((0 : Int), (0 : Int)))).2.1)) < (((List.length y_3) : Nat) : Int))) ∧
 (((Int.toNat (w64 ((w64 ((List.getD x.2.2 (Int.toNat s.2) (((0 : Int), (0 : Int)), ((0 : Int), (0 : Int)))).2.2 * x.1)) + (List.getD x.2.2 (Int.toNat s.2) (((0 : Int), (0 : Int)), ((0 : Int), (0 : Int)))).2.1))) < (List.length y_3)) ∧
 (((Int.toNat (w64 ((w64 ((List.getD x.2.2 (Int.toNat s.2) (((0 : Int), (0 : Int)), ((0 : Int), (0 : Int)))).2.2 * x.1)) + (List.getD x.2.2 (Int.toNat s.2) (((0 : Int), (0 : Int)), ((0 : Int), (0 : Int)))).2.1))) < (List.length y_3)) ∧
 (((Int.toNat (w64 ((w64 ((List.getD x.2.2 (Int.toNat s.2) (((0 : Int), (0 : Int)), ((0 : Int), (0 : Int)))).2.2 * x.1)) + (List.getD x.2.2 (Int.toNat s.2) (((0 : Int), (0 : Int)), ((0 : Int), (0 : Int)))).2.1))) < (List.length y_3)) ∧
 (letP (List.set y_3 (Int.toNat (w64 ((w64 ((List.getD x.2.2 (Int.toNat s.2) (((0 : Int), (0 : Int)), ((0 : Int), (0 : Int)))).2.2 * x.1)) + (List.getD x.2.2 (Int.toNat s.2) (((0 : Int), (0 : Int)), ((0 : Int), (0 : Int)))).2.1))) ((w64 ((List.getD y_3 (Int.toNat (w64 ((w64 ((List.getD x.2.2 (Int.toNat s.2) (((0 : Int), (0 : Int)), ((0 : Int), (0 : Int)))).2.2 * x.1)) + (List.getD x.2.2 (Int.toNat s.2) (((0 : Int), (0 : Int)), ((0 : Int), (0 : Int)))).2.1))) ((0 : Int), (0 : Int))).1 + (List.getD x.2.1 (Int.toNat (w64 ((w64 ((List.getD x.2.2 (Int.toNat s.2) (((0 : Int), (0 : Int)), ((0 : Int), (0 : Int)))).1.2 * x.1)) + (List.getD x.2.2 (Int.toNat s.2) (((0 : Int), (0 : Int)), ((0 : Int), (0 : Int)))).1.1))) (0 : Int)))), (List.getD y_3 (Int.toNat (w64 ((w64 ((List.getD x.2.2 (Int.toNat s.2) (((0 : Int), (0 : Int)), ((0 : Int), (0 : Int)))).2.2 * x.1)) + (List.getD x.2.2 (Int.toNat s.2) (((0 : Int), (0 : Int)), ((0 : Int), (0 : Int)))).2.1))) ((0 : Int), (0 : Int))).2)) fun y_4 =>
 ((((0 : Int) ≤ (w64 ((w64 ((List.getD x.2.2 (Int.toNat s.2) (((0 : Int), (0 : Int)), ((0 : Int), (0 : Int)))).2.2 * x.1)) + (List.getD x.2.2 (Int.toNat s.2) (((0 : Int), (0 : Int)), ((0 : Int), (0 : Int)))).2.1))) ∧ ((w64 ((w64 ((List.getD x.2.2 (Int.toNat s.2) (((0 : Int), (0 : Int)), ((0 : Int), (0 : Int)))).2.2 * x.1)) + (List.getD x.2.2 (Int.toNat s.2) (((0 : Int), (0 : Int)), ((0 : Int), (0 : Int)))).2.1)) < (((List.length y_4) : Nat) : Int))) ∧
 (((Int.toNat (w64 ((w64 ((List.getD x.2.2 (Int.toNat s.2) (((0 : Int), (0 : Int)), ((0 : Int), (0 : Int)))).2.2 * x.1)) + (List.getD x.2.2 (Int.toNat s.2) (((0 : Int), (0 : Int)), ((0 : Int), (0 : Int)))).2.1))) < (List.length y_4)) ∧
 (((Int.toNat (w64 ((w64 ((List.getD x.2.2 (Int.toNat s.2) (((0 : Int), (0 : Int)), ((0 : Int), (0 : Int)))).2.2 * x.1)) + (List.getD x.2.2 (Int.toNat s.2) (((0 : Int), (0 : Int)), ((0 : Int), (0 : Int)))).2.1))) < (List.length y_4)) ∧
 (((Int.toNat (w64 ((w64 ((List.getD x.2.2 (Int.toNat s.2) (((0 : Int), (0 : Int)), ((0 : Int), (0 : Int)))).2.2 * x.1)) + (List.getD x.2.2 (Int.toNat s.2) (((0 : Int), (0 : Int)), ((0 : Int), (0 : Int)))).2.1))) < (List.length y_4)) ∧
 ((((0 : Int) ≤ (w64 ((w64 ((List.getD x.2.2 (Int.toNat s.2) (((0 : Int), (0 : Int)), ((0 : Int), (0 : Int)))).2.2 * x.1)) + (List.getD x.2.2 (Int.toNat s.2) (((0 : Int), (0 : Int)), ((0 : Int), (0 : Int)))).2.1))) ∧ ((w64 ((w64 ((List.getD x.2.2 (Int.toNat s.2) (((0 : Int), (0 : Int)), ((0 : Int), (0 : Int)))).2.2 * x.1)) + (List.getD x.2.2 (Int.toNat s.2) (((0 : Int), (0 : Int)), ((0 : Int), (0 : Int)))).2.1)) < (((List.length y_4) : Nat) : Int))) ∧
 (((Int.toNat (w64 ((w64 ((List.getD x.2.2 (Int.toNat s.2) (((0 : Int), (0 : Int)), ((0 : Int), (0 : Int)))).2.2 * x.1)) + (List.getD x.2.2 (Int.toNat s.2) (((0 : Int), (0 : Int)), ((0 : Int), (0 : Int)))).2.1))) < (List.length y_4)) ∧
 (((Int.toNat (w64 ((w64 ((List.getD x.2.2 (Int.toNat s.2) (((0 : Int), (0 : Int)), ((0 : Int), (0 : Int)))).2.2 * x.1)) + (List.getD x.2.2 (Int.toNat s.2) (((0 : Int), (0 : Int)), ((0 : Int), (0 : Int)))).2.1))) < (List.length y_4)) ∧
 ((Int.toNat (w64 ((w64 ((List.getD x.2.2 (Int.toNat s.2) (((0 : Int), (0 : Int)), ((0 : Int), (0 : Int)))).2.2 * x.1)) + (List.getD x.2.2 (Int.toNat s.2) (((0 : Int), (0 : Int)), ((0 : Int), (0 : Int)))).2.1))) < (List.length y_4))))))))))))))))))))))))))))))))))))))))) ∧
 (¬ (((List.getD x.2.1 (Int.toNat (w64 ((w64 ((List.getD x.2.2 (Int.toNat s.2) (((0 : Int), (0 : Int)), ((0 : Int), (0 : Int)))).2.2 * x.1)) + (List.getD x.2.2 (Int.toNat s.2) (((0 : Int), (0 : Int)), ((0 : Int), (0 : Int)))).2.1))) (0 : Int)) != (-1 : Int)) = true) →
 ((((0 : Int) ≤ (w64 ((w64 ((List.getD x.2.2 (Int.toNat s.2) (((0 : Int), (0 : Int)), ((0 : Int), (0 : Int)))).1.2 * x.1)) + (List.getD x.2.2 (Int.toNat s.2) (((0 : Int), (0 : Int)), ((0 : Int), (0 : Int)))).1.1))) ∧ ((w64 ((w64 ((List.getD x.2.2 (Int.toNat s.2) (((0 : Int), (0 : Int)), ((0 : Int), (0 : Int)))).1.2 * x.1)) + (List.getD x.2.2 (Int.toNat s.2) (((0 : Int), (0 : Int)), ((0 : Int), (0 : Int)))).1.1)) < (((List.length x.2.1) : Nat) : Int))) ∧
 (((Int.toNat (w64 ((w64 ((List.getD x.2.2 (Int.toNat s.2) (((0 : Int), (0 : Int)), ((0 : Int), (0 : Int)))).1.2 * x.1)) + (List.getD x.2.2 (Int.toNat s.2) (((0 : Int), (0 : Int)), ((0 : Int), (0 : Int)))).1.1))) < (List.length x.2.1)) ∧
 (((Int.toNat (w64 ((w64 ((List.getD x.2.2 (Int.toNat s.2) (((0 : Int), (0 : Int)), ((0 : Int), (0 : Int)))).1.2 * x.1)) + (List.getD x.2.2 (Int.toNat s.2) (((0 : Int), (0 : Int)), ((0 : Int), (0 : Int)))).1.1))) < (List.length x.2.1)) ∧
 ((((List.getD x.2.1 (Int.toNat (w64 ((w64 ((List.getD x.2.2 (Int.toNat s.2) (((0 : Int), (0 : Int)), ((0 : Int), (0 : Int)))).1.2 * x.1)) + (List.getD x.2.2 (Int.toNat s.2) (((0 : Int), (0 : Int)), ((0 : Int), (0 : Int)))).1.1))) (0 : Int)) != (-1 : Int)) = true) →
 ((((0 : Int) ≤ (w64 ((w64 ((List.getD x.2.2 (Int.toNat s.2) (((0 : Int), (0 : Int)), ((0 : Int), (0 : Int)))).2.2 * x.1)) + (List.getD x.2.2 (Int.toNat s.2) (((0 : Int), (0 : Int)), ((0 : Int), (0 : Int)))).2.1))) ∧ ((w64 ((w64 ((List.getD x.2.2 (Int.toNat s.2) (((0 : Int), (0 : Int)), ((0 : Int), (0 : Int)))).2.2 * x.1)) + (List.getD x.2.2 (Int.toNat s.2) (((0 : Int), (0 : Int)), ((0 : Int), (0 : Int)))).2.1)) < (((List.length s.1) : Nat) : Int))) ∧
 (((Int.toNat (w64 ((w64 ((List.getD x.2.2 (Int.toNat s.2) (((0 : Int), (0 : Int)), ((0 : Int), (0 : Int)))).2.2 * x.1)) + (List.getD x.2.2 (Int.toNat s.2) (((0 : Int), (0 : Int)), ((0 : Int), (0 : Int)))).2.1))) < (List.length s.1)) ∧
 (((Int.toNat (w64 ((w64 ((List.getD x.2.2 (Int.toNat s.2) (((0 : Int), (0 : Int)), ((0 : Int), (0 : Int)))).2.2 * x.1)) + (List.getD x.2.2 (Int.toNat s.2) (((0 : Int), (0 : Int)), ((0 : Int), (0 : Int)))).2.1))) < (List.length s.1)) ∧
 (((Int.toNat (w64 ((w64 ((List.getD x.2.2 (Int.toNat s.2) (((0 : Int), (0 : Int)), ((0 : Int), (0 : Int)))).2.2 * x.1)) + (List.getD x.2.2 (Int.toNat s.2) (((0 : Int), (0 : Int)), ((0 : Int), (0 : Int)))).2.1))) < (List.length s.1)) ∧
 ((((0 : Int) ≤ (w64 ((w64 ((List.getD x.2.2 (Int.toNat s.2) (((0 : Int), (0 : Int)), ((0 : Int), (0 : Int)))).2.2 * x.1)) + (List.getD x.2.2 (Int.toNat s.2) (((0 : Int), (0 : Int)), ((0 : Int), (0 : Int)))).2.1))) ∧ ((w64 ((w64 ((List.getD x.2.2 (Int.toNat s.2) (((0 : Int), (0 : Int)), ((0 : Int), (0 : Int)))).2.2 * x.1)) + (List.getD x.2.2 (Int.toNat s.2) (((0 : Int), (0 : Int)), ((0 : Int), (0 : Int)))).2.1)) < (((List.length s.1) : Nat) : Int))) ∧
 (((Int.toNat (w64 ((w64 ((List.getD x.2.2 (Int.toNat s.2) (((0 : Int), (0 : Int)), ((0 : Int), (0 : Int)))).2.2 * x.1)) + (List.getD x.2.2 (Int.toNat s.2) (((0 : Int), (0 : Int)), ((0 : Int), (0 : Int)))).2.1))) < (List.length s.1)) ∧
 (((Int.toNat (w64 ((w64 ((List.getD x.2.2 (Int.toNat s.2) (((0 : Int), (0 : Int)), ((0 : Int), (0 : Int)))).2.2 * x.1)) + (List.getD x.2.2 (Int.toNat s.2) (((0 : Int), (0 : Int)), ((0 : Int), (0 : Int)))).2.1))) < (List.length s.1)) ∧
 (((Int.toNat (w64 ((w64 ((List.getD x.2.2 (Int.toNat s.2) (((0 : Int), (0 : Int)), ((0 : Int), (0 : Int)))).2.2 * x.1)) + (List.getD x.2.2 (Int.toNat s.2) (((0 : Int), (0 : Int)), ((0 : Int), (0 : Int)))).2.1))) < (List.length s.1)) ∧
 (letP (List.set s.1 (Int.toNat (w64 ((w64 ((List.getD x.2.2 (Int.toNat s.2) (((0 : Int), (0 : Int)), ((0 : Int), (0 : Int)))).2.2 * x.1)) + (List.getD x.2.2 (Int.toNat s.2) (((0 : Int), (0 : Int)), ((0 : Int), (0 : Int)))).2.1))) ((w64 ((List.getD s.1 (Int.toNat (w64 ((w64 ((List.getD x.2.2 (Int.toNat s.2) (((0 : Int), (0 : Int)), ((0 : Int), (0 : Int)))).2.2 * x.1)) + (List.getD x.2.2 (Int.toNat s.2) (((0 : Int), (0 : Int)), ((0 : Int), (0 : Int)))).2.1))) ((0 : Int), (0 : Int))).1 + (List.getD x.2.1 (Int.toNat (w64 ((w64 ((List.getD x.2.2 (Int.toNat s.2) (((0 : Int), (0 : Int)), ((0 : Int), (0 : Int)))).1.2 * x.1)) + (List.getD x.2.2 (Int.toNat s.2) (((0 : Int), (0 : Int)), ((0 : Int), (0 : Int)))).1.1))) (0 : Int)))), (List.getD s.1 (Int.toNat (w64 ((w64 ((List.getD x.2.2 (Int.toNat s.2) (((0 : Int), (0 : Int)), ((0 : Int), (0 : Int)))).2.2 * x.1)) + (List.getD x.2.2 (Int.toNat s.2) (((0 : Int), (0 : Int)), ((0 : Int), (0 : Int)))).2.1))) ((0 : Int), (0 : Int))).2)) fun y_2 =>
 ((((0 : Int) ≤ (w64 ((w64 ((List.getD x.2.2 (Int.toNat s.2) (((0 : Int), (0 : Int)), ((0 : Int), (0 : Int)))).2.2 * x.1)) + (List.getD x.2.2 (Int.toNat s.2) (((0 : Int), (0 : Int)), ((0 : Int), (0 : Int)))).2.1))) ∧ ((w64 ((w64 ((List.getD x.2.2 (Int.toNat s.2) (((0 : Int), (0 : Int)), ((0 : Int), (0 : Int)))).2.2 * x.1)) + (List.getD x.2.2 (Int.toNat s.2) (((0 : Int), (0 : Int)), ((0 : Int), (0 : Int)))).2.1)) < (((List.length y_2) : Nat) : Int))) ∧
 (((Int.toNat (w64 ((w64 ((List.getD x.2.2 (Int.toNat s.2) (((0 : Int), (0 : Int)), ((0 : Int), (0 : Int)))).2.2 * x.1)) + (List.getD x.2.2 (Int.toNat s.2) (((0 : Int), (0 : Int)), ((0 : Int), (0 : Int)))).2.1))) < (List.length y_2)) ∧
 (((Int.toNat (w64 ((w64 ((List.getD x.2.2 (Int.toNat s.2) (((0 : Int), (0 : Int)), ((0 : Int), (0 : Int)))).2.2 * x.1)) + (List.getD x.2.2 (Int.toNat s.2) (((0 : Int), (0 : Int)), ((0 : Int), (0 : Int)))).2.1))) < (List.length y_2)) ∧
 (((Int.toNat (w64 ((w64 ((List.getD x.2.2 (Int.toNat s.2) (((0 : Int), (0 : Int)), ((0 : Int), (0 : Int)))).2.2 * x.1)) + (List.getD x.2.2 (Int.toNat s.2) (((0 : Int), (0 : Int)), ((0 : Int), (0 : Int)))).2.1))) < (List.length y_2)) ∧
 ((((0 : Int) ≤ (w64 ((w64 ((List.getD x.2.2 (Int.toNat s.2) (((0 : Int), (0 : Int)), ((0 : Int), (0 : Int)))).2.2 * x.1)) + (List.getD x.2.2 (Int.toNat s.2) (((0 : Int), (0 : Int)), ((0 : Int), (0 : Int)))).2.1))) ∧ ((w64 ((w64 ((List.getD x.2.2 (Int.toNat s.2) (((0 : Int), (0 : Int)), ((0 : Int), (0 : Int)))).2.2 * x.1)) + (List.getD x.2.2 (Int.toNat s.2) (((0 : Int), (0 : Int)), ((0 : Int), (0 : Int)))).2.1)) < (((List.length y_2) : Nat) : Int))) ∧
 (((Int.toNat (w64 ((w64 ((List.getD x.2.2 (Int.toNat s.2) (((0 : Int), (0 : Int)), ((0 : Int), (0 : Int)))).2.2 * x.1)) + (List.getD x.2.2 (Int.toNat s.2) (((0 : Int), (0 : Int)), ((0 : Int), (0 : Int)))).2.1))) < (List.length y_2)) ∧
 (((Int.toNat (w64 ((w64 ((List.getD x.2.2 (Int.toNat s.2) (((0 : Int), (0 : Int)), ((0 : Int), (0 : Int)))).2.2 * x.1)) + (List.getD x.2.2 (Int.toNat s.2) (((0 : Int), (0 : Int)), ((0 : Int), (0 : Int)))).2.1))) < (List.length y_2)) ∧
 ((Int.toNat (w64 ((w64 ((List.getD x.2.2 (Int.toNat s.2) (((0 : Int), (0 : Int)), ((0 : Int), (0 : Int)))).2.2 * x.1)) + (List.getD x.2.2 (Int.toNat s.2) (((0 : Int), (0 : Int)), ((0 : Int), (0 : Int)))).2.1))) < (List.length y_2)))))))))))))))))))))))))))))))))))
noncomputable def level_l2_t (x : (Int × ((List Int) × (List (I2 × I2))))) (s : ((List I2) × Int)) : Tr (((List I2) × Int) ⊕ (Unit ⊕ (List I2))) true :=
 (.i10 (s.2 < (((List.length x.2.2) : Nat) : Int))
 (.oR s.2 (((List.length x.2.2) : Nat) : Int)
 (.od ((Int.toNat s.2) < (List.length x.2.2))
 (.od ((Int.toNat s.2) < (List.length x.2.2))
 (.fn lin_S ((List.getD x.2.2 (Int.toNat s.2) (zz2, zz2)).1, (x.1, x.2.1)) fun y =>
 (.b01 (!y)
 (.ret (.inr (Sum.inl ())))
 (.fn lin_S ((List.getD x.2.2 (Int.toNat s.2) (zz2, zz2)).2, (x.1, x.2.1)) fun y_1 =>
 (.b01 (!y_1)
 (.ret (.inr (Sum.inl ())))
 (.oR (w64 ((w64 ((List.getD x.2.2 (Int.toNat s.2) (zz2, zz2)).2.2 * x.1)) + (List.getD x.2.2 (Int.toNat s.2) (zz2, zz2)).2.1)) (((List.length x.2.1) : Nat) : Int)
 (.od ((Int.toNat (w64 ((w64 ((List.getD x.2.2 (Int.toNat s.2) (zz2, zz2)).2.2 * x.1)) + (List.getD x.2.2 (Int.toNat s.2) (zz2, zz2)).2.1))) < (List.length x.2.1))
 (.od ((Int.toNat (w64 ((w64 ((List.getD x.2.2 (Int.toNat s.2) (zz2, zz2)).2.2 * x.1)) + (List.getD x.2.2 (Int.toNat s.2) (zz2, zz2)).2.1))) < (List.length x.2.1))
 (.allE
 (.b11 ((List.getD x.2.1 (Int.toNat (w64 ((w64 ((List.getD x.2.2 (Int.toNat s.2) (zz2, zz2)).2.2 * x.1)) + (List.getD x.2.2 (Int.toNat s.2) (zz2, zz2)).2.1))) (0 : Int)) != (-1 : Int))
 (.oR (w64 ((w64 ((List.getD x.2.2 (Int.toNat s.2) (zz2, zz2)).1.2 * x.1)) + (List.getD x.2.2 (Int.toNat s.2) (zz2, zz2)).1.1)) (((List.length s.1) : Nat) : Int)
 (.od ((Int.toNat (w64 ((w64 ((List.getD x.2.2 (Int.toNat s.2) (zz2, zz2)).1.2 * x.1)) + (List.getD x.2.2 (Int.toNat s.2) (zz2, zz2)).1.1))) < (List.length s.1))
 (.od ((Int.toNat (w64 ((w64 ((List.getD x.2.2 (Int.toNat s.2) (zz2, zz2)).1.2 * x.1)) + (List.getD x.2.2 (Int.toNat s.2) (zz2, zz2)).1.1))) < (List.length s.1))
 (.od ((Int.toNat (w64 ((w64 ((List.getD x.2.2 (Int.toNat s.2) (zz2, zz2)).1.2 * x.1)) + (List.getD x.2.2 (Int.toNat s.2) (zz2, zz2)).1.1))) < (List.length s.1))
 (.oR (w64 ((w64 ((List.getD x.2.2 (Int.toNat s.2) (zz2, zz2)).1.2 * x.1)) + (List.getD x.2.2 (Int.toNat s.2) (zz2, zz2)).1.1)) (((List.length s.1) : Nat) : Int)
 (.od ((Int.toNat (w64 ((w64 ((List.getD x.2.2 (Int.toNat s.2) (zz2, zz2)).1.2 * x.1)) + (List.getD x.2.2 (Int.toNat s.2) (zz2, zz2)).1.1))) < (List.length s.1))
 (.od ((Int.toNat (w64 ((w64 ((List.getD x.2.2 (Int.toNat s.2) (zz2, zz2)).1.2 * x.1)) + (List.getD x.2.2 (Int.toNat s.2) (zz2, zz2)).1.1))) < (List.length s.1))
 (.od ((Int.toNat (w64 ((w64 ((List.getD x.2.2 (Int.toNat s.2) (zz2, zz2)).1.2 * x.1)) + (List.getD x.2.2 (Int.toNat s.2) (zz2, zz2)).1.1))) < (List.length s.1))
 (.lt (List.set s.1 (Int.toNat (w64 ((w64 ((List.getD x.2.2 (Int.toNat s.2) (zz2, zz2)).1.2 * x.1)) + (List.getD x.2.2 (Int.toNat s.2) (zz2, zz2)).1.1))) ((w64 ((List.getD s.1 (Int.toNat (w64 ((w64 ((List.getD x.2.2 (Int.toNat s.2) (zz2, zz2)).1.2 * x.1)) + (List.getD x.2.2 (Int.toNat s.2) (zz2, zz2)).1.1))) zz2).1 + (List.getD x.2.1 (Int.toNat (w64 ((w64 ((List.getD x.2.2 (Int.toNat s.2) (zz2, zz2)).2.2 * x.1)) + (List.getD x.2.2 (Int.toNat s.2) (zz2, zz2)).2.1))) (0 : Int)))), (List.getD s.1 (Int.toNat (w64 ((w64 ((List.getD x.2.2 (Int.toNat s.2) (zz2, zz2)).1.2 * x.1)) + (List.getD x.2.2 (Int.toNat s.2) (zz2, zz2)).1.1))) zz2).2)) fun y_2 =>
 (.oR (w64 ((w64 ((List.getD x.2.2 (Int.toNat s.2) (zz2, zz2)).1.2 * x.1)) + (List.getD x.2.2 (Int.toNat s.2) (zz2, zz2)).1.1)) (((List.length y_2) : Nat) : Int)
 (.od ((Int.toNat (w64 ((w64 ((List.getD x.2.2 (Int.toNat s.2) (zz2, zz2)).1.2 * x.1)) + (List.getD x.2.2 (Int.toNat s.2) (zz2, zz2)).1.1))) < (List.length y_2))
 (.od ((Int.toNat (w64 ((w64 ((List.getD x.2.2 (Int.toNat s.2) (zz2, zz2)).1.2 * x.1)) + (List.getD x.2.2 (Int.toNat s.2) (zz2, zz2)).1.1))) < (List.length y_2))
 (.od ((Int.toNat (w64 ((w64 ((List.getD x.2.2 (Int.toNat s.2) (zz2, zz2)).1.2 * x.1)) + (List.getD x.2.2 (Int.toNat s.2) (zz2, zz2)).1.1))) < (List.length y_2))
 (.oR (w64 ((w64 ((List.getD x.2.2 (Int.toNat s.2) (zz2, zz2)).1.2 * x.1)) + (List.getD x.2.2 (Int.toNat s.2) (zz2, zz2)).1.1)) (((List.length y_2) : Nat) : Int)
 (.od ((Int.toNat (w64 ((w64 ((List.getD x.2.2 (Int.toNat s.2) (zz2, zz2)).1.2 * x.1)) + (List.getD x.2.2 (Int.toNat s.2) (zz2, zz2)).1.1))) < (List.length y_2))
 (.od ((Int.toNat (w64 ((w64 ((List.getD x.2.2 (Int.toNat s.2) (zz2, zz2)).1.2 * x.1)) + (List.getD x.2.2 (Int.toNat s.2) (zz2, zz2)).1.1))) < (List.length y_2))
 (.od ((Int.toNat (w64 ((w64 ((List.getD x.2.2 (Int.toNat s.2) (zz2, zz2)).1.2 * x.1)) + (List.getD x.2.2 (Int.toNat s.2) (zz2, zz2)).1.1))) < (List.length y_2))
 (.lt (List.set y_2 (Int.toNat (w64 ((w64 ((List.getD x.2.2 (Int.toNat s.2) (zz2, zz2)).1.2 * x.1)) + (List.getD x.2.2 (Int.toNat s.2) (zz2, zz2)).1.1))) ((List.getD y_2 (Int.toNat (w64 ((w64 ((List.getD x.2.2 (Int.toNat s.2) (zz2, zz2)).1.2 * x.1)) + (List.getD x.2.2 (Int.toNat s.2) (zz2, zz2)).1.1))) zz2).1, (w64 ((List.getD y_2 (Int.toNat (w64 ((w64 ((List.getD x.2.2 (Int.toNat s.2) (zz2, zz2)).1.2 * x.1)) + (List.getD x.2.2 (Int.toNat s.2) (zz2, zz2)).1.1))) zz2).2 + (1 : Int))))) fun y_3 =>
 (.pn 0 7
 (.oR (w64 ((w64 ((List.getD x.2.2 (Int.toNat s.2) (zz2, zz2)).1.2 * x.1)) + (List.getD x.2.2 (Int.toNat s.2) (zz2, zz2)).1.1)) (((List.length x.2.1) : Nat) : Int)
 (.od ((Int.toNat (w64 ((w64 ((List.getD x.2.2 (Int.toNat s.2) (zz2, zz2)).1.2 * x.1)) + (List.getD x.2.2 (Int.toNat s.2) (zz2, zz2)).1.1))) < (List.length x.2.1))
 (.od ((Int.toNat (w64 ((w64 ((List.getD x.2.2 (Int.toNat s.2) (zz2, zz2)).1.2 * x.1)) + (List.getD x.2.2 (Int.toNat s.2) (zz2, zz2)).1.1))) < (List.length x.2.1))
 (.allE
 (.b10 ((List.getD x.2.1 (Int.toNat (w64 ((w64 ((List.getD x.2.2 (Int.toNat s.2) (zz2, zz2)).1.2 * x.1)) + (List.getD x.2.2 (Int.toNat s.2) (zz2, zz2)).1.1))) (0 : Int)) != (-1 : Int))
 (.oR (w64 ((w64 ((List.getD x.2.2 (Int.toNat s.2) (zz2, zz2)).2.2 * x.1)) + (List.getD x.2.2 (Int.toNat s.2) (zz2, zz2)).2.1)) (((List.length y_3) : Nat) : Int)
 (.od ((Int.toNat (w64 ((w64 ((List.getD x.2.2 (Int.toNat s.2) (zz2, zz2)).2.2 * x.1)) + (List.getD x.2.2 (Int.toNat s.2) (zz2, zz2)).2.1))) < (List.length y_3))
 (.od ((Int.toNat (w64 ((w64 ((List.getD x.2.2 (Int.toNat s.2) (zz2, zz2)).2.2 * x.1)) + (List.getD x.2.2 (Int.toNat s.2) (zz2, zz2)).2.1))) < (List.length y_3))
 (.od ((Int.toNat (w64 ((w64 ((List.getD x.2.2 (Int.toNat s.2) (zz2, zz2)).2.2 * x.1)) + (List.getD x.2.2 (Int.toNat s.2) (zz2, zz2)).2.1))) < (List.length y_3))
 (.oR (w64 ((w64 ((List.getD x.2.2 (Int.toNat s.2) (zz2, zz2)).2.2 * x.1)) + (List.getD x.2.2 (Int.toNat s.2) (zz2, zz2)).2.1)) (((List.length y_3) : Nat) : Int)
 (.od ((Int.toNat (w64 ((w64 ((List.getD x.2.2 (Int.toNat s.2) (zz2, zz2)).2.2 * x.1)) + (List.getD x.2.2 (Int.toNat s.2) (zz2, zz2)).2.1))) < (List.length y_3))
 (.od ((Int.toNat (w64 ((w64 ((List.getD x.2.2 (Int.toNat s.2) (zz2, zz2)).2.2 * x.1)) + (List.getD x.2.2 (Int.toNat s.2) (zz2, zz2)).2.1))) < (List.length y_3))
 (.od ((Int.toNat (w64 ((w64 ((List.getD x.2.2 (Int.toNat s.2) (zz2, zz2)).2.2 * x.1)) + (List.getD x.2.2 (Int.toNat s.2) (zz2, zz2)).2.1))) < (List.length y_3))
 (.lt (List.set y_3 (Int.toNat (w64 ((w64 ((List.getD x.2.2 (Int.toNat s.2) (zz2, zz2)).2.2 * x.1)) + (List.getD x.2.2 (Int.toNat s.2) (zz2, zz2)).2.1))) ((w64 ((List.getD y_3 (Int.toNat (w64 ((w64 ((List.getD x.2.2 (Int.toNat s.2) (zz2, zz2)).2.2 * x.1)) + (List.getD x.2.2 (Int.toNat s.2) (zz2, zz2)).2.1))) zz2).1 + (List.getD x.2.1 (Int.toNat (w64 ((w64 ((List.getD x.2.2 (Int.toNat s.2) (zz2, zz2)).1.2 * x.1)) + (List.getD x.2.2 (Int.toNat s.2) (zz2, zz2)).1.1))) (0 : Int)))), (List.getD y_3 (Int.toNat (w64 ((w64 ((List.getD x.2.2 (Int.toNat s.2) (zz2, zz2)).2.2 * x.1)) + (List.getD x.2.2 (Int.toNat s.2) (zz2, zz2)).2.1))) zz2).2)) fun y_4 =>
 (.oR (w64 ((w64 ((List.getD x.2.2 (Int.toNat s.2) (zz2, zz2)).2.2 * x.1)) + (List.getD x.2.2 (Int.toNat s.2) (zz2, zz2)).2.1)) (((List.length y_4) : Nat) : Int)
 (.od ((Int.toNat (w64 ((w64 ((List.getD x.2.2 (Int.toNat s.2) (zz2, zz2)).2.2 * x.1)) + (List.getD x.2.2 (Int.toNat s.2) (zz2, zz2)).2.1))) < (List.length y_4))
 (.od ((Int.toNat (w64 ((w64 ((List.getD x.2.2 (Int.toNat s.2) (zz2, zz2)).2.2 * x.1)) + (List.getD x.2.2 (Int.toNat s.2) (zz2, zz2)).2.1))) < (List.length y_4))
 (.od ((Int.toNat (w64 ((w64 ((List.getD x.2.2 (Int.toNat s.2) (zz2, zz2)).2.2 * x.1)) + (List.getD x.2.2 (Int.toNat s.2) (zz2, zz2)).2.1))) < (List.length y_4))
 (.oR (w64 ((w64 ((List.getD x.2.2 (Int.toNat s.2) (zz2, zz2)).2.2 * x.1)) + (List.getD x.2.2 (Int.toNat s.2) (zz2, zz2)).2.1)) (((List.length y_4) : Nat) : Int)
 (.od ((Int.toNat (w64 ((w64 ((List.getD x.2.2 (Int.toNat s.2) (zz2, zz2)).2.2 * x.1)) + (List.getD x.2.2 (Int.toNat s.2) (zz2, zz2)).2.1))) < (List.length y_4))
 (.od ((Int.toNat (w64 ((w64 ((List.getD x.2.2 (Int.toNat s.2) (zz2, zz2)).2.2 * x.1)) + (List.getD x.2.2 (Int.toNat s.2) (zz2, zz2)).2.1))) < (List.length y_4))
 (.od ((Int.toNat (w64 ((w64 ((List.getD x.2.2 (Int.toNat s.2) (zz2, zz2)).2.2 * x.1)) + (List.getD x.2.2 (Int.toNat s.2) (zz2, zz2)).2.1))) < (List.length y_4))
 (.lt (List.set y_4 (Int.toNat (w64 ((w64 ((List.getD x.2.2 (Int.toNat s.2) (zz2, zz2)).2.2 * x.1)) + (List.getD x.2.2 (Int.toNat s.2) (zz2, zz2)).2.1))) ((List.getD y_4 (Int.toNat (w64 ((w64 ((List.getD x.2.2 (Int.toNat s.2) (zz2, zz2)).2.2 * x.1)) + (List.getD x.2.2 (Int.toNat s.2) (zz2, zz2)).2.1))) zz2).1, (w64 ((List.getD y_4 (Int.toNat (w64 ((w64 ((List.getD x.2.2 (Int.toNat s.2) (zz2, zz2)).2.2 * x.1)) + (List.getD x.2.2 (Int.toNat s.2) (zz2, zz2)).2.1))) zz2).2 + (1 : Int))))) fun y_5 =>
 (.pn 1 8
 (.ret (.inl (y_5, (w64 (s.2 + (1 : Int)))))))))))))))))))))))))
 (.pn 1 8
 (.ret (.inl (y_3, (w64 (s.2 + (1 : Int)))))))))))))))))))))))))))))))
 (.pn 0 7
 (.oR (w64 ((w64 ((List.getD x.2.2 (Int.toNat s.2) (zz2, zz2)).1.2 * x.1)) + (List.getD x.2.2 (Int.toNat s.2) (zz2, zz2)).1.1)) (((List.length x.2.1) : Nat) : Int)
 (.od ((Int.toNat (w64 ((w64 ((List.getD x.2.2 (Int.toNat s.2) (zz2, zz2)).1.2 * x.1)) + (List.getD x.2.2 (Int.toNat s.2) (zz2, zz2)).1.1))) < (List.length x.2.1))
 (.od ((Int.toNat (w64 ((w64 ((List.getD x.2.2 (Int.toNat s.2) (zz2, zz2)).1.2 * x.1)) + (List.getD x.2.2 (Int.toNat s.2) (zz2, zz2)).1.1))) < (List.length x.2.1))
 (.allE
 (.b10 ((List.getD x.2.1 (Int.toNat (w64 ((w64 ((List.getD x.2.2 (Int.toNat s.2) (zz2, zz2)).1.2 * x.1)) + (List.getD x.2.2 (Int.toNat s.2) (zz2, zz2)).1.1))) (0 : Int)) != (-1 : Int))
 (.oR (w64 ((w64 ((List.getD x.2.2 (Int.toNat s.2) (zz2, zz2)).2.2 * x.1)) + (List.getD x.2.2 (Int.toNat s.2) (zz2, zz2)).2.1)) (((List.length s.1) : Nat) : Int)
 (.od ((Int.toNat (w64 ((w64 ((List.getD x.2.2 (Int.toNat s.2) (zz2, zz2)).2.2 * x.1)) + (List.getD x.2.2 (Int.toNat s.2) (zz2, zz2)).2.1))) < (List.length s.1))
 (.od ((Int.toNat (w64 ((w64 ((List.getD x.2.2 (Int.toNat s.2) (zz2, zz2)).2.2 * x.1)) + (List.getD x.2.2 (Int.toNat s.2) (zz2, zz2)).2.1))) < (List.length s.1))
 (.od ((Int.toNat (w64 ((w64 ((List.getD x.2.2 (Int.toNat s.2) (zz2, zz2)).2.2 * x.1)) + (List.getD x.2.2 (Int.toNat s.2) (zz2, zz2)).2.1))) < (List.length s.1))
 (.oR (w64 ((w64 ((List.getD x.2.2 (Int.toNat s.2) (zz2, zz2)).2.2 * x.1)) + (List.getD x.2.2 (Int.toNat s.2) (zz2, zz2)).2.1)) (((List.length s.1) : Nat) : Int)
 (.od ((Int.toNat (w64 ((w64 ((List.getD x.2.2 (Int.toNat s.2) (zz2, zz2)).2.2 * x.1)) + (List.getD x.2.2 (Int.toNat s.2) (zz2, zz2)).2.1))) < (List.length s.1))
 (.od ((Int.toNat (w64 ((w64 ((List.getD x.2.2 (Int.toNat s.2) (zz2, zz2)).2.2 * x.1)) + (List.getD x.2.2 (Int.toNat s.2) (zz2, zz2)).2.1))) < (List.length s.1))
 (.od ((Int.toNat (w64 ((w64 ((List.getD x.2.2 (Int.toNat s.2) (zz2, zz2)).2.2 * x.1)) + (List.getD x.2.2 (Int.toNat s.2) (zz2, zz2)).2.1))) < (List.length s.1))
 (.lt (List.set s.1 (Int.toNat (w64 ((w64 ((List.getD x.2.2 (Int.toNat s.2) (zz2, zz2)).2.2 * x.1)) + (List.getD x.2.2 (Int.toNat s.2) (zz2, zz2)).2.1))) ((w64 ((List.getD s.1 (Int.toNat (w64 ((w64 ((List.getD x.2.2 (Int.toNat s.2) (zz2, zz2)).2.2 * x.1)) + (List.getD x.2.2 (Int.toNat s.2) (zz2, zz2)).2.1))) zz2).1 + (List.getD x.2.1 (Int.toNat (w64 ((w64 ((List.getD x.2.2 (Int.toNat s.2) (zz2, zz2)).1.2 * x.1)) + (List.getD x.2.2 (Int.toNat s.2) (zz2, zz2)).1.1))) (0 : Int)))), (List.getD s.1 (Int.toNat (w64 ((w64 ((List.getD x.2.2 (Int.toNat s.2) (zz2, zz2)).2.2 * x.1)) + (List.getD x.2.2 (Int.toNat s.2) (zz2, zz2)).2.1))) zz2).2)) fun y_2 =>
 (.oR (w64 ((w64 ((List.getD x.2.2 (Int.toNat s.2) (zz2, zz2)).2.2 * x.1)) + (List.getD x.2.2 (Int.toNat s.2) (zz2, zz2)).2.1)) (((List.length y_2) : Nat) : Int)
 (.od ((Int.toNat (w64 ((w64 ((List.getD x.2.2 (Int.toNat s.2) (zz2, zz2)).2.2 * x.1)) + (List.getD x.2.2 (Int.toNat s.2) (zz2, zz2)).2.1))) < (List.length y_2))
 (.od ((Int.toNat (w64 ((w64 ((List.getD x.2.2 (Int.toNat s.2) (zz2, zz2)).2.2 * x.1)) + (List.getD x.2.2 (Int.toNat s.2) (zz2, zz2)).2.1))) < (List.length y_2))
 (.od ((Int.toNat (w64 ((w64 ((List.getD x.2.2 (Int.toNat s.2) (zz2, zz2)).2.2 * x.1)) + (List.getD x.2.2 (Int.toNat s.2) (zz2, zz2)).2.1))) < (List.length y_2))
 (.oR (w64 ((w64 ((List.getD x.2.2 (Int.toNat s.2) (zz2, zz2)).2.2 * x.1)) + (List.getD x.2.2 (Int.toNat s.2) (zz2, zz2)).2.1)) (((List.length y_2) : Nat) : Int)
 (.od ((Int.toNat (w64 ((w64 ((List.getD x.2.2 (Int.toNat s.2) (zz2, zz2)).2.2 * x.1)) + (List.getD x.2.2 (Int.toNat s.2) (zz2, zz2)).2.1))) < (List.length y_2))
 (.od ((Int.toNat (w64 ((w64 ((List.getD x.2.2 (Int.toNat s.2) (zz2, zz2)).2.2 * x.1)) + (List.getD x.2.2 (Int.toNat s.2) (zz2, zz2)).2.1))) < (List.length y_2))
 (.od ((Int.toNat (w64 ((w64 ((List.getD x.2.2 (Int.toNat s.2) (zz2, zz2)).2.2 * x.1)) + (List.getD x.2.2 (Int.toNat s.2) (zz2, zz2)).2.1))) < (List.length y_2))
 (.lt (List.set y_2 (Int.toNat (w64 ((w64 ((List.getD x.2.2 (Int.toNat s.2) (zz2, zz2)).2.2 * x.1)) + (List.getD x.2.2 (Int.toNat s.2) (zz2, zz2)).2.1))) ((List.getD y_2 (Int.toNat (w64 ((w64 ((List.getD x.2.2 (Int.toNat s.2) (zz2, zz2)).2.2 * x.1)) + (List.getD x.2.2 (Int.toNat s.2) (zz2, zz2)).2.1))) zz2).1, (w64 ((List.getD y_2 (Int.toNat (w64 ((w64 ((List.getD x.2.2 (Int.toNat s.2) (zz2, zz2)).2.2 * x.1)) + (List.getD x.2.2 (Int.toNat s.2) (zz2, zz2)).2.1))) zz2).2 + (1 : Int))))) fun y_3 =>
 (.pn 1 8
 (.ret (.inl (y_3, (w64 (s.2 + (1 : Int)))))))))))))))))))))))))
 (.pn 1 8
 (.ret (.inl (s.1, (w64 (s.2 + (1 : Int)))))))))))))))))))))))))
 (.ret (.inr (Sum.inr (s.1)))))
noncomputable def level_l4 (x : (Int × ((List Int) × (List (I2 × I2))))) : LoopD := ⟨[], ⟨pvs 141 0 [(10, .v (.one (.ptr 0 0))), (18, .v (.one (.full 2))), (116, .v (.one (.full 3))), (117, .v (.one (.i .i64))), (118, .v (.one (.i .i64)))], [.cells [.full 1] 56, .row yy2 2, .row yi 2, .row yi 0], 0, none, [], [0, 4], [2, 3, 1], [(.l yy2), (.l yi), .i], [.i (((List.length x.2.1) : Nat) : Int), .l yi x.2.1]⟩, [⟨(.exit 4), .normal, ⟨pvs 141 0 [(18, .v (.one (.full 0)))], [.row yi 2], 0, none, [], [], [0], [(.l yi)], []⟩⟩]⟩
noncomputable def level_l4_step (x : (Int × ((List Int) × (List (I2 × I2))))) (s : ((List I2) × ((List Int) × Int))) : ((List I2) × ((List Int) × Int)) ⊕ (List Int) :=
 (if (s.2.2 < (((List.length x.2.1) : Nat) : Int)) then
 (if (((List.getD x.2.1 (Int.toNat s.2.2) (0 : Int)) != (-1 : Int)) = true) then
 (letV (List.set s.2.1 (Int.toNat s.2.2) (w64 (Int.tdiv (List.getD s.1 (Int.toNat s.2.2) ((0 : Int), (0 : Int))).1 (List.getD s.1 (Int.toNat s.2.2) ((0 : Int), (0 : Int))).2))) fun y =>
 (Sum.inl (s.1, (y, (w64 (s.2.2 + (1 : Int))))))) else
 (Sum.inl (s.1, (s.2.1, (w64 (s.2.2 + (1 : Int))))))) else
 (Sum.inr (s.2.1)))
noncomputable def level_l4_pre (x : (Int × ((List Int) × (List (I2 × I2))))) (s : ((List I2) × ((List Int) × Int))) : Prop :=
 ((s.2.2 < (((List.length x.2.1) : Nat) : Int)) →
 ((((0 : Int) ≤ s.2.2) ∧ (s.2.2 < (((List.length x.2.1) : Nat) : Int))) ∧
 (((Int.toNat s.2.2) < (List.length x.2.1)) ∧
 (((Int.toNat s.2.2) < (List.length x.2.1)) ∧
 ((((List.getD x.2.1 (Int.toNat s.2.2) (0 : Int)) != (-1 : Int)) = true) →
 ((((0 : Int) ≤ s.2.2) ∧ (s.2.2 < (((List.length s.1) : Nat) : Int))) ∧
 (((Int.toNat s.2.2) < (List.length s.1)) ∧
 (((Int.toNat s.2.2) < (List.length s.1)) ∧
 (((Int.toNat s.2.2) < (List.length s.1)) ∧
 ((((0 : Int) ≤ s.2.2) ∧ (s.2.2 < (((List.length s.1) : Nat) : Int))) ∧
 (((Int.toNat s.2.2) < (List.length s.1)) ∧
 (((Int.toNat s.2.2) < (List.length s.1)) ∧
 (((Int.toNat s.2.2) < (List.length s.1)) ∧
 (((List.getD s.1 (Int.toNat s.2.2) ((0 : Int), (0 : Int))).2 ≠ (0 : Int)) ∧
 ((((0 : Int) ≤ s.2.2) ∧ (s.2.2 < (((List.length s.2.1) : Nat) : Int))) ∧
 (((Int.toNat s.2.2) < (List.length s.2.1)) ∧
 ((Int.toNat s.2.2) < (List.length s.2.1))))))))))))))))))
noncomputable def level_l4_t (x : (Int × ((List Int) × (List (I2 × I2))))) (s : ((List I2) × ((List Int) × Int))) : Tr (((List I2) × ((List Int) × Int)) ⊕ (List Int)) true :=
 (.i10 (s.2.2 < (((List.length x.2.1) : Nat) : Int))
 (.oR s.2.2 (((List.length x.2.1) : Nat) : Int)
 (.od ((Int.toNat s.2.2) < (List.length x.2.1))
 (.od ((Int.toNat s.2.2) < (List.length x.2.1))
 (.b10 ((List.getD x.2.1 (Int.toNat s.2.2) (0 : Int)) != (-1 : Int))
 (.oR s.2.2 (((List.length s.1) : Nat) : Int)
 (.od ((Int.toNat s.2.2) < (List.length s.1))
 (.od ((Int.toNat s.2.2) < (List.length s.1))
 (.od ((Int.toNat s.2.2) < (List.length s.1))
 (.oR s.2.2 (((List.length s.1) : Nat) : Int)
 (.od ((Int.toNat s.2.2) < (List.length s.1))
 (.od ((Int.toNat s.2.2) < (List.length s.1))
 (.od ((Int.toNat s.2.2) < (List.length s.1))
 (.od ((List.getD s.1 (Int.toNat s.2.2) zz2).2 ≠ (0 : Int))
 (.oR s.2.2 (((List.length s.2.1) : Nat) : Int)
 (.od ((Int.toNat s.2.2) < (List.length s.2.1))
 (.od ((Int.toNat s.2.2) < (List.length s.2.1))
 (.lt (List.set s.2.1 (Int.toNat s.2.2) (w64 (Int.tdiv (List.getD s.1 (Int.toNat s.2.2) zz2).1 (List.getD s.1 (Int.toNat s.2.2) zz2).2))) fun y =>
 (.ret (.inl (s.1, (y, (w64 (s.2.2 + (1 : Int))))))))))))))))))))
 (.ret (.inl (s.1, (s.2.1, (w64 (s.2.2 + (1 : Int)))))))))))
 (.ret (.inr (s.2.1))))
noncomputable def level (x : (Int × ((List Int) × (List (I2 × I2))))) : ((List Int) × Int) :=
 (if (x.1 < (1 : Int)) then
 ([], (1 : Int)) else
 (if (x.1 > (256 : Int)) then
 ([], (1 : Int)) else
 (if (((Int.tmod (((List.length x.2.1) : Nat) : Int) x.1) != (0 : Int)) = true) then
 ([], (1 : Int)) else
 (if ((((List.length x.2.1) : Nat) : Int) > (w64 (x.1 * (256 : Int)))) then
 ([], (1 : Int)) else
 (letV (containsL (x.2.1, false)) fun y =>
 (if (y = true) then
 ([], (1 : Int)) else
 (letV (run (level_l0_step x) ((List.replicate (List.length x.2.1) ((0 : Int), (0 : Int))), (0 : Int))) fun r =>
 (letV (run (level_l2_step x) (r, (0 : Int))) fun r_1 =>
 (Sum.elim (fun a =>
 ([], (1 : Int))) (fun b =>
 (letV (cloneI x.2.1) fun y_1 =>
 (letV (run (level_l4_step x) (b, (y_1, (0 : Int)))) fun r_2 =>
 (r_2, (0 : Int))))) r_1)))))))))
noncomputable def level_pre (x : (Int × ((List Int) × (List (I2 × I2))))) : Prop :=
 (¬ (x.1 < (1 : Int)) →
 (¬ (x.1 > (256 : Int)) →
 ((x.1 ≠ (0 : Int)) ∧
 (¬ (((Int.tmod (((List.length x.2.1) : Nat) : Int) x.1) != (0 : Int)) = true) →
 (¬ ((((List.length x.2.1) : Nat) : Int) > (w64 (x.1 * (256 : Int)))) →
 ((containsL_pre (x.2.1, false)) ∧
 letP (containsL (x.2.1, false)) fun y =>
 (¬ (y = true) →
 ((((((List.length x.2.1) : Nat) : Int) ≤ (((List.length x.2.1) : Nat) : Int)) ∧ ((List.length x.2.1) < 1099511627776)) ∧
 (Term (level_l0_step x) (level_l0_pre x) ((List.replicate (List.length x.2.1) ((0 : Int), (0 : Int))), (0 : Int)) ∧
 letP (run (level_l0_step x) ((List.replicate (List.length x.2.1) ((0 : Int), (0 : Int))), (0 : Int))) fun r =>
 (Term (level_l2_step x) (level_l2_pre x) (r, (0 : Int)) ∧
 letP (run (level_l2_step x) (r, (0 : Int))) fun r_1 =>
 (cS r_1 (fun a =>
 True) (fun b =>
 ((cloneI_pre x.2.1) ∧
 letP (cloneI x.2.1) fun y_1 =>
 (Term (level_l4_step x) (level_l4_pre x) (b, (y_1, (0 : Int)))))))))))))))))
noncomputable def level_t (x : (Int × ((List Int) × (List (I2 × I2))))) : Tr ((List Int) × Int) true :=
 (.i01 (x.1 < (1 : Int))
 (.ret ([], (1 : Int)))
 (.i01 (x.1 > (256 : Int))
 (.ret ([], (1 : Int)))
 (.od (x.1 ≠ (0 : Int))
 (.b01 ((Int.tmod (((List.length x.2.1) : Nat) : Int) x.1) != (0 : Int))
 (.ret ([], (1 : Int)))
 (.i01 ((((List.length x.2.1) : Nat) : Int) > (w64 (x.1 * (256 : Int))))
 (.ret ([], (1 : Int)))
 (.fn containsL_S (x.2.1, false) fun y =>
 (.b01 y
 (.ret ([], (1 : Int)))
 (.og (((decide ((0 : Int) ≤ (((List.length x.2.1) : Nat) : Int))) && (decide ((((List.length x.2.1) : Nat) : Int) ≤ (((List.length x.2.1) : Nat) : Int)))) && (decide ((List.length x.2.1) < 1099511627776))) (((((List.length x.2.1) : Nat) : Int) ≤ (((List.length x.2.1) : Nat) : Int)) ∧ ((List.length x.2.1) < 1099511627776)) (fun h => (and_t (and_t rfl (decide_eq_true h.1)) (decide_eq_true h.2)))
 (LoopD.lp (level_l0 x) (level_l0_t x) ((List.replicate (List.length x.2.1) zz2), (0 : Int)) fun r =>
 (LoopD.lp (level_l2 x) (level_l2_t x) (r, (0 : Int)) fun r_1 =>
 (.s01 r_1 (fun a =>
 (.ret ([], (1 : Int)))) (fun b =>
 (.fn cloneI_S x.2.1 fun y_1 =>
 (LoopD.lp (level_l4 x) (level_l4_t x) (b, (y_1, (0 : Int))) fun r_2 =>
 (.ret (r_2, (0 : Int)))))))))))))))))
noncomputable abbrev level_S : FnS := ⟨(.pair (.one yi) (.pair (.one (Ty.sl yi)) (.one (Ty.sl (Ty.prod yy2 yy2))))), (.pair (.one (Ty.sl yi)) (.one yi)), level_pre, level⟩
theorem level_ok : SpecOk Tryz.prog 7 (fnSpec level_S) := SpecOk.tr level_S level_t (fn := Tryz.f7) tt_ok sp_lin_ok mixed (by kernel_rfl) level_i.ok (fun x => (LpsOk.tr tt_ok (SpecsOk.ctxI sp_lin_ok level_i.ok) mixed 0 (level_l0 x) (level_l0_t x) (LpsOk.tr tt_ok (SpecsOk.ctxI sp_lin_ok level_i.ok) mixed 2 (level_l2 x) (level_l2_t x) (LpsOk.tr tt_ok (SpecsOk.ctxI sp_lin_ok level_i.ok) mixed 4 (level_l4 x) (level_l4_t x) LpsOk.nil (by kernel_rfl) fun g s Q => (by kernel_rfl)) (by kernel_rfl) fun g s Q => (by kernel_rfl)) (by kernel_rfl) fun g s Q => (by kernel_rfl))) (fun x => (by kernel_rfl)) fun x Q => (by kernel_rfl)
def sp_level : List (Nat × Ev.Spec) := (7, fnSpec level_S) :: sp_lin
theorem sp_level_ok : SpecsOk Tryz.prog sp_level := SpecsOk.add (fn := Tryz.f7) (by kernel_rfl) level_ok sp_lin_ok
noncomputable def r1same_l0 (x : ((List Int) × (List Int))) : LoopD := ⟨[], ⟨pvs 26 0 [(0, .v (.one (.full 0))), (1, .v (.one (.full 1))), (5, .v (.one (.i .i64)))], [.row yi 0, .row yi 0], 0, none, [], [1, 2], [0], [.i], [.l yi x.1, .l yi x.2]⟩, [⟨.ret, .ret, ⟨pvs 26 0 [(4, .v (.one (.b)))], [], 0, none, [], [0], [], [], [.b false]⟩⟩, ⟨(.exit 0), .normal, ⟨pvs 26 0 [], [], 0, none, [], [], [], [], []⟩⟩]⟩
noncomputable def r1same_l0_step (x : ((List Int) × (List Int))) (s : Int) : Int ⊕ (Unit ⊕ Unit) :=
 (if (s < (((List.length x.1) : Nat) : Int)) then
 (if (((List.getD x.1 (Int.toNat s) (0 : Int)) != (List.getD x.2 (Int.toNat s) (0 : Int))) = true) then
 (Sum.inr (Sum.inl ())) else
 (Sum.inl (w64 (s + (1 : Int))))) else
 (Sum.inr (Sum.inr (()))))
noncomputable def r1same_l0_pre (x : ((List Int) × (List Int))) (s : Int) : Prop :=
 ((s < (((List.length x.1) : Nat) : Int)) →
 ((((0 : Int) ≤ s) ∧ (s < (((List.length x.1) : Nat) : Int))) ∧
 (((Int.toNat s) < (List.length x.1)) ∧
 (((Int.toNat s) < (List.length x.1)) ∧
 ((((0 : Int) ≤ s) ∧ (s < (((List.length x.2) : Nat) : Int))) ∧
 (((Int.toNat s) < (List.length x.2)) ∧
 ((Int.toNat s) < (List.length x.2))))))))
noncomputable def r1same_l0_t (x : ((List Int) × (List Int))) (s : Int) : Tr (Int ⊕ (Unit ⊕ Unit)) true :=
 (.i10 (s < (((List.length x.1) : Nat) : Int))
 (.oR s (((List.length x.1) : Nat) : Int)
 (.od ((Int.toNat s) < (List.length x.1))
 (.od ((Int.toNat s) < (List.length x.1))
 (.oR s (((List.length x.2) : Nat) : Int)
 (.od ((Int.toNat s) < (List.length x.2))
 (.od ((Int.toNat s) < (List.length x.2))
 (.b00 ((List.getD x.1 (Int.toNat s) (0 : Int)) != (List.getD x.2 (Int.toNat s) (0 : Int)))
 (.ret (.inr (Sum.inl ())))
 (.ret (.inl (w64 (s + (1 : Int))))))))))))
 (.ret (.inr (Sum.inr (())))))
noncomputable def r1same (x : ((List Int) × (List Int))) : Bool :=
 (if (((((List.length x.1) : Nat) : Int) != (((List.length x.2) : Nat) : Int)) = true) then
 false else
 (letV (run (r1same_l0_step x) (0 : Int)) fun r =>
 (Sum.elim (fun a =>
 false) (fun b =>
 true) r)))
noncomputable def r1same_pre (x : ((List Int) × (List Int))) : Prop :=
 (¬ (((((List.length x.1) : Nat) : Int) != (((List.length x.2) : Nat) : Int)) = true) →
 (Term (r1same_l0_step x) (r1same_l0_pre x) (0 : Int)))
noncomputable def r1same_t (x : ((List Int) × (List Int))) : Tr Bool true :=
 (.b01 ((((List.length x.1) : Nat) : Int) != (((List.length x.2) : Nat) : Int))
 (.ret false)
 (LoopD.lp (r1same_l0 x) (r1same_l0_t x) (0 : Int) fun r =>
 (.s00 r (fun a =>
 (.ret false)) (fun b =>
 (.ret true)))))
noncomputable abbrev r1same_S : FnS := ⟨(.pair (.one (Ty.sl yi)) (.one (Ty.sl yi))), (.one Ty.bool), r1same_pre, r1same⟩
theorem r1same_ok : SpecOk Tryz.prog 9 (fnSpec r1same_S) := SpecOk.tr r1same_S r1same_t (fn := Tryz.f9) tt_ok sp_level_ok mixed (by kernel_rfl) (ItsOk.nil _ _) (fun x => (LpsOk.tr tt_ok (SpecsOk.ctxI sp_level_ok (ItsOk.nil _ _)) mixed 0 (r1same_l0 x) (r1same_l0_t x) LpsOk.nil (by kernel_rfl) fun g s Q => (by kernel_rfl))) (fun x => (by kernel_rfl)) fun x Q => (by kernel_rfl)
def sp_r1same : List (Nat × Ev.Spec) := (9, fnSpec r1same_S) :: sp_level
theorem sp_r1same_ok : SpecsOk Tryz.prog sp_r1same := SpecsOk.add (fn := Tryz.f9) (by kernel_rfl) r1same_ok sp_level_ok
end Go.Proofs.YtojielnkfeoccaaGreat
