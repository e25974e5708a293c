/- Models of the references of layers 4, 9, 10. -/
import Derived.Test.YtkbmjhabfjgoiaaGreatCc
noncomputable section
set_option linter.unusedSectionVars false
set_option linter.unusedVariables false
set_option linter.unusedSimpArgs false
namespace Go.Proofs.YtkbmjhabfjgoiaaGreat
open Go Go.Ev Go.Proofs
def r4near (x:Int) : Bool :=
 (if (x ≥ (-1048576:Int)) then
 (decide (x ≤ (1048576:Int))) else
 false)
def r4near_pre (_:Int) : Prop := True
def r4near_t (x:Int) : Tr Bool false :=
 (.i00 (x ≥ (-1048576:Int))
 (.ret (decide (x ≤ (1048576:Int))))
 (.ret false))
abbrev r4near_S : FnS := ⟨(.one yi),(.one Ty.bool),r4near_pre,r4near⟩
theorem r4near_ok : SpecOk Tryz.prog 101 (fnSpec r4near_S) := SpecOk.tr r4near_S r4near_t (fn := Tryz.f101) tt_ok sp_same15_ok mixed (by kernel_rfl) (ItsOk.nil _ _) (fun x => LpsOk.nil) (fun x => (by kernel_rfl)) fun x Q => (by kernel_rfl)
def sp_r4near : List (Nat × Ev.Spec) := (101,fnSpec r4near_S) :: sp_same15
theorem sp_r4near_ok : SpecsOk Tryz.prog sp_r4near := SpecsOk.add (fn := Tryz.f101) (by kernel_rfl) r4near_ok sp_same15_ok
def r4is2 (x : I2) : Bool :=
 (letV (r4near x.1) fun y =>
 (if (y = true) then
 (letV (r4near x.2) fun y_1 =>
 y_1) else
 false))
def r4is2_pre (_ : I2) : Prop := True
def r4is2_t (x : I2) : Tr Bool false :=
 (.fn0 r4near_S x.1 trivial fun y =>
 (.b00 y
 (.fn0 r4near_S x.2 trivial fun y_1 =>
 (.ret y_1))
 (.ret false)))
abbrev r4is2_S : FnS := ⟨(.agg yy2),(.one Ty.bool),r4is2_pre,r4is2⟩
theorem r4is2_ok : SpecOk Tryz.prog 88 (fnSpec r4is2_S) := SpecOk.tr r4is2_S r4is2_t (fn := Tryz.f88) tt_ok sp_r4near_ok mixed (by kernel_rfl) (ItsOk.nil _ _) (fun x => LpsOk.nil) (fun x => (by kernel_rfl)) fun x Q => (by kernel_rfl)
def sp_r4is2 : List (Nat × Ev.Spec) := (88,fnSpec r4is2_S) :: sp_r4near
theorem sp_r4is2_ok : SpecsOk Tryz.prog sp_r4is2 := SpecsOk.add (fn := Tryz.f88) (by kernel_rfl) r4is2_ok sp_r4near_ok
def r4is3 (x : I3) : Bool :=
 (letV (r4near x.1) fun y =>
 (if (y = true) then
 (letV (r4near x.2.1) fun y_1 =>
 (if (y_1 = true) then
 (letV (r4near x.2.2) fun y_2 =>
 y_2) else
 false)) else
 false))
def r4is3_pre (_ : I3) : Prop := True
def r4is3_t (x : I3) : Tr Bool false :=
 (.fn0 r4near_S x.1 trivial fun y =>
 (.b00 y
 (.fn0 r4near_S x.2.1 trivial fun y_1 =>
 (.b00 y_1
 (.fn0 r4near_S x.2.2 trivial fun y_2 =>
 (.ret y_2))
 (.ret false)))
 (.ret false)))
abbrev r4is3_S : FnS := ⟨(.agg yy3),(.one Ty.bool),r4is3_pre,r4is3⟩
theorem r4is3_ok : SpecOk Tryz.prog 87 (fnSpec r4is3_S) := SpecOk.tr r4is3_S r4is3_t (fn := Tryz.f87) tt_ok sp_r4is2_ok mixed (by kernel_rfl) (ItsOk.nil _ _) (fun x => LpsOk.nil) (fun x => (by kernel_rfl)) fun x Q => (by kernel_rfl)
def sp_r4is3 : List (Nat × Ev.Spec) := (87,fnSpec r4is3_S) :: sp_r4is2
theorem sp_r4is3_ok : SpecsOk Tryz.prog sp_r4is3 := SpecsOk.add (fn := Tryz.f87) (by kernel_rfl) r4is3_ok sp_r4is2_ok
def r4all2_l0 (x : (List I2)) : LoopD := ⟨[],⟨pvs 16 0 [(0,.v (.one (.full 0))),(3,.v (.one (.i .i64)))],[.row yy2 0],0,none,[],[1],[0],[.i],[.l yy2 x]⟩,[⟨.ret,.ret,⟨pvs 16 0 [(2,.v (.one (.b)))],[],0,none,[],[0],[],[],[.b false]⟩⟩,⟨(.exit 0),.normal,⟨pvs 16 0 [],[],0,none,[],[],[],[],[]⟩⟩]⟩
def r4all2_l0_step (x : (List I2)) (s:Int) : Int ⊕ (Unit ⊕ Unit) :=
 (if (s < (x.length:Int)) then
 (letV (r4is2 (List.getD x (Int.toNat s) ((0:Int),(0:Int)))) fun y =>
 (if ((!y) = true) then
 (Sum.inr (Sum.inl ())) else
 (Sum.inl (w64 (s + (1:Int)))))) else
 (Sum.inr (Sum.inr (()))))
def r4all2_l0_pre (x : (List I2)) (s:Int) : Prop :=
 ((s < (x.length:Int)) →
 ((((0:Int) ≤ s) ∧ (s < (x.length:Int))) ∧
 (((Int.toNat s) < (List.length x)) ∧
 ((Int.toNat s) < (List.length x)))))
def r4all2_l0_t (x : (List I2)) (s:Int) : Tr (Int ⊕ (Unit ⊕ Unit)) true :=
 (.i10 (s < (nL x))
 (.oI2 s x
 (.fn0 r4is2_S (gT x s zz2) trivial fun y =>
 (.b00 (!y)
 (.ret (.inr (Sum.inl ())))
 (.ret (.inl (w1 s))))))
 (.ret (.inr (Sum.inr (())))))
def r4all2 (x : (List I2)) : Bool :=
 (letV (run (r4all2_l0_step x) (0:Int)) fun r =>
 (Sum.elim (fun a =>
 false) (fun b =>
 true) r))
def r4all2_pre (x : (List I2)) : Prop :=
 (Term (r4all2_l0_step x) (r4all2_l0_pre x) (0:Int))
def r4all2_t (x : (List I2)) : Tr Bool true :=
 (LoopD.lp (r4all2_l0 x) (r4all2_l0_t x) z0 fun r =>
 (.s00 r (fun a =>
 (.ret false)) (fun b =>
 (.ret true))))
abbrev r4all2_S : FnS := ⟨(.one (Ty.sl yy2)),(.one Ty.bool),r4all2_pre,r4all2⟩
theorem r4all2_ok : SpecOk Tryz.prog 69 (fnSpec r4all2_S) := SpecOk.tr r4all2_S r4all2_t (fn := Tryz.f69) tt_ok sp_r4is3_ok mixed (by kernel_rfl) (ItsOk.nil _ _) (fun x => (LpsOk.tr tt_ok (SpecsOk.ctxI sp_r4is3_ok (ItsOk.nil _ _)) mixed 0 (r4all2_l0 x) (r4all2_l0_t x) LpsOk.nil (by kernel_rfl) fun g s Q => (by kernel_rfl))) (fun x => (by kernel_rfl)) fun x Q => (by kernel_rfl)
def sp_r4all2 : List (Nat × Ev.Spec) := (69,fnSpec r4all2_S) :: sp_r4is3
theorem sp_r4all2_ok : SpecsOk Tryz.prog sp_r4all2 := SpecsOk.add (fn := Tryz.f69) (by kernel_rfl) r4all2_ok sp_r4is3_ok
def r4all3_l0 (x : (List I3)) : LoopD := ⟨[],⟨pvs 16 0 [(0,.v (.one (.full 0))),(3,.v (.one (.i .i64)))],[.row yy3 0],0,none,[],[1],[0],[.i],[.l yy3 x]⟩,[⟨.ret,.ret,⟨pvs 16 0 [(2,.v (.one (.b)))],[],0,none,[],[0],[],[],[.b false]⟩⟩,⟨(.exit 0),.normal,⟨pvs 16 0 [],[],0,none,[],[],[],[],[]⟩⟩]⟩
def r4all3_l0_step (x : (List I3)) (s:Int) : Int ⊕ (Unit ⊕ Unit) :=
 (if (s < (x.length:Int)) then
 (letV (r4is3 (List.getD x (Int.toNat s) ((0:Int),((0:Int),(0:Int))))) fun y =>
 (if ((!y) = true) then
 (Sum.inr (Sum.inl ())) else
 (Sum.inl (w64 (s + (1:Int)))))) else
 (Sum.inr (Sum.inr (()))))
def r4all3_l0_pre (x : (List I3)) (s:Int) : Prop :=
 ((s < (x.length:Int)) →
 ((((0:Int) ≤ s) ∧ (s < (x.length:Int))) ∧
 (((Int.toNat s) < (List.length x)) ∧
 ((Int.toNat s) < (List.length x)))))
def r4all3_l0_t (x : (List I3)) (s:Int) : Tr (Int ⊕ (Unit ⊕ Unit)) true :=
 (.i10 (s < (nL x))
 (.oI2 s x
 (.fn0 r4is3_S (gT x s zz3) trivial fun y =>
 (.b00 (!y)
 (.ret (.inr (Sum.inl ())))
 (.ret (.inl (w1 s))))))
 (.ret (.inr (Sum.inr (())))))
def r4all3 (x : (List I3)) : Bool :=
 (letV (run (r4all3_l0_step x) (0:Int)) fun r =>
 (Sum.elim (fun a =>
 false) (fun b =>
 true) r))
def r4all3_pre (x : (List I3)) : Prop :=
 (Term (r4all3_l0_step x) (r4all3_l0_pre x) (0:Int))
def r4all3_t (x : (List I3)) : Tr Bool true :=
 (LoopD.lp (r4all3_l0 x) (r4all3_l0_t x) z0 fun r =>
 (.s00 r (fun a =>
 (.ret false)) (fun b =>
 (.ret true))))
abbrev r4all3_S : FnS := ⟨(.one (Ty.sl yy3)),(.one Ty.bool),r4all3_pre,r4all3⟩
theorem r4all3_ok : SpecOk Tryz.prog 68 (fnSpec r4all3_S) := SpecOk.tr r4all3_S r4all3_t (fn := Tryz.f68) tt_ok sp_r4all2_ok mixed (by kernel_rfl) (ItsOk.nil _ _) (fun x => (LpsOk.tr tt_ok (SpecsOk.ctxI sp_r4all2_ok (ItsOk.nil _ _)) mixed 0 (r4all3_l0 x) (r4all3_l0_t x) LpsOk.nil (by kernel_rfl) fun g s Q => (by kernel_rfl))) (fun x => (by kernel_rfl)) fun x Q => (by kernel_rfl)
def sp_r4all3 : List (Nat × Ev.Spec) := (68,fnSpec r4all3_S) :: sp_r4all2
theorem sp_r4all3_ok : SpecsOk Tryz.prog sp_r4all3 := SpecsOk.add (fn := Tryz.f68) (by kernel_rfl) r4all3_ok sp_r4all2_ok
def r4sub2 (x : (I2 × I2)) : I2 :=
 (letV (r4is2 x.1) fun y =>
 (if ((!y) = true) then
 ((0:Int),(0:Int)) else
 (letV (r4is2 x.2) fun y_1 =>
 (if ((!y_1) = true) then
 ((0:Int),(0:Int)) else
 ((w64 (x.1.1 - x.2.1)),(w64 (x.1.2 - x.2.2)))))))
def r4sub2_pre (_ : (I2 × I2)) : Prop := True
def r4sub2_t (x : (I2 × I2)) : Tr I2 false :=
 (.fn0 r4is2_S x.1 trivial fun y =>
 (.b00 (!y)
 (.ret zz2)
 (.fn0 r4is2_S x.2 trivial fun y_1 =>
 (.b00 (!y_1)
 (.ret zz2)
 (.ret ((w64 (x.1.1 - x.2.1)),(w64 (x.1.2 - x.2.2))))))))
abbrev r4sub2_S : FnS := ⟨(.pair (.agg yy2) (.agg yy2)),(.agg yy2),r4sub2_pre,r4sub2⟩
theorem r4sub2_ok : SpecOk Tryz.prog 99 (fnSpec r4sub2_S) := SpecOk.tr r4sub2_S r4sub2_t (fn := Tryz.f99) tt_ok sp_r4all3_ok mixed (by kernel_rfl) (ItsOk.nil _ _) (fun x => LpsOk.nil) (fun x => (by kernel_rfl)) fun x Q => (by kernel_rfl)
def sp_r4sub2 : List (Nat × Ev.Spec) := (99,fnSpec r4sub2_S) :: sp_r4all3
theorem sp_r4sub2_ok : SpecsOk Tryz.prog sp_r4sub2 := SpecsOk.add (fn := Tryz.f99) (by kernel_rfl) r4sub2_ok sp_r4all3_ok
def r4sub3 (x : (I3 × I3)) : I3 :=
 (letV (r4is3 x.1) fun y =>
 (if ((!y) = true) then
 ((0:Int),((0:Int),(0:Int))) else
 (letV (r4is3 x.2) fun y_1 =>
 (if ((!y_1) = true) then
 ((0:Int),((0:Int),(0:Int))) else
 ((w64 (x.1.1 - x.2.1)),((w64 (x.1.2.1 - x.2.2.1)),(w64 (x.1.2.2 - x.2.2.2))))))))
def r4sub3_pre (_ : (I3 × I3)) : Prop := True
def r4sub3_t (x : (I3 × I3)) : Tr I3 false :=
 (.fn0 r4is3_S x.1 trivial fun y =>
 (.b00 (!y)
 (.ret zz3)
 (.fn0 r4is3_S x.2 trivial fun y_1 =>
 (.b00 (!y_1)
 (.ret zz3)
 (.ret ((w64 (x.1.1 - x.2.1)),((w64 (x.1.2.1 - x.2.2.1)),(w64 (x.1.2.2 - x.2.2.2)))))))))
abbrev r4sub3_S : FnS := ⟨(.pair (.agg yy3) (.agg yy3)),(.agg yy3),r4sub3_pre,r4sub3⟩
theorem r4sub3_ok : SpecOk Tryz.prog 76 (fnSpec r4sub3_S) := SpecOk.tr r4sub3_S r4sub3_t (fn := Tryz.f76) tt_ok sp_r4sub2_ok mixed (by kernel_rfl) (ItsOk.nil _ _) (fun x => LpsOk.nil) (fun x => (by kernel_rfl)) fun x Q => (by kernel_rfl)
def sp_r4sub3 : List (Nat × Ev.Spec) := (76,fnSpec r4sub3_S) :: sp_r4sub2
theorem sp_r4sub3_ok : SpecsOk Tryz.prog sp_r4sub3 := SpecsOk.add (fn := Tryz.f76) (by kernel_rfl) r4sub3_ok sp_r4sub2_ok
def r4cross2 (x : (I2 × I2)) : I2 :=
 (letV (r4is2 x.1) fun y =>
 (if ((!y) = true) then
 ((0:Int),(5:Int)) else
 (letV (r4is2 x.2) fun y_1 =>
 (if ((!y_1) = true) then
 ((0:Int),(5:Int)) else
 ((w64 ((w64 (x.1.1 * x.2.2)) - (w64 (x.1.2 * x.2.1)))),(0:Int))))))
def r4cross2_pre (_ : (I2 × I2)) : Prop := True
def r4cross2_t (x : (I2 × I2)) : Tr I2 false :=
 (.fn0 r4is2_S x.1 trivial fun y =>
 (.b00 (!y)
 (.ret (z0,(5:Int)))
 (.fn0 r4is2_S x.2 trivial fun y_1 =>
 (.b00 (!y_1)
 (.ret (z0,(5:Int)))
 (.ret ((w64 ((w64 (x.1.1 * x.2.2)) - (w64 (x.1.2 * x.2.1)))),z0))))))
abbrev r4cross2_S : FnS := ⟨(.pair (.agg yy2) (.agg yy2)),(.pair (.one yi) (.one yi)),r4cross2_pre,r4cross2⟩
theorem r4cross2_ok : SpecOk Tryz.prog 98 (fnSpec r4cross2_S) := SpecOk.tr r4cross2_S r4cross2_t (fn := Tryz.f98) tt_ok sp_r4sub3_ok mixed (by kernel_rfl) (ItsOk.nil _ _) (fun x => LpsOk.nil) (fun x => (by kernel_rfl)) fun x Q => (by kernel_rfl)
def sp_r4cross2 : List (Nat × Ev.Spec) := (98,fnSpec r4cross2_S) :: sp_r4sub3
theorem sp_r4cross2_ok : SpecsOk Tryz.prog sp_r4cross2 := SpecsOk.add (fn := Tryz.f98) (by kernel_rfl) r4cross2_ok sp_r4sub3_ok
def r4cross3 (x : (I3 × I3)) : (I3 × Int) :=
 (letV (r4is3 x.1) fun y =>
 (if ((!y) = true) then
 (((0:Int),((0:Int),(0:Int))),(5:Int)) else
 (letV (r4is3 x.2) fun y_1 =>
 (if ((!y_1) = true) then
 (((0:Int),((0:Int),(0:Int))),(5:Int)) else
 (((w64 ((w64 (x.1.2.1 * x.2.2.2)) - (w64 (x.1.2.2 * x.2.2.1)))),((w64 ((w64 (x.1.2.2 * x.2.1)) - (w64 (x.1.1 * x.2.2.2)))),(w64 ((w64 (x.1.1 * x.2.2.1)) - (w64 (x.1.2.1 * x.2.1)))))),(0:Int))))))
def r4cross3_pre (_ : (I3 × I3)) : Prop := True
def r4cross3_t (x : (I3 × I3)) : Tr (I3 × Int) false :=
 (.fn0 r4is3_S x.1 trivial fun y =>
 (.b00 (!y)
 (.ret (zz3,(5:Int)))
 (.fn0 r4is3_S x.2 trivial fun y_1 =>
 (.b00 (!y_1)
 (.ret (zz3,(5:Int)))
 (.ret (((w64 ((w64 (x.1.2.1 * x.2.2.2)) - (w64 (x.1.2.2 * x.2.2.1)))),((w64 ((w64 (x.1.2.2 * x.2.1)) - (w64 (x.1.1 * x.2.2.2)))),(w64 ((w64 (x.1.1 * x.2.2.1)) - (w64 (x.1.2.1 * x.2.1)))))),z0))))))
abbrev r4cross3_S : FnS := ⟨(.pair (.agg yy3) (.agg yy3)),(.pair (.agg yy3) (.one yi)),r4cross3_pre,r4cross3⟩
theorem r4cross3_ok : SpecOk Tryz.prog 75 (fnSpec r4cross3_S) := SpecOk.tr r4cross3_S r4cross3_t (fn := Tryz.f75) tt_ok sp_r4cross2_ok mixed (by kernel_rfl) (ItsOk.nil _ _) (fun x => LpsOk.nil) (fun x => (by kernel_rfl)) fun x Q => (by kernel_rfl)
def sp_r4cross3 : List (Nat × Ev.Spec) := (75,fnSpec r4cross3_S) :: sp_r4cross2
theorem sp_r4cross3_ok : SpecsOk Tryz.prog sp_r4cross3 := SpecsOk.add (fn := Tryz.f75) (by kernel_rfl) r4cross3_ok sp_r4cross2_ok
def r4under (x:Int) : Int :=
 (if (x > (0:Int)) then
 (w64 ((0:Int) - x)) else
 x)
def r4under_pre (_:Int) : Prop := True
def r4under_t (x:Int) : Tr Int false :=
 (.i00 (x > z0)
 (.ret (w64 (z0 - x)))
 (.ret x))
abbrev r4under_S : FnS := ⟨(.one yi),(.one yi),r4under_pre,r4under⟩
theorem r4under_ok : SpecOk Tryz.prog 77 (fnSpec r4under_S) := SpecOk.tr r4under_S r4under_t (fn := Tryz.f77) tt_ok sp_r4cross3_ok mixed (by kernel_rfl) (ItsOk.nil _ _) (fun x => LpsOk.nil) (fun x => (by kernel_rfl)) fun x Q => (by kernel_rfl)
def sp_r4under : List (Nat × Ev.Spec) := (77,fnSpec r4under_S) :: sp_r4cross3
theorem sp_r4under_ok : SpecsOk Tryz.prog sp_r4under := SpecsOk.add (fn := Tryz.f77) (by kernel_rfl) r4under_ok sp_r4cross3_ok
def r4axis (x : I3) : Int :=
 (letV (r4under x.1) fun y =>
 (letV (r4under x.2.1) fun y_1 =>
 (letV (r4under x.2.2) fun y_2 =>
 (if (y ≤ y_1) then
 (if (y ≤ y_2) then
 (0:Int) else
 (if (y_1 ≤ y_2) then
 (1:Int) else
 (2:Int))) else
 (if (y_1 ≤ y_2) then
 (1:Int) else
 (2:Int))))))
def r4axis_pre (_ : I3) : Prop := True
def r4axis_t (x : I3) : Tr Int false :=
 (.fn0 r4under_S x.1 trivial fun y =>
 (.fn0 r4under_S x.2.1 trivial fun y_1 =>
 (.fn0 r4under_S x.2.2 trivial fun y_2 =>
 (.i00 (y ≤ y_1)
 (.i00 (y ≤ y_2)
 (.ret z0)
 (.i00 (y_1 ≤ y_2)
 (.ret z1)
 (.ret (2:Int))))
 (.i00 (y_1 ≤ y_2)
 (.ret z1)
 (.ret (2:Int)))))))
abbrev r4axis_S : FnS := ⟨(.agg yy3),(.one yi),r4axis_pre,r4axis⟩
theorem r4axis_ok : SpecOk Tryz.prog 52 (fnSpec r4axis_S) := SpecOk.tr r4axis_S r4axis_t (fn := Tryz.f52) tt_ok sp_r4under_ok mixed (by kernel_rfl) (ItsOk.nil _ _) (fun x => LpsOk.nil) (fun x => (by kernel_rfl)) fun x Q => (by kernel_rfl)
def sp_r4axis : List (Nat × Ev.Spec) := (52,fnSpec r4axis_S) :: sp_r4under
theorem sp_r4axis_ok : SpecsOk Tryz.prog sp_r4axis := SpecsOk.add (fn := Tryz.f52) (by kernel_rfl) r4axis_ok sp_r4under_ok
def r4drop (x : (I3 × Int)) : (I2 × Int) :=
 (if ((x.2 == (0:Int)) = true) then
 (x.1.2,(0:Int)) else
 (if ((x.2 == (1:Int)) = true) then
 ((x.1.2.2,x.1.1),(0:Int)) else
 (if ((x.2 == (2:Int)) = true) then
 ((x.1.1,x.1.2.1),(0:Int)) else
 (((0:Int),(0:Int)),(1:Int)))))
def r4drop_pre (_ : (I3 × Int)) : Prop := True
def r4drop_t (x : (I3 × Int)) : Tr (I2 × Int) false :=
 (.b00 (x.2 == z0)
 (.ret (x.1.2,z0))
 (.b00 (x.2 == z1)
 (.ret ((x.1.2.2,x.1.1),z0))
 (.b00 (x.2 == (2:Int))
 (.ret ((x.1.1,x.1.2.1),z0))
 (.ret (zz2,z1)))))
abbrev r4drop_S : FnS := ⟨(.pair (.agg yy3) (.one yi)),(.pair (.agg yy2) (.one yi)),r4drop_pre,r4drop⟩
theorem r4drop_ok : SpecOk Tryz.prog 29 (fnSpec r4drop_S) := SpecOk.tr r4drop_S r4drop_t (fn := Tryz.f29) tt_ok sp_r4axis_ok mixed (by kernel_rfl) (ItsOk.nil _ _) (fun x => LpsOk.nil) (fun x => (by kernel_rfl)) fun x Q => (by kernel_rfl)
def sp_r4drop : List (Nat × Ev.Spec) := (29,fnSpec r4drop_S) :: sp_r4axis
theorem sp_r4drop_ok : SpecsOk Tryz.prog sp_r4drop := SpecsOk.add (fn := Tryz.f29) (by kernel_rfl) r4drop_ok sp_r4axis_ok
def r9small2 (x : I2) : Bool :=
 (if (x.1 ≥ (-4096:Int)) then
 (if (x.1 ≤ (4096:Int)) then
 (if (x.2 ≥ (-4096:Int)) then
 (decide (x.2 ≤ (4096:Int))) else
 false) else
 false) else
 false)
def r9small2_pre (_ : I2) : Prop := True
def r9small2_t (x : I2) : Tr Bool false :=
 (.i00 (x.1 ≥ (-4096:Int))
 (.i00 (x.1 ≤ (4096:Int))
 (.i00 (x.2 ≥ (-4096:Int))
 (.ret (decide (x.2 ≤ (4096:Int))))
 (.ret false))
 (.ret false))
 (.ret false))
abbrev r9small2_S : FnS := ⟨(.agg yy2),(.one Ty.bool),r9small2_pre,r9small2⟩
theorem r9small2_ok : SpecOk Tryz.prog 97 (fnSpec r9small2_S) := SpecOk.tr r9small2_S r9small2_t (fn := Tryz.f97) tt_ok sp_r4drop_ok mixed (by kernel_rfl) (ItsOk.nil _ _) (fun x => LpsOk.nil) (fun x => (by kernel_rfl)) fun x Q => (by kernel_rfl)
def sp_r9small2 : List (Nat × Ev.Spec) := (97,fnSpec r9small2_S) :: sp_r4drop
theorem sp_r9small2_ok : SpecsOk Tryz.prog sp_r9small2 := SpecsOk.add (fn := Tryz.f97) (by kernel_rfl) r9small2_ok sp_r4drop_ok
def r9small3 (x : I3) : Bool :=
 (if (x.1 ≥ (-16384:Int)) then
 (if (x.1 ≤ (16384:Int)) then
 (if (x.2.1 ≥ (-16384:Int)) then
 (if (x.2.1 ≤ (16384:Int)) then
 (if (x.2.2 ≥ (-16384:Int)) then
 (decide (x.2.2 ≤ (16384:Int))) else
 false) else
 false) else
 false) else
 false) else
 false)
def r9small3_pre (_ : I3) : Prop := True
def r9small3_t (x : I3) : Tr Bool false :=
 (.i00 (x.1 ≥ (-16384:Int))
 (.i00 (x.1 ≤ (16384:Int))
 (.i00 (x.2.1 ≥ (-16384:Int))
 (.i00 (x.2.1 ≤ (16384:Int))
 (.i00 (x.2.2 ≥ (-16384:Int))
 (.ret (decide (x.2.2 ≤ (16384:Int))))
 (.ret false))
 (.ret false))
 (.ret false))
 (.ret false))
 (.ret false))
abbrev r9small3_S : FnS := ⟨(.agg yy3),(.one Ty.bool),r9small3_pre,r9small3⟩
theorem r9small3_ok : SpecOk Tryz.prog 74 (fnSpec r9small3_S) := SpecOk.tr r9small3_S r9small3_t (fn := Tryz.f74) tt_ok sp_r9small2_ok mixed (by kernel_rfl) (ItsOk.nil _ _) (fun x => LpsOk.nil) (fun x => (by kernel_rfl)) fun x Q => (by kernel_rfl)
def sp_r9small3 : List (Nat × Ev.Spec) := (74,fnSpec r9small3_S) :: sp_r9small2
theorem sp_r9small3_ok : SpecsOk Tryz.prog sp_r9small3 := SpecsOk.add (fn := Tryz.f74) (by kernel_rfl) r9small3_ok sp_r9small2_ok
def r9area (x : I6) : I2 :=
 (letV (r9small2 x.1) fun y =>
 (if ((!y) = true) then
 ((0:Int),(5:Int)) else
 (letV (r9small2 x.2.1) fun y_1 =>
 (if ((!y_1) = true) then
 ((0:Int),(5:Int)) else
 (letV (r9small2 x.2.2) fun y_2 =>
 (if ((!y_2) = true) then
 ((0:Int),(5:Int)) else
 (letV (r4sub2 (x.2.1,x.1)) fun y_3 =>
 (letV (r4sub2 (x.2.2,x.1)) fun y_4 =>
 (letV (r4cross2 (y_3,y_4)) fun y_5 =>
 y_5)))))))))
def r9area_pre (_ : I6) : Prop := True
def r9area_t (x : I6) : Tr I2 false :=
 (.fn0 r9small2_S x.1 trivial fun y =>
 (.b00 (!y)
 (.ret (z0,(5:Int)))
 (.fn0 r9small2_S x.2.1 trivial fun y_1 =>
 (.b00 (!y_1)
 (.ret (z0,(5:Int)))
 (.fn0 r9small2_S x.2.2 trivial fun y_2 =>
 (.b00 (!y_2)
 (.ret (z0,(5:Int)))
 (.fn0 r4sub2_S (x.2.1,x.1) trivial fun y_3 =>
 (.fn0 r4sub2_S (x.2.2,x.1) trivial fun y_4 =>
 (.fn0 r4cross2_S (y_3,y_4) trivial fun y_5 =>
 (.ret y_5))))))))))
abbrev r9area_S : FnS := ⟨(.pair (.agg yy2) (.pair (.agg yy2) (.agg yy2))),(.pair (.one yi) (.one yi)),r9area_pre,r9area⟩
theorem r9area_ok : SpecOk Tryz.prog 84 (fnSpec r9area_S) := SpecOk.tr r9area_S r9area_t (fn := Tryz.f84) tt_ok sp_r9small3_ok mixed (by kernel_rfl) (ItsOk.nil _ _) (fun x => LpsOk.nil) (fun x => (by kernel_rfl)) fun x Q => (by kernel_rfl)
def sp_r9area : List (Nat × Ev.Spec) := (84,fnSpec r9area_S) :: sp_r9small3
theorem sp_r9area_ok : SpecsOk Tryz.prog sp_r9area := SpecsOk.add (fn := Tryz.f84) (by kernel_rfl) r9area_ok sp_r9small3_ok
def r9sgn (x:Int) : Int :=
 (if (x < (0:Int)) then
 (-1:Int) else
 (if (x > (0:Int)) then
 (1:Int) else
 (0:Int)))
def r9sgn_pre (_:Int) : Prop := True
def r9sgn_t (x:Int) : Tr Int false :=
 (.i00 (x < z0)
 (.ret (-1:Int))
 (.i00 (x > z0)
 (.ret z1)
 (.ret z0)))
abbrev r9sgn_S : FnS := ⟨(.one yi),(.one yi),r9sgn_pre,r9sgn⟩
theorem r9sgn_ok : SpecOk Tryz.prog 53 (fnSpec r9sgn_S) := SpecOk.tr r9sgn_S r9sgn_t (fn := Tryz.f53) tt_ok sp_r9area_ok mixed (by kernel_rfl) (ItsOk.nil _ _) (fun x => LpsOk.nil) (fun x => (by kernel_rfl)) fun x Q => (by kernel_rfl)
def sp_r9sgn : List (Nat × Ev.Spec) := (53,fnSpec r9sgn_S) :: sp_r9area
theorem sp_r9sgn_ok : SpecsOk Tryz.prog sp_r9sgn := SpecsOk.add (fn := Tryz.f53) (by kernel_rfl) r9sgn_ok sp_r9area_ok
def r9side (x : I6) : I2 :=
 (letV (r9area x) fun y =>
 (letV (r9sgn y.1) fun y_1 =>
 (y_1,y.2)))
def r9side_pre (_ : I6) : Prop := True
def r9side_t (x : I6) : Tr I2 false :=
 (.fn0 r9area_S x trivial fun y =>
 (.fn0 r9sgn_S y.1 trivial fun y_1 =>
 (.ret (y_1,y.2))))
abbrev r9side_S : FnS := ⟨(.pair (.agg yy2) (.pair (.agg yy2) (.agg yy2))),(.pair (.one yi) (.one yi)),r9side_pre,r9side⟩
theorem r9side_ok : SpecOk Tryz.prog 109 (fnSpec r9side_S) := SpecOk.tr r9side_S r9side_t (fn := Tryz.f109) tt_ok sp_r9sgn_ok mixed (by kernel_rfl) (ItsOk.nil _ _) (fun x => LpsOk.nil) (fun x => (by kernel_rfl)) fun x Q => (by kernel_rfl)
def sp_r9side : List (Nat × Ev.Spec) := (109,fnSpec r9side_S) :: sp_r9sgn
theorem sp_r9side_ok : SpecsOk Tryz.prog sp_r9side := SpecsOk.add (fn := Tryz.f109) (by kernel_rfl) r9side_ok sp_r9sgn_ok
def r9normal (x : I9) : (I3 × Int) :=
 (letV (r9small3 x.1) fun y =>
 (if ((!y) = true) then
 (((0:Int),((0:Int),(0:Int))),(5:Int)) else
 (letV (r9small3 x.2.1) fun y_1 =>
 (if ((!y_1) = true) then
 (((0:Int),((0:Int),(0:Int))),(5:Int)) else
 (letV (r9small3 x.2.2) fun y_2 =>
 (if ((!y_2) = true) then
 (((0:Int),((0:Int),(0:Int))),(5:Int)) else
 (letV (r4sub3 (x.2.1,x.1)) fun y_3 =>
 (letV (r4sub3 (x.2.2,x.1)) fun y_4 =>
 (letV (r4cross3 (y_3,y_4)) fun y_5 =>
 y_5)))))))))
def r9normal_pre (_ : I9) : Prop := True
def r9normal_t (x : I9) : Tr (I3 × Int) false :=
 (.fn0 r9small3_S x.1 trivial fun y =>
 (.b00 (!y)
 (.ret (zz3,(5:Int)))
 (.fn0 r9small3_S x.2.1 trivial fun y_1 =>
 (.b00 (!y_1)
 (.ret (zz3,(5:Int)))
 (.fn0 r9small3_S x.2.2 trivial fun y_2 =>
 (.b00 (!y_2)
 (.ret (zz3,(5:Int)))
 (.fn0 r4sub3_S (x.2.1,x.1) trivial fun y_3 =>
 (.fn0 r4sub3_S (x.2.2,x.1) trivial fun y_4 =>
 (.fn0 r4cross3_S (y_3,y_4) trivial fun y_5 =>
 (.ret y_5))))))))))
abbrev r9normal_S : FnS := ⟨(.pair (.agg yy3) (.pair (.agg yy3) (.agg yy3))),(.pair (.agg yy3) (.one yi)),r9normal_pre,r9normal⟩
theorem r9normal_ok : SpecOk Tryz.prog 51 (fnSpec r9normal_S) := SpecOk.tr r9normal_S r9normal_t (fn := Tryz.f51) tt_ok sp_r9side_ok mixed (by kernel_rfl) (ItsOk.nil _ _) (fun x => LpsOk.nil) (fun x => (by kernel_rfl)) fun x Q => (by kernel_rfl)
def sp_r9normal : List (Nat × Ev.Spec) := (51,fnSpec r9normal_S) :: sp_r9side
theorem sp_r9normal_ok : SpecsOk Tryz.prog sp_r9normal := SpecsOk.add (fn := Tryz.f51) (by kernel_rfl) r9normal_ok sp_r9side_ok
def r9facing (x : I9) : I3 :=
 (letV (r9normal x) fun y =>
 (if ((y.2 != (0:Int)) = true) then
 ((0:Int),((0:Int),y.2)) else
 (if (((y.1.1 == (0:Int)) && ((y.1.2.1 == (0:Int)) && ((y.1.2.2 == (0:Int)) && true))) = true) then
 ((0:Int),((0:Int),(3:Int))) else
 (letV (r4axis y.1) fun y_1 =>
 (letV (r9sgn (List.getD [y.1.1,y.1.2.1,y.1.2.2] (0 + ((Int.toNat y_1) * 1)) (0:Int))) fun y_2 =>
 (y_1,(y_2,(0:Int))))))))
def r9facing_pre (x : I9) : Prop :=
 (letP (r9normal x) fun y =>
 (¬ ((y.2 != (0:Int)) = true) →
 (¬ (((y.1.1 == (0:Int)) && ((y.1.2.1 == (0:Int)) && ((y.1.2.2 == (0:Int)) && true))) = true) →
 (letP (r4axis y.1) fun y_1 =>
 ((((0:Int) ≤ y_1) ∧ (y_1 < (3:Int))) ∧
 (((0 + ((Int.toNat y_1) * 1)) + 1) ≤ 3))))))
def r9facing_t (x : I9) : Tr I3 true :=
 (.fn0 r9normal_S x trivial fun y =>
 (.b01 (y.2 != z0)
 (.ret (z0,(z0,y.2)))
 (.b01 ((y.1.1 == z0) && ((y.1.2.1 == z0) && ((y.1.2.2 == z0) && true)))
 (.ret (z0,(z0,(3:Int))))
 (.fn0 r4axis_S y.1 trivial fun y_1 =>
 (.oR y_1 (3:Int)
 (.od (((0 + ((tN y_1) * 1)) + 1) ≤ 3)
 (.fn0 r9sgn_S (List.getD [y.1.1,y.1.2.1,y.1.2.2] (0 + ((tN y_1) * 1)) z0) trivial fun y_2 =>
 (.ret (y_1,(y_2,z0))))))))))
abbrev r9facing_S : FnS := ⟨(.pair (.agg yy3) (.pair (.agg yy3) (.agg yy3))),(.pair (.one yi) (.pair (.one yi) (.one yi))),r9facing_pre,r9facing⟩
theorem r9facing_ok : SpecOk Tryz.prog 26 (fnSpec r9facing_S) := SpecOk.tr r9facing_S r9facing_t (fn := Tryz.f26) tt_ok sp_r9normal_ok mixed (by kernel_rfl) (ItsOk.nil _ _) (fun x => LpsOk.nil) (fun x => (by kernel_rfl)) fun x Q => (by kernel_rfl)
def sp_r9facing : List (Nat × Ev.Spec) := (26,fnSpec r9facing_S) :: sp_r9normal
theorem sp_r9facing_ok : SpecsOk Tryz.prog sp_r9facing := SpecsOk.add (fn := Tryz.f26) (by kernel_rfl) r9facing_ok sp_r9normal_ok
def r10right (x : I6) : Bool :=
 (letV (r9area x) fun y =>
 (if ((y.2 == (0:Int)) = true) then
 (y.1 != (0:Int)) else
 false))
def r10right_pre (_ : I6) : Prop := True
def r10right_t (x : I6) : Tr Bool false :=
 (.fn0 r9area_S x trivial fun y =>
 (.b00 (y.2 == z0)
 (.ret (y.1 != z0))
 (.ret false)))
abbrev r10right_S : FnS := ⟨(.agg yy6),(.one Ty.bool),r10right_pre,r10right⟩
theorem r10right_ok : SpecOk Tryz.prog 61 (fnSpec r10right_S) := SpecOk.tr r10right_S r10right_t (fn := Tryz.f61) tt_ok sp_r9facing_ok mixed (by kernel_rfl) (ItsOk.nil _ _) (fun x => LpsOk.nil) (fun x => (by kernel_rfl)) fun x Q => (by kernel_rfl)
def sp_r10right : List (Nat × Ev.Spec) := (61,fnSpec r10right_S) :: sp_r9facing
theorem sp_r10right_ok : SpecsOk Tryz.prog sp_r10right := SpecsOk.add (fn := Tryz.f61) (by kernel_rfl) r10right_ok sp_r9facing_ok
def r10sides (x : (I6 × I3)) : Int :=
 (letV (r9side (((List.getD [x.1.1.1,x.1.1.2,x.1.2.1.1,x.1.2.1.2,x.1.2.2.1,x.1.2.2.2] (0 + ((Int.toNat x.2.1) * 2)) (0:Int)),(List.getD [x.1.1.1,x.1.1.2,x.1.2.1.1,x.1.2.1.2,x.1.2.2.1,x.1.2.2.2] ((0 + ((Int.toNat x.2.1) * 2)) + 1) (0:Int))),(((List.getD [x.1.1.1,x.1.1.2,x.1.2.1.1,x.1.2.1.2,x.1.2.2.1,x.1.2.2.2] (0 + ((Int.toNat (Int.tmod (w64 (x.2.1 + (1:Int))) (3:Int))) * 2)) (0:Int)),(List.getD [x.1.1.1,x.1.1.2,x.1.2.1.1,x.1.2.1.2,x.1.2.2.1,x.1.2.2.2] ((0 + ((Int.toNat (Int.tmod (w64 (x.2.1 + (1:Int))) (3:Int))) * 2)) + 1) (0:Int))),((List.getD [x.1.1.1,x.1.1.2,x.1.2.1.1,x.1.2.1.2,x.1.2.2.1,x.1.2.2.2] (0 + ((Int.toNat (Int.tmod (w64 (x.2.1 + (2:Int))) (3:Int))) * 2)) (0:Int)),(List.getD [x.1.1.1,x.1.1.2,x.1.2.1.1,x.1.2.1.2,x.1.2.2.1,x.1.2.2.2] ((0 + ((Int.toNat (Int.tmod (w64 (x.2.1 + (2:Int))) (3:Int))) * 2)) + 1) (0:Int)))))) fun y =>
 (letV (r9side (((List.getD [x.1.1.1,x.1.1.2,x.1.2.1.1,x.1.2.1.2,x.1.2.2.1,x.1.2.2.2] (0 + ((Int.toNat x.2.1) * 2)) (0:Int)),(List.getD [x.1.1.1,x.1.1.2,x.1.2.1.1,x.1.2.1.2,x.1.2.2.1,x.1.2.2.2] ((0 + ((Int.toNat x.2.1) * 2)) + 1) (0:Int))),(((List.getD [x.1.1.1,x.1.1.2,x.1.2.1.1,x.1.2.1.2,x.1.2.2.1,x.1.2.2.2] (0 + ((Int.toNat (Int.tmod (w64 (x.2.1 + (1:Int))) (3:Int))) * 2)) (0:Int)),(List.getD [x.1.1.1,x.1.1.2,x.1.2.1.1,x.1.2.1.2,x.1.2.2.1,x.1.2.2.2] ((0 + ((Int.toNat (Int.tmod (w64 (x.2.1 + (1:Int))) (3:Int))) * 2)) + 1) (0:Int))),x.2.2))) fun y_1 =>
 (w64 (y.1 * y_1.1))))
def r10sides_pre (x : (I6 × I3)) : Prop :=
 ((((0:Int) ≤ x.2.1) ∧ (x.2.1 < (3:Int))) ∧
 ((((0 + ((Int.toNat x.2.1) * 2)) + 2) ≤ 6) ∧
 ((((0:Int) ≤ (Int.tmod (w64 (x.2.1 + (1:Int))) (3:Int))) ∧ ((Int.tmod (w64 (x.2.1 + (1:Int))) (3:Int)) < (3:Int))) ∧
 ((((0 + ((Int.toNat (Int.tmod (w64 (x.2.1 + (1:Int))) (3:Int))) * 2)) + 2) ≤ 6) ∧
 ((((0:Int) ≤ (Int.tmod (w64 (x.2.1 + (2:Int))) (3:Int))) ∧ ((Int.tmod (w64 (x.2.1 + (2:Int))) (3:Int)) < (3:Int))) ∧
 ((((0 + ((Int.toNat (Int.tmod (w64 (x.2.1 + (2:Int))) (3:Int))) * 2)) + 2) ≤ 6) ∧
 (letP (r9side (((List.getD [x.1.1.1,x.1.1.2,x.1.2.1.1,x.1.2.1.2,x.1.2.2.1,x.1.2.2.2] (0 + ((Int.toNat x.2.1) * 2)) (0:Int)),(List.getD [x.1.1.1,x.1.1.2,x.1.2.1.1,x.1.2.1.2,x.1.2.2.1,x.1.2.2.2] ((0 + ((Int.toNat x.2.1) * 2)) + 1) (0:Int))),(((List.getD [x.1.1.1,x.1.1.2,x.1.2.1.1,x.1.2.1.2,x.1.2.2.1,x.1.2.2.2] (0 + ((Int.toNat (Int.tmod (w64 (x.2.1 + (1:Int))) (3:Int))) * 2)) (0:Int)),(List.getD [x.1.1.1,x.1.1.2,x.1.2.1.1,x.1.2.1.2,x.1.2.2.1,x.1.2.2.2] ((0 + ((Int.toNat (Int.tmod (w64 (x.2.1 + (1:Int))) (3:Int))) * 2)) + 1) (0:Int))),((List.getD [x.1.1.1,x.1.1.2,x.1.2.1.1,x.1.2.1.2,x.1.2.2.1,x.1.2.2.2] (0 + ((Int.toNat (Int.tmod (w64 (x.2.1 + (2:Int))) (3:Int))) * 2)) (0:Int)),(List.getD [x.1.1.1,x.1.1.2,x.1.2.1.1,x.1.2.1.2,x.1.2.2.1,x.1.2.2.2] ((0 + ((Int.toNat (Int.tmod (w64 (x.2.1 + (2:Int))) (3:Int))) * 2)) + 1) (0:Int)))))) fun y =>
 ((((0:Int) ≤ x.2.1) ∧ (x.2.1 < (3:Int))) ∧
 ((((0 + ((Int.toNat x.2.1) * 2)) + 2) ≤ 6) ∧
 ((((0:Int) ≤ (Int.tmod (w64 (x.2.1 + (1:Int))) (3:Int))) ∧ ((Int.tmod (w64 (x.2.1 + (1:Int))) (3:Int)) < (3:Int))) ∧
 (((0 + ((Int.toNat (Int.tmod (w64 (x.2.1 + (1:Int))) (3:Int))) * 2)) + 2) ≤ 6)))))))))))
def r10sides_t (x : (I6 × I3)) : Tr Int true :=
 (.oR x.2.1 (3:Int)
 (.od (((0 + ((tN x.2.1) * 2)) + 2) ≤ 6)
 (.oR (Int.tmod (w1 x.2.1) (3:Int)) (3:Int)
 (.od (((0 + ((tN (Int.tmod (w1 x.2.1) (3:Int))) * 2)) + 2) ≤ 6)
 (.oR (Int.tmod (w64 (x.2.1 + (2:Int))) (3:Int)) (3:Int)
 (.od (((0 + ((tN (Int.tmod (w64 (x.2.1 + (2:Int))) (3:Int))) * 2)) + 2) ≤ 6)
 (.fn0 r9side_S (((List.getD [x.1.1.1,x.1.1.2,x.1.2.1.1,x.1.2.1.2,x.1.2.2.1,x.1.2.2.2] (0 + ((tN x.2.1) * 2)) z0),(List.getD [x.1.1.1,x.1.1.2,x.1.2.1.1,x.1.2.1.2,x.1.2.2.1,x.1.2.2.2] ((0 + ((tN x.2.1) * 2)) + 1) z0)),(((List.getD [x.1.1.1,x.1.1.2,x.1.2.1.1,x.1.2.1.2,x.1.2.2.1,x.1.2.2.2] (0 + ((tN (Int.tmod (w1 x.2.1) (3:Int))) * 2)) z0),(List.getD [x.1.1.1,x.1.1.2,x.1.2.1.1,x.1.2.1.2,x.1.2.2.1,x.1.2.2.2] ((0 + ((tN (Int.tmod (w1 x.2.1) (3:Int))) * 2)) + 1) z0)),((List.getD [x.1.1.1,x.1.1.2,x.1.2.1.1,x.1.2.1.2,x.1.2.2.1,x.1.2.2.2] (0 + ((tN (Int.tmod (w64 (x.2.1 + (2:Int))) (3:Int))) * 2)) z0),(List.getD [x.1.1.1,x.1.1.2,x.1.2.1.1,x.1.2.1.2,x.1.2.2.1,x.1.2.2.2] ((0 + ((tN (Int.tmod (w64 (x.2.1 + (2:Int))) (3:Int))) * 2)) + 1) z0)))) trivial fun y =>
 (.oR x.2.1 (3:Int)
 (.od (((0 + ((tN x.2.1) * 2)) + 2) ≤ 6)
 (.oR (Int.tmod (w1 x.2.1) (3:Int)) (3:Int)
 (.od (((0 + ((tN (Int.tmod (w1 x.2.1) (3:Int))) * 2)) + 2) ≤ 6)
 (.fn0 r9side_S (((List.getD [x.1.1.1,x.1.1.2,x.1.2.1.1,x.1.2.1.2,x.1.2.2.1,x.1.2.2.2] (0 + ((tN x.2.1) * 2)) z0),(List.getD [x.1.1.1,x.1.1.2,x.1.2.1.1,x.1.2.1.2,x.1.2.2.1,x.1.2.2.2] ((0 + ((tN x.2.1) * 2)) + 1) z0)),(((List.getD [x.1.1.1,x.1.1.2,x.1.2.1.1,x.1.2.1.2,x.1.2.2.1,x.1.2.2.2] (0 + ((tN (Int.tmod (w1 x.2.1) (3:Int))) * 2)) z0),(List.getD [x.1.1.1,x.1.1.2,x.1.2.1.1,x.1.2.1.2,x.1.2.2.1,x.1.2.2.2] ((0 + ((tN (Int.tmod (w1 x.2.1) (3:Int))) * 2)) + 1) z0)),x.2.2)) trivial fun y_1 =>
 (.ret (w64 (y.1 * y_1.1)))))))))))))))
abbrev r10sides_S : FnS := ⟨(.pair (.agg yy6) (.pair (.one yi) (.agg yy2))),(.one yi),r10sides_pre,r10sides⟩
theorem r10sides_ok : SpecOk Tryz.prog 100 (fnSpec r10sides_S) := SpecOk.tr r10sides_S r10sides_t (fn := Tryz.f100) tt_ok sp_r10right_ok mixed (by kernel_rfl) (ItsOk.nil _ _) (fun x => LpsOk.nil) (fun x => (by kernel_rfl)) fun x Q => (by kernel_rfl)
def sp_r10sides : List (Nat × Ev.Spec) := (100,fnSpec r10sides_S) :: sp_r10right
theorem sp_r10sides_ok : SpecsOk Tryz.prog sp_r10sides := SpecsOk.add (fn := Tryz.f100) (by kernel_rfl) r10sides_ok sp_r10right_ok
def r10greatest_l0 (x : (I6 × (Int × (List I2)))) : LoopD := ⟨[],⟨pvs 25 0 [(1,.v (.one (.i .i64))),(2,.v (.one (.full 0))),(3,.v (.one (.ptr 1 0))),(7,.v (.one (.i .i64))),(8,.v (.one (.i .i64)))],[.row yy2 0,.cells [.i .i64,.i .i64,.i .i64,.i .i64,.i .i64,.i .i64] 37],0,none,[],[0,3,4,5,6,7,8,9],[1,2],[.i,.i],[.i x.2.1,.l yy2 x.2.2,.i x.1.1.1,.i x.1.1.2,.i x.1.2.1.1,.i x.1.2.1.2,.i x.1.2.2.1,.i x.1.2.2.2]⟩,[⟨(.exit 0),.normal,⟨pvs 25 0 [(7,.v (.one (.i .i64)))],[],0,none,[],[],[0],[.i],[]⟩⟩]⟩
def r10greatest_l0_step (x : (I6 × (Int × (List I2)))) (s : I2) : I2 ⊕ Int :=
 (if (s.2 < (x.2.2.length:Int)) then
 (letV (r10sides (x.1,(x.2.1,(List.getD x.2.2 (Int.toNat s.2) ((0:Int),(0:Int)))))) fun y =>
 (Sum.inl ((maxI s.1 y),(w64 (s.2 + (1:Int)))))) else
 (Sum.inr (s.1)))
def r10greatest_l0_pre (x : (I6 × (Int × (List I2)))) (s : I2) : Prop :=
 ((s.2 < (x.2.2.length:Int)) →
 ((((0:Int) ≤ s.2) ∧ (s.2 < (x.2.2.length:Int))) ∧
 (((Int.toNat s.2) < (List.length x.2.2)) ∧
 (((Int.toNat s.2) < (List.length x.2.2)) ∧
 (r10sides_pre (x.1,(x.2.1,(List.getD x.2.2 (Int.toNat s.2) ((0:Int),(0:Int))))))))))
def r10greatest_l0_t (x : (I6 × (Int × (List I2)))) (s : I2) : Tr (I2 ⊕ Int) true :=
 (.i10 (s.2 < (nL x.2.2))
 (.oI2 s.2 x.2.2
 (.fn r10sides_S (x.1,(x.2.1,(gT x.2.2 s.2 zz2))) fun y =>
 (.ret (.inl ((maxI s.1 y),(w1 s.2))))))
 (.ret (.inr (s.1))))
def r10greatest (x : (I6 × (Int × (List I2)))) : Int :=
 (letV (run (r10greatest_l0_step x) ((-1:Int),(0:Int))) fun r =>
 r)
def r10greatest_pre (x : (I6 × (Int × (List I2)))) : Prop :=
 (Term (r10greatest_l0_step x) (r10greatest_l0_pre x) ((-1:Int),(0:Int)))
def r10greatest_t (x : (I6 × (Int × (List I2)))) : Tr Int true :=
 (LoopD.lp (r10greatest_l0 x) (r10greatest_l0_t x) ((-1:Int),z0) fun r =>
 (.ret r))
abbrev r10greatest_S : FnS := ⟨(.pair (.agg yy6) (.pair (.one yi) (.one (Ty.sl yy2)))),(.one yi),r10greatest_pre,r10greatest⟩
theorem r10greatest_ok : SpecOk Tryz.prog 85 (fnSpec r10greatest_S) := SpecOk.tr r10greatest_S r10greatest_t (fn := Tryz.f85) tt_ok sp_r10sides_ok mixed (by kernel_rfl) (ItsOk.nil _ _) (fun x => (LpsOk.tr tt_ok (SpecsOk.ctxI sp_r10sides_ok (ItsOk.nil _ _)) mixed 0 (r10greatest_l0 x) (r10greatest_l0_t x) LpsOk.nil (by kernel_rfl) fun g s Q => (by kernel_rfl))) (fun x => (by kernel_rfl)) fun x Q => (by kernel_rfl)
def sp_r10greatest : List (Nat × Ev.Spec) := (85,fnSpec r10greatest_S) :: sp_r10sides
theorem sp_r10greatest_ok : SpecsOk Tryz.prog sp_r10greatest := SpecsOk.add (fn := Tryz.f85) (by kernel_rfl) r10greatest_ok sp_r10sides_ok
def r10parted (x : (I6 × ((List I2) × Bool))) : Bool :=
 (letV (r10greatest (x.1,((0:Int),x.2.1))) fun y =>
 (if (y < (0:Int)) then
 true else
 (if (x.2.2 = true) then
 (if ((y == (0:Int)) = true) then
 true else
 (letV (r10greatest (x.1,((1:Int),x.2.1))) fun y_1 =>
 (if (y_1 < (0:Int)) then
 true else
 (if (x.2.2 = true) then
 (if ((y_1 == (0:Int)) = true) then
 true else
 (letV (r10greatest (x.1,((2:Int),x.2.1))) fun y_2 =>
 (if (y_2 < (0:Int)) then
 true else
 (if (x.2.2 = true) then
 (if ((y_2 == (0:Int)) = true) then
 true else
 false) else
 false)))) else
 (letV (r10greatest (x.1,((2:Int),x.2.1))) fun y_2 =>
 (if (y_2 < (0:Int)) then
 true else
 (if (x.2.2 = true) then
 (if ((y_2 == (0:Int)) = true) then
 true else
 false) else
 false))))))) else
 (letV (r10greatest (x.1,((1:Int),x.2.1))) fun y_1 =>
 (if (y_1 < (0:Int)) then
 true else
 (if (x.2.2 = true) then
 (if ((y_1 == (0:Int)) = true) then
 true else
 (letV (r10greatest (x.1,((2:Int),x.2.1))) fun y_2 =>
 (if (y_2 < (0:Int)) then
 true else
 (if (x.2.2 = true) then
 (if ((y_2 == (0:Int)) = true) then
 true else
 false) else
 false)))) else
 (letV (r10greatest (x.1,((2:Int),x.2.1))) fun y_2 =>
 (if (y_2 < (0:Int)) then
 true else
 (if (x.2.2 = true) then
 (if ((y_2 == (0:Int)) = true) then
 true else
 false) else
 false)))))))))
def r10parted_pre (x : (I6 × ((List I2) × Bool))) : Prop :=
 ((r10greatest_pre (x.1,((0:Int),x.2.1))) ∧
 letP (r10greatest (x.1,((0:Int),x.2.1))) fun y =>
 (¬ (y < (0:Int)) →
 (((x.2.2 = true) →
 (¬ ((y == (0:Int)) = true) →
 ((r10greatest_pre (x.1,((1:Int),x.2.1))) ∧
 letP (r10greatest (x.1,((1:Int),x.2.1))) fun y_1 =>
 (¬ (y_1 < (0:Int)) →
 (((x.2.2 = true) →
 (¬ ((y_1 == (0:Int)) = true) →
 (r10greatest_pre (x.1,((2:Int),x.2.1))))) ∧
 (¬ (x.2.2 = true) →
 (r10greatest_pre (x.1,((2:Int),x.2.1))))))))) ∧
 (¬ (x.2.2 = true) →
 ((r10greatest_pre (x.1,((1:Int),x.2.1))) ∧
 letP (r10greatest (x.1,((1:Int),x.2.1))) fun y_1 =>
 (¬ (y_1 < (0:Int)) →
 (((x.2.2 = true) →
 (¬ ((y_1 == (0:Int)) = true) →
 (r10greatest_pre (x.1,((2:Int),x.2.1))))) ∧
 (¬ (x.2.2 = true) →
 (r10greatest_pre (x.1,((2:Int),x.2.1)))))))))))
def r10parted_t (x : (I6 × ((List I2) × Bool))) : Tr Bool true :=
 (.fn r10greatest_S (x.1,(z0,x.2.1)) fun y =>
 (.i01 (y < z0)
 (.ret true)
 (.b11 x.2.2
 (.b01 (y == z0)
 (.ret true)
 (.fn r10greatest_S (x.1,(z1,x.2.1)) fun y_1 =>
 (.i01 (y_1 < z0)
 (.ret true)
 (.b11 x.2.2
 (.b01 (y_1 == z0)
 (.ret true)
 (.fn r10greatest_S (x.1,((2:Int),x.2.1)) fun y_2 =>
 (.i00 (y_2 < z0)
 (.ret true)
 (.b00 x.2.2
 (.b00 (y_2 == z0)
 (.ret true)
 (.ret false))
 (.ret false)))))
 (.fn r10greatest_S (x.1,((2:Int),x.2.1)) fun y_2 =>
 (.i00 (y_2 < z0)
 (.ret true)
 (.b00 x.2.2
 (.b00 (y_2 == z0)
 (.ret true)
 (.ret false))
 (.ret false))))))))
 (.fn r10greatest_S (x.1,(z1,x.2.1)) fun y_1 =>
 (.i01 (y_1 < z0)
 (.ret true)
 (.b11 x.2.2
 (.b01 (y_1 == z0)
 (.ret true)
 (.fn r10greatest_S (x.1,((2:Int),x.2.1)) fun y_2 =>
 (.i00 (y_2 < z0)
 (.ret true)
 (.b00 x.2.2
 (.b00 (y_2 == z0)
 (.ret true)
 (.ret false))
 (.ret false)))))
 (.fn r10greatest_S (x.1,((2:Int),x.2.1)) fun y_2 =>
 (.i00 (y_2 < z0)
 (.ret true)
 (.b00 x.2.2
 (.b00 (y_2 == z0)
 (.ret true)
 (.ret false))
 (.ret false))))))))))
abbrev r10parted_S : FnS := ⟨(.pair (.agg yy6) (.pair (.one (Ty.sl yy2)) (.one Ty.bool))),(.one Ty.bool),r10parted_pre,r10parted⟩
theorem r10parted_ok : SpecOk Tryz.prog 62 (fnSpec r10parted_S) := SpecOk.tr r10parted_S r10parted_t (fn := Tryz.f62) tt_ok sp_r10greatest_ok mixed (by kernel_rfl) (ItsOk.nil _ _) (fun x => (LpsOk.unrollT tt_ok (SpecsOk.ctxI sp_r10greatest_ok (ItsOk.nil _ _)) mixed 0 4 LpsOk.nil (by kernel_rfl))) (fun x => (by kernel_rfl)) fun x Q => (by kernel_rfl)
def sp_r10parted : List (Nat × Ev.Spec) := (62,fnSpec r10parted_S) :: sp_r10greatest
theorem sp_r10parted_ok : SpecsOk Tryz.prog sp_r10parted := SpecsOk.add (fn := Tryz.f62) (by kernel_rfl) r10parted_ok sp_r10greatest_ok
def r10overlap (x : (I6 × I6)) : (Bool × Int) :=
 (letV (r10right x.1) fun y =>
 (if ((!y) = true) then
 (false,(1:Int)) else
 (letV (r10right x.2) fun y_1 =>
 (if ((!y_1) = true) then
 (false,(1:Int)) else
 (letV (r10parted (x.1,([x.2.1,x.2.2.1,x.2.2.2],true))) fun y_2 =>
 (if ((!y_2) = true) then
 (letV (r10parted (x.2,([x.1.1,x.1.2.1,x.1.2.2],true))) fun y_3 =>
 ((!y_3),(0:Int))) else
 (false,(0:Int))))))))
def r10overlap_pre (x : (I6 × I6)) : Prop :=
 (letP (r10right x.1) fun y =>
 (¬ ((!y) = true) →
 (letP (r10right x.2) fun y_1 =>
 (¬ ((!y_1) = true) →
 ((r10parted_pre (x.1,([x.2.1,x.2.2.1,x.2.2.2],true))) ∧
 letP (r10parted (x.1,([x.2.1,x.2.2.1,x.2.2.2],true))) fun y_2 =>
 (((!y_2) = true) →
 (r10parted_pre (x.2,([x.1.1,x.1.2.1,x.1.2.2],true)))))))))
def r10overlap_t (x : (I6 × I6)) : Tr (Bool × Int) true :=
 (.fn0 r10right_S x.1 trivial fun y =>
 (.b01 (!y)
 (.ret (false,z1))
 (.fn0 r10right_S x.2 trivial fun y_1 =>
 (.b01 (!y_1)
 (.ret (false,z1))
 (.fn r10parted_S (x.1,([x.2.1,x.2.2.1,x.2.2.2],true)) fun y_2 =>
 (.b10 (!y_2)
 (.fn r10parted_S (x.2,([x.1.1,x.1.2.1,x.1.2.2],true)) fun y_3 =>
 (.ret ((!y_3),z0)))
 (.ret (false,z0))))))))
abbrev r10overlap_S : FnS := ⟨(.pair (.agg yy6) (.agg yy6)),(.pair (.one Ty.bool) (.one yi)),r10overlap_pre,r10overlap⟩
theorem r10overlap_ok : SpecOk Tryz.prog 41 (fnSpec r10overlap_S) := SpecOk.tr r10overlap_S r10overlap_t (fn := Tryz.f41) tt_ok sp_r10parted_ok mixed (by kernel_rfl) (ItsOk.nil _ _) (fun x => LpsOk.nil) (fun x => (by kernel_rfl)) fun x Q => (by kernel_rfl)
def sp_r10overlap : List (Nat × Ev.Spec) := (41,fnSpec r10overlap_S) :: sp_r10parted
theorem sp_r10overlap_ok : SpecsOk Tryz.prog sp_r10overlap := SpecsOk.add (fn := Tryz.f41) (by kernel_rfl) r10overlap_ok sp_r10parted_ok
end Go.Proofs.YtkbmjhabfjgoiaaGreat
