/- Models of functions of layers 4, 8, 9, 10. -/
import Derived.Test.YtkbmjhabfjgoiaaGreatEvY
import Derived.Test.YtkbmjhabfjgoiaaGreatTt
noncomputable section
set_option linter.unusedSectionVars false
set_option linter.unusedVariables false
set_option linter.unusedSimpArgs false
namespace Go.Proofs.YtkbmjhabfjgoiaaGreat
open Go Go.Ev Go.Proofs
def isnan (x:Int) : Bool :=
 (x != x)
def isnan_pre (_:Int) : Prop := True
def isnan_t (x:Int) : Tr Bool false :=
 (.ret (x != x))
abbrev isnan_S : FnS := ⟨(.one yi),(.one Ty.bool),isnan_pre,isnan⟩
theorem isnan_ok : SpecOk Tryz.prog 91 (fnSpec isnan_S) := SpecOk.tr isnan_S isnan_t (fn := Tryz.f91) tt_ok (SpecsOk.nil _) mixed (by kernel_rfl) (ItsOk.nil _ _) (fun x => LpsOk.nil) (fun x => (by kernel_rfl)) fun x Q => (by kernel_rfl)
def sp_isnan : List (Nat × Ev.Spec) := (91,fnSpec isnan_S) :: []
theorem sp_isnan_ok : SpecsOk Tryz.prog sp_isnan := SpecsOk.add (fn := Tryz.f91) (by kernel_rfl) isnan_ok (SpecsOk.nil _)
def compare (x : I2) : Int :=
 (letV (isnan x.1) fun y =>
 (letV (isnan x.2) fun y_1 =>
 (if (y = true) then
 (if (y_1 = true) then
 (0:Int) else
 (-1:Int)) else
 (if (y_1 = true) then
 (1:Int) else
 (if (x.1 < x.2) then
 (-1:Int) else
 (if (x.1 > x.2) then
 (1:Int) else
 (0:Int)))))))
def compare_pre (_ : I2) : Prop := True
def compare_t (x : I2) : Tr Int false :=
 (.fn0 isnan_S x.1 trivial fun y =>
 (.fn0 isnan_S x.2 trivial fun y_1 =>
 (.b00 y
 (.b00 y_1
 (.ret z0)
 (.ret (-1:Int)))
 (.b00 y_1
 (.ret z1)
 (.i00 (x.1 < x.2)
 (.ret (-1:Int))
 (.i00 (x.1 > x.2)
 (.ret z1)
 (.ret z0)))))))
abbrev compare_S : FnS := ⟨(.pair (.one yi) (.one yi)),(.one yi),compare_pre,compare⟩
theorem compare_ok : SpecOk Tryz.prog 73 (fnSpec compare_S) := SpecOk.tr compare_S compare_t (fn := Tryz.f73) tt_ok sp_isnan_ok mixed (by kernel_rfl) (ItsOk.nil _ _) (fun x => LpsOk.nil) (fun x => (by kernel_rfl)) fun x Q => (by kernel_rfl)
def sp_compare : List (Nat × Ev.Spec) := (73,fnSpec compare_S) :: sp_isnan
theorem sp_compare_ok : SpecsOk Tryz.prog sp_compare := SpecsOk.add (fn := Tryz.f73) (by kernel_rfl) compare_ok sp_isnan_ok
def near_l0 (x : (List Int)) : LoopD := ⟨[],⟨pvs 18 0 [(5,.v (.one (.full 0))),(6,.v (.one (.i .i64))),(7,.v (.one (.i .i64)))],[.row yi 0],0,none,[],[0,2],[1],[.i],[.i (x.length:Int),.l yi x]⟩,[⟨.ret,.ret,⟨pvs 18 0 [(2,.v (.one (.b)))],[],0,none,[],[0],[],[],[.b false]⟩⟩,⟨(.exit 0),.normal,⟨pvs 18 0 [],[],0,none,[],[],[],[],[]⟩⟩]⟩
def near_l0_step (x : (List Int)) (s:Int) : Int ⊕ (Unit ⊕ Unit) :=
 (if (s < (x.length:Int)) then
 (if ((List.getD x (Int.toNat s) (0:Int)) < (-1048576:Int)) then
 (Sum.inr (Sum.inl ())) else
 (if ((List.getD x (Int.toNat s) (0:Int)) > (1048576:Int)) then
 (Sum.inr (Sum.inl ())) else
 (Sum.inl (w64 (s + (1:Int)))))) else
 (Sum.inr (Sum.inr (()))))
def near_l0_pre (x : (List Int)) (s:Int) : Prop :=
 ((s < (x.length:Int)) →
 ((((0:Int) ≤ s) ∧ (s < (x.length:Int))) ∧
 (((Int.toNat s) < (List.length x)) ∧
 ((Int.toNat s) < (List.length x)))))
def near_l0_t (x : (List Int)) (s:Int) : Tr (Int ⊕ (Unit ⊕ Unit)) true :=
 (.i10 (s < (nL x))
 (.oI2 s x
 (.i00 ((gI x s) < (-1048576:Int))
 (.ret (.inr (Sum.inl ())))
 (.i00 ((gI x s) > (1048576:Int))
 (.ret (.inr (Sum.inl ())))
 (.ret (.inl (w1 s))))))
 (.ret (.inr (Sum.inr (())))))
def near (x : (List Int)) : Bool :=
 (letV (run (near_l0_step x) (0:Int)) fun r =>
 (Sum.elim (fun a =>
 false) (fun b =>
 true) r))
def near_pre (x : (List Int)) : Prop :=
 (Term (near_l0_step x) (near_l0_pre x) (0:Int))
def near_t (x : (List Int)) : Tr Bool true :=
 (LoopD.lp (near_l0 x) (near_l0_t x) z0 fun r =>
 (.s00 r (fun a =>
 (.ret false)) (fun b =>
 (.ret true))))
abbrev near_S : FnS := ⟨(.one (Ty.sl yi)),(.one Ty.bool),near_pre,near⟩
theorem near_ok : SpecOk Tryz.prog 86 (fnSpec near_S) := SpecOk.tr near_S near_t (fn := Tryz.f86) tt_ok sp_compare_ok mixed (by kernel_rfl) (ItsOk.nil _ _) (fun x => (LpsOk.tr tt_ok (SpecsOk.ctxI sp_compare_ok (ItsOk.nil _ _)) mixed 0 (near_l0 x) (near_l0_t x) LpsOk.nil (by kernel_rfl) fun g s Q => (by kernel_rfl))) (fun x => (by kernel_rfl)) fun x Q => (by kernel_rfl)
def sp_near : List (Nat × Ev.Spec) := (86,fnSpec near_S) :: sp_compare
theorem sp_near_ok : SpecsOk Tryz.prog sp_near := SpecsOk.add (fn := Tryz.f86) (by kernel_rfl) near_ok sp_compare_ok
def within_l0 (x : (Int × (List Int))) : LoopD := ⟨[],⟨pvs 23 0 [(0,.v (.one (.i .i64))),(7,.v (.one (.full 0))),(8,.v (.one (.i .i64))),(9,.v (.one (.i .i64)))],[.row yi 0],0,none,[],[0,1,3],[2],[.i],[.i x.1,.i (x.2.length:Int),.l yi x.2]⟩,[⟨.ret,.ret,⟨pvs 23 0 [(4,.v (.one (.b)))],[],0,none,[],[0],[],[],[.b false]⟩⟩,⟨(.exit 0),.normal,⟨pvs 23 0 [],[],0,none,[],[],[],[],[]⟩⟩]⟩
def within_l0_step (x : (Int × (List Int))) (s:Int) : Int ⊕ (Unit ⊕ Unit) :=
 (if (s < (x.2.length:Int)) then
 (if ((List.getD x.2 (Int.toNat s) (0:Int)) < (w64 ((0:Int) - x.1))) then
 (Sum.inr (Sum.inl ())) else
 (if ((List.getD x.2 (Int.toNat s) (0:Int)) > x.1) then
 (Sum.inr (Sum.inl ())) else
 (Sum.inl (w64 (s + (1:Int)))))) else
 (Sum.inr (Sum.inr (()))))
def within_l0_pre (x : (Int × (List Int))) (s:Int) : Prop :=
 ((s < (x.2.length:Int)) →
 ((((0:Int) ≤ s) ∧ (s < (x.2.length:Int))) ∧
 (((Int.toNat s) < (List.length x.2)) ∧
 ((Int.toNat s) < (List.length x.2)))))
def within_l0_t (x : (Int × (List Int))) (s:Int) : Tr (Int ⊕ (Unit ⊕ Unit)) true :=
 (.i10 (s < (nL x.2))
 (.oI2 s x.2
 (.i00 ((gI x.2 s) < (w64 (z0 - x.1)))
 (.ret (.inr (Sum.inl ())))
 (.i00 ((gI x.2 s) > x.1)
 (.ret (.inr (Sum.inl ())))
 (.ret (.inl (w1 s))))))
 (.ret (.inr (Sum.inr (())))))
def within (x : (Int × (List Int))) : Bool :=
 (letV (run (within_l0_step x) (0:Int)) fun r =>
 (Sum.elim (fun a =>
 false) (fun b =>
 true) r))
def within_pre (x : (Int × (List Int))) : Prop :=
 (Term (within_l0_step x) (within_l0_pre x) (0:Int))
def within_t (x : (Int × (List Int))) : Tr Bool true :=
 (LoopD.lp (within_l0 x) (within_l0_t x) z0 fun r =>
 (.s00 r (fun a =>
 (.ret false)) (fun b =>
 (.ret true))))
abbrev within_S : FnS := ⟨(.pair (.one yi) (.one (Ty.sl yi))),(.one Ty.bool),within_pre,within⟩
theorem within_ok : SpecOk Tryz.prog 110 (fnSpec within_S) := SpecOk.tr within_S within_t (fn := Tryz.f110) tt_ok sp_near_ok mixed (by kernel_rfl) (ItsOk.nil _ _) (fun x => (LpsOk.tr tt_ok (SpecsOk.ctxI sp_near_ok (ItsOk.nil _ _)) mixed 0 (within_l0 x) (within_l0_t x) LpsOk.nil (by kernel_rfl) fun g s Q => (by kernel_rfl))) (fun x => (by kernel_rfl)) fun x Q => (by kernel_rfl)
def sp_within : List (Nat × Ev.Spec) := (110,fnSpec within_S) :: sp_near
theorem sp_within_ok : SpecsOk Tryz.prog sp_within := SpecsOk.add (fn := Tryz.f110) (by kernel_rfl) within_ok sp_near_ok
def is2_l0 (x : (List I2)) : LoopD := ⟨[],⟨pvs 19 0 [(5,.v (.one (.full 0))),(6,.v (.one (.i .i64))),(7,.v (.one (.i .i64)))],[.row yy2 0],0,none,[],[0,2],[1],[.i],[.i (x.length:Int),.l yy2 x]⟩,[⟨.ret,.ret,⟨pvs 19 0 [(2,.v (.one (.b)))],[],0,none,[],[0],[],[],[.b false]⟩⟩,⟨(.exit 0),.normal,⟨pvs 19 0 [],[],0,none,[],[],[],[],[]⟩⟩]⟩
def is2_l0_step (x : (List I2)) (s:Int) : Int ⊕ (Unit ⊕ Unit) :=
 (if (s < (x.length:Int)) then
 (letV (near [(List.getD x (Int.toNat s) ((0:Int),(0:Int))).1,(List.getD x (Int.toNat s) ((0:Int),(0:Int))).2]) fun y =>
 (if ((!y) = true) then
 (Sum.inr (Sum.inl ())) else
 (Sum.inl (w64 (s + (1:Int)))))) else
 (Sum.inr (Sum.inr (()))))
def is2_l0_pre (x : (List I2)) (s:Int) : Prop :=
 ((s < (x.length:Int)) →
 ((((0:Int) ≤ s) ∧ (s < (x.length:Int))) ∧
 (((Int.toNat s) < (List.length x)) ∧
 (((Int.toNat s) < (List.length x)) ∧
 (near_pre [(List.getD x (Int.toNat s) ((0:Int),(0:Int))).1,(List.getD x (Int.toNat s) ((0:Int),(0:Int))).2])))))
def is2_l0_t (x : (List I2)) (s:Int) : Tr (Int ⊕ (Unit ⊕ Unit)) true :=
 (.i10 (s < (nL x))
 (.oI2 s x
 (.fn near_S [(gT x s zz2).1,(gT x s zz2).2] fun y =>
 (.b00 (!y)
 (.ret (.inr (Sum.inl ())))
 (.ret (.inl (w1 s))))))
 (.ret (.inr (Sum.inr (())))))
def is2 (x : (List I2)) : Bool :=
 (letV (run (is2_l0_step x) (0:Int)) fun r =>
 (Sum.elim (fun a =>
 false) (fun b =>
 true) r))
def is2_pre (x : (List I2)) : Prop :=
 (Term (is2_l0_step x) (is2_l0_pre x) (0:Int))
def is2_t (x : (List I2)) : Tr Bool true :=
 (LoopD.lp (is2_l0 x) (is2_l0_t x) z0 fun r =>
 (.s00 r (fun a =>
 (.ret false)) (fun b =>
 (.ret true))))
abbrev is2_S : FnS := ⟨(.one (Ty.sl yy2)),(.one Ty.bool),is2_pre,is2⟩
theorem is2_ok : SpecOk Tryz.prog 65 (fnSpec is2_S) := SpecOk.tr is2_S is2_t (fn := Tryz.f65) tt_ok sp_within_ok mixed (by kernel_rfl) (ItsOk.nil _ _) (fun x => (LpsOk.tr tt_ok (SpecsOk.ctxI sp_within_ok (ItsOk.nil _ _)) mixed 0 (is2_l0 x) (is2_l0_t x) LpsOk.nil (by kernel_rfl) fun g s Q => (by kernel_rfl))) (fun x => (by kernel_rfl)) fun x Q => (by kernel_rfl)
def sp_is2 : List (Nat × Ev.Spec) := (65,fnSpec is2_S) :: sp_within
theorem sp_is2_ok : SpecsOk Tryz.prog sp_is2 := SpecsOk.add (fn := Tryz.f65) (by kernel_rfl) is2_ok sp_within_ok
def is3_l0 (x : (List I3)) : LoopD := ⟨[],⟨pvs 21 0 [(5,.v (.one (.full 0))),(6,.v (.one (.i .i64))),(7,.v (.one (.i .i64)))],[.row yy3 0],0,none,[],[0,2],[1],[.i],[.i (x.length:Int),.l yy3 x]⟩,[⟨.ret,.ret,⟨pvs 21 0 [(2,.v (.one (.b)))],[],0,none,[],[0],[],[],[.b false]⟩⟩,⟨(.exit 0),.normal,⟨pvs 21 0 [],[],0,none,[],[],[],[],[]⟩⟩]⟩
def is3_l0_step (x : (List I3)) (s:Int) : Int ⊕ (Unit ⊕ Unit) :=
 (if (s < (x.length:Int)) then
 (letV (near [(List.getD x (Int.toNat s) ((0:Int),((0:Int),(0:Int)))).1,(List.getD x (Int.toNat s) ((0:Int),((0:Int),(0:Int)))).2.1,(List.getD x (Int.toNat s) ((0:Int),((0:Int),(0:Int)))).2.2]) fun y =>
 (if ((!y) = true) then
 (Sum.inr (Sum.inl ())) else
 (Sum.inl (w64 (s + (1:Int)))))) else
 (Sum.inr (Sum.inr (()))))
def is3_l0_pre (x : (List I3)) (s:Int) : Prop :=
 ((s < (x.length:Int)) →
 ((((0:Int) ≤ s) ∧ (s < (x.length:Int))) ∧
 (((Int.toNat s) < (List.length x)) ∧
 (((Int.toNat s) < (List.length x)) ∧
 (near_pre [(List.getD x (Int.toNat s) ((0:Int),((0:Int),(0:Int)))).1,(List.getD x (Int.toNat s) ((0:Int),((0:Int),(0:Int)))).2.1,(List.getD x (Int.toNat s) ((0:Int),((0:Int),(0:Int)))).2.2])))))
def is3_l0_t (x : (List I3)) (s:Int) : Tr (Int ⊕ (Unit ⊕ Unit)) true :=
 (.i10 (s < (nL x))
 (.oI2 s x
 (.fn near_S [(gT x s zz3).1,(gT x s zz3).2.1,(gT x s zz3).2.2] fun y =>
 (.b00 (!y)
 (.ret (.inr (Sum.inl ())))
 (.ret (.inl (w1 s))))))
 (.ret (.inr (Sum.inr (())))))
def is3 (x : (List I3)) : Bool :=
 (letV (run (is3_l0_step x) (0:Int)) fun r =>
 (Sum.elim (fun a =>
 false) (fun b =>
 true) r))
def is3_pre (x : (List I3)) : Prop :=
 (Term (is3_l0_step x) (is3_l0_pre x) (0:Int))
def is3_t (x : (List I3)) : Tr Bool true :=
 (LoopD.lp (is3_l0 x) (is3_l0_t x) z0 fun r =>
 (.s00 r (fun a =>
 (.ret false)) (fun b =>
 (.ret true))))
abbrev is3_S : FnS := ⟨(.one (Ty.sl yy3)),(.one Ty.bool),is3_pre,is3⟩
theorem is3_ok : SpecOk Tryz.prog 64 (fnSpec is3_S) := SpecOk.tr is3_S is3_t (fn := Tryz.f64) tt_ok sp_is2_ok mixed (by kernel_rfl) (ItsOk.nil _ _) (fun x => (LpsOk.tr tt_ok (SpecsOk.ctxI sp_is2_ok (ItsOk.nil _ _)) mixed 0 (is3_l0 x) (is3_l0_t x) LpsOk.nil (by kernel_rfl) fun g s Q => (by kernel_rfl))) (fun x => (by kernel_rfl)) fun x Q => (by kernel_rfl)
def sp_is3 : List (Nat × Ev.Spec) := (64,fnSpec is3_S) :: sp_is2
theorem sp_is3_ok : SpecsOk Tryz.prog sp_is3 := SpecsOk.add (fn := Tryz.f64) (by kernel_rfl) is3_ok sp_is2_ok
def small2_l0 (x : (List I2)) : LoopD := ⟨[],⟨pvs 19 0 [(5,.v (.one (.full 0))),(6,.v (.one (.i .i64))),(7,.v (.one (.i .i64)))],[.row yy2 0],0,none,[],[0,2],[1],[.i],[.i (x.length:Int),.l yy2 x]⟩,[⟨.ret,.ret,⟨pvs 19 0 [(2,.v (.one (.b)))],[],0,none,[],[0],[],[],[.b false]⟩⟩,⟨(.exit 0),.normal,⟨pvs 19 0 [],[],0,none,[],[],[],[],[]⟩⟩]⟩
def small2_l0_step (x : (List I2)) (s:Int) : Int ⊕ (Unit ⊕ Unit) :=
 (if (s < (x.length:Int)) then
 (letV (within ((4096:Int),[(List.getD x (Int.toNat s) ((0:Int),(0:Int))).1,(List.getD x (Int.toNat s) ((0:Int),(0:Int))).2])) fun y =>
 (if ((!y) = true) then
 (Sum.inr (Sum.inl ())) else
 (Sum.inl (w64 (s + (1:Int)))))) else
 (Sum.inr (Sum.inr (()))))
def small2_l0_pre (x : (List I2)) (s:Int) : Prop :=
 ((s < (x.length:Int)) →
 ((((0:Int) ≤ s) ∧ (s < (x.length:Int))) ∧
 (((Int.toNat s) < (List.length x)) ∧
 (((Int.toNat s) < (List.length x)) ∧
 (within_pre ((4096:Int),[(List.getD x (Int.toNat s) ((0:Int),(0:Int))).1,(List.getD x (Int.toNat s) ((0:Int),(0:Int))).2]))))))
def small2_l0_t (x : (List I2)) (s:Int) : Tr (Int ⊕ (Unit ⊕ Unit)) true :=
 (.i10 (s < (nL x))
 (.oI2 s x
 (.fn within_S ((4096:Int),[(gT x s zz2).1,(gT x s zz2).2]) fun y =>
 (.b00 (!y)
 (.ret (.inr (Sum.inl ())))
 (.ret (.inl (w1 s))))))
 (.ret (.inr (Sum.inr (())))))
def small2 (x : (List I2)) : Bool :=
 (letV (run (small2_l0_step x) (0:Int)) fun r =>
 (Sum.elim (fun a =>
 false) (fun b =>
 true) r))
def small2_pre (x : (List I2)) : Prop :=
 (Term (small2_l0_step x) (small2_l0_pre x) (0:Int))
def small2_t (x : (List I2)) : Tr Bool true :=
 (LoopD.lp (small2_l0 x) (small2_l0_t x) z0 fun r =>
 (.s00 r (fun a =>
 (.ret false)) (fun b =>
 (.ret true))))
abbrev small2_S : FnS := ⟨(.one (Ty.sl yy2)),(.one Ty.bool),small2_pre,small2⟩
theorem small2_ok : SpecOk Tryz.prog 127 (fnSpec small2_S) := SpecOk.tr small2_S small2_t (fn := Tryz.f127) tt_ok sp_is3_ok mixed (by kernel_rfl) (ItsOk.nil _ _) (fun x => (LpsOk.tr tt_ok (SpecsOk.ctxI sp_is3_ok (ItsOk.nil _ _)) mixed 0 (small2_l0 x) (small2_l0_t x) LpsOk.nil (by kernel_rfl) fun g s Q => (by kernel_rfl))) (fun x => (by kernel_rfl)) fun x Q => (by kernel_rfl)
def sp_small2 : List (Nat × Ev.Spec) := (127,fnSpec small2_S) :: sp_is3
theorem sp_small2_ok : SpecsOk Tryz.prog sp_small2 := SpecsOk.add (fn := Tryz.f127) (by kernel_rfl) small2_ok sp_is3_ok
def small3_l0 (x : (List I3)) : LoopD := ⟨[],⟨pvs 21 0 [(5,.v (.one (.full 0))),(6,.v (.one (.i .i64))),(7,.v (.one (.i .i64)))],[.row yy3 0],0,none,[],[0,2],[1],[.i],[.i (x.length:Int),.l yy3 x]⟩,[⟨.ret,.ret,⟨pvs 21 0 [(2,.v (.one (.b)))],[],0,none,[],[0],[],[],[.b false]⟩⟩,⟨(.exit 0),.normal,⟨pvs 21 0 [],[],0,none,[],[],[],[],[]⟩⟩]⟩
def small3_l0_step (x : (List I3)) (s:Int) : Int ⊕ (Unit ⊕ Unit) :=
 (if (s < (x.length:Int)) then
 (letV (within ((16384:Int),[(List.getD x (Int.toNat s) ((0:Int),((0:Int),(0:Int)))).1,(List.getD x (Int.toNat s) ((0:Int),((0:Int),(0:Int)))).2.1,(List.getD x (Int.toNat s) ((0:Int),((0:Int),(0:Int)))).2.2])) fun y =>
 (if ((!y) = true) then
 (Sum.inr (Sum.inl ())) else
 (Sum.inl (w64 (s + (1:Int)))))) else
 (Sum.inr (Sum.inr (()))))
def small3_l0_pre (x : (List I3)) (s:Int) : Prop :=
 ((s < (x.length:Int)) →
 ((((0:Int) ≤ s) ∧ (s < (x.length:Int))) ∧
 (((Int.toNat s) < (List.length x)) ∧
 (((Int.toNat s) < (List.length x)) ∧
 (within_pre ((16384:Int),[(List.getD x (Int.toNat s) ((0:Int),((0:Int),(0:Int)))).1,(List.getD x (Int.toNat s) ((0:Int),((0:Int),(0:Int)))).2.1,(List.getD x (Int.toNat s) ((0:Int),((0:Int),(0:Int)))).2.2]))))))
def small3_l0_t (x : (List I3)) (s:Int) : Tr (Int ⊕ (Unit ⊕ Unit)) true :=
 (.i10 (s < (nL x))
 (.oI2 s x
 (.fn within_S ((16384:Int),[(gT x s zz3).1,(gT x s zz3).2.1,(gT x s zz3).2.2]) fun y =>
 (.b00 (!y)
 (.ret (.inr (Sum.inl ())))
 (.ret (.inl (w1 s))))))
 (.ret (.inr (Sum.inr (())))))
def small3 (x : (List I3)) : Bool :=
 (letV (run (small3_l0_step x) (0:Int)) fun r =>
 (Sum.elim (fun a =>
 false) (fun b =>
 true) r))
def small3_pre (x : (List I3)) : Prop :=
 (Term (small3_l0_step x) (small3_l0_pre x) (0:Int))
def small3_t (x : (List I3)) : Tr Bool true :=
 (LoopD.lp (small3_l0 x) (small3_l0_t x) z0 fun r =>
 (.s00 r (fun a =>
 (.ret false)) (fun b =>
 (.ret true))))
abbrev small3_S : FnS := ⟨(.one (Ty.sl yy3)),(.one Ty.bool),small3_pre,small3⟩
theorem small3_ok : SpecOk Tryz.prog 102 (fnSpec small3_S) := SpecOk.tr small3_S small3_t (fn := Tryz.f102) tt_ok sp_small2_ok mixed (by kernel_rfl) (ItsOk.nil _ _) (fun x => (LpsOk.tr tt_ok (SpecsOk.ctxI sp_small2_ok (ItsOk.nil _ _)) mixed 0 (small3_l0 x) (small3_l0_t x) LpsOk.nil (by kernel_rfl) fun g s Q => (by kernel_rfl))) (fun x => (by kernel_rfl)) fun x Q => (by kernel_rfl)
def sp_small3 : List (Nat × Ev.Spec) := (102,fnSpec small3_S) :: sp_small2
theorem sp_small3_ok : SpecsOk Tryz.prog sp_small3 := SpecsOk.add (fn := Tryz.f102) (by kernel_rfl) small3_ok sp_small2_ok
def sub2 (x : (I2 × I2)) : I2 :=
 (letV (is2 [x.1,x.2]) fun y =>
 (if ((!y) = true) then
 ((0:Int),(0:Int)) else
 ((w64 (x.1.1 - x.2.1)),(w64 (x.1.2 - x.2.2)))))
def sub2_pre (x : (I2 × I2)) : Prop :=
 (is2_pre [x.1,x.2])
def sub2_t (x : (I2 × I2)) : Tr I2 true :=
 (.fn is2_S [x.1,x.2] fun y =>
 (.b00 (!y)
 (.ret zz2)
 (.ret ((w64 (x.1.1 - x.2.1)),(w64 (x.1.2 - x.2.2))))))
abbrev sub2_S : FnS := ⟨(.pair (.agg yy2) (.agg yy2)),(.agg yy2),sub2_pre,sub2⟩
theorem sub2_ok : SpecOk Tryz.prog 129 (fnSpec sub2_S) := SpecOk.tr sub2_S sub2_t (fn := Tryz.f129) tt_ok sp_small3_ok mixed (by kernel_rfl) (ItsOk.nil _ _) (fun x => LpsOk.nil) (fun x => (by kernel_rfl)) fun x Q => (by kernel_rfl)
def sp_sub2 : List (Nat × Ev.Spec) := (129,fnSpec sub2_S) :: sp_small3
theorem sp_sub2_ok : SpecsOk Tryz.prog sp_sub2 := SpecsOk.add (fn := Tryz.f129) (by kernel_rfl) sub2_ok sp_small3_ok
def cross2 (x : (I2 × I2)) : I2 :=
 (letV (is2 [x.1,x.2]) fun y =>
 (if ((!y) = true) then
 ((0:Int),(5:Int)) else
 ((w64 ((w64 (x.1.1 * x.2.2)) - (w64 (x.1.2 * x.2.1)))),(0:Int))))
def cross2_pre (x : (I2 × I2)) : Prop :=
 (is2_pre [x.1,x.2])
def cross2_t (x : (I2 × I2)) : Tr I2 true :=
 (.fn is2_S [x.1,x.2] fun y =>
 (.b00 (!y)
 (.ret (z0,(5:Int)))
 (.ret ((w64 ((w64 (x.1.1 * x.2.2)) - (w64 (x.1.2 * x.2.1)))),z0))))
abbrev cross2_S : FnS := ⟨(.pair (.agg yy2) (.agg yy2)),(.pair (.one yi) (.one yi)),cross2_pre,cross2⟩
theorem cross2_ok : SpecOk Tryz.prog 128 (fnSpec cross2_S) := SpecOk.tr cross2_S cross2_t (fn := Tryz.f128) tt_ok sp_sub2_ok mixed (by kernel_rfl) (ItsOk.nil _ _) (fun x => LpsOk.nil) (fun x => (by kernel_rfl)) fun x Q => (by kernel_rfl)
def sp_cross2 : List (Nat × Ev.Spec) := (128,fnSpec cross2_S) :: sp_sub2
theorem sp_cross2_ok : SpecsOk Tryz.prog sp_cross2 := SpecsOk.add (fn := Tryz.f128) (by kernel_rfl) cross2_ok sp_sub2_ok
def vparts (x : I3) : I3 :=
 x
def vparts_pre (_ : I3) : Prop := True
def vparts_t (x : I3) : Tr I3 false :=
 (.ret x)
abbrev vparts_S : FnS := ⟨(.agg yy3),(.agg yy3),vparts_pre,vparts⟩
theorem vparts_ok : SpecOk Tryz.prog 78 (fnSpec vparts_S) := SpecOk.tr vparts_S vparts_t (fn := Tryz.f78) tt_ok sp_cross2_ok mixed (by kernel_rfl) (ItsOk.nil _ _) (fun x => LpsOk.nil) (fun x => (by kernel_rfl)) fun x Q => (by kernel_rfl)
def sp_vparts : List (Nat × Ev.Spec) := (78,fnSpec vparts_S) :: sp_cross2
theorem sp_vparts_ok : SpecsOk Tryz.prog sp_vparts := SpecsOk.add (fn := Tryz.f78) (by kernel_rfl) vparts_ok sp_cross2_ok
def vpoint (x : I3) : I3 :=
 x
def vpoint_pre (_ : I3) : Prop := True
def vpoint_t (x : I3) : Tr I3 false :=
 (.ret x)
abbrev vpoint_S : FnS := ⟨(.agg yy3),(.agg yy3),vpoint_pre,vpoint⟩
theorem vpoint_ok : SpecOk Tryz.prog 111 (fnSpec vpoint_S) := SpecOk.tr vpoint_S vpoint_t (fn := Tryz.f111) tt_ok sp_vparts_ok mixed (by kernel_rfl) (ItsOk.nil _ _) (fun x => LpsOk.nil) (fun x => (by kernel_rfl)) fun x Q => (by kernel_rfl)
def sp_vpoint : List (Nat × Ev.Spec) := (111,fnSpec vpoint_S) :: sp_vparts
theorem sp_vpoint_ok : SpecsOk Tryz.prog sp_vpoint := SpecsOk.add (fn := Tryz.f111) (by kernel_rfl) vpoint_ok sp_vparts_ok
def vlow (x:Int) : Int :=
 (if (x > (0:Int)) then
 (w64 ((0:Int) - x)) else
 x)
def vlow_pre (_:Int) : Prop := True
def vlow_t (x:Int) : Tr Int false :=
 (.i00 (x > z0)
 (.ret (w64 (z0 - x)))
 (.ret x))
abbrev vlow_S : FnS := ⟨(.one yi),(.one yi),vlow_pre,vlow⟩
theorem vlow_ok : SpecOk Tryz.prog 90 (fnSpec vlow_S) := SpecOk.tr vlow_S vlow_t (fn := Tryz.f90) tt_ok sp_vpoint_ok mixed (by kernel_rfl) (ItsOk.nil _ _) (fun x => LpsOk.nil) (fun x => (by kernel_rfl)) fun x Q => (by kernel_rfl)
def sp_vlow : List (Nat × Ev.Spec) := (90,fnSpec vlow_S) :: sp_vpoint
theorem sp_vlow_ok : SpecsOk Tryz.prog sp_vlow := SpecsOk.add (fn := Tryz.f90) (by kernel_rfl) vlow_ok sp_vpoint_ok
def vaxis (x : I3) : Int :=
 (letV (vparts x) fun y =>
 (letV (vlow y.1) fun y_1 =>
 (letV (vlow y.1) fun y_2 =>
 (if (y_1 < y_2) then
 (letV (vlow y.2.1) fun y_3 =>
 (letV (vlow y.1) fun y_4 =>
 (if (y_3 < y_4) then
 (letV (vlow y.2.2) fun y_5 =>
 (letV (vlow y.2.1) fun y_6 =>
 (if (y_5 < y_6) then
 (2:Int) else
 (1:Int)))) else
 (letV (vlow y.2.2) fun y_5 =>
 (letV (vlow y.1) fun y_6 =>
 (if (y_5 < y_6) then
 (2:Int) else
 (0:Int))))))) else
 (letV (vlow y.2.1) fun y_3 =>
 (letV (vlow y.1) fun y_4 =>
 (if (y_3 < y_4) then
 (letV (vlow y.2.2) fun y_5 =>
 (letV (vlow y.2.1) fun y_6 =>
 (if (y_5 < y_6) then
 (2:Int) else
 (1:Int)))) else
 (letV (vlow y.2.2) fun y_5 =>
 (letV (vlow y.1) fun y_6 =>
 (if (y_5 < y_6) then
 (2:Int) else
 (0:Int)))))))))))
def vaxis_pre (_ : I3) : Prop := True
def vaxis_t (x : I3) : Tr Int false :=
 (.fn0 vparts_S x trivial fun y =>
 (.fn0 vlow_S y.1 trivial fun y_1 =>
 (.fn0 vlow_S y.1 trivial fun y_2 =>
 (.i00 (y_1 < y_2)
 (.fn0 vlow_S y.2.1 trivial fun y_3 =>
 (.fn0 vlow_S y.1 trivial fun y_4 =>
 (.i00 (y_3 < y_4)
 (.fn0 vlow_S y.2.2 trivial fun y_5 =>
 (.fn0 vlow_S y.2.1 trivial fun y_6 =>
 (.i00 (y_5 < y_6)
 (.ret (2:Int))
 (.ret z1))))
 (.fn0 vlow_S y.2.2 trivial fun y_5 =>
 (.fn0 vlow_S y.1 trivial fun y_6 =>
 (.i00 (y_5 < y_6)
 (.ret (2:Int))
 (.ret z0)))))))
 (.fn0 vlow_S y.2.1 trivial fun y_3 =>
 (.fn0 vlow_S y.1 trivial fun y_4 =>
 (.i00 (y_3 < y_4)
 (.fn0 vlow_S y.2.2 trivial fun y_5 =>
 (.fn0 vlow_S y.2.1 trivial fun y_6 =>
 (.i00 (y_5 < y_6)
 (.ret (2:Int))
 (.ret z1))))
 (.fn0 vlow_S y.2.2 trivial fun y_5 =>
 (.fn0 vlow_S y.1 trivial fun y_6 =>
 (.i00 (y_5 < y_6)
 (.ret (2:Int))
 (.ret z0)))))))))))
abbrev vaxis_S : FnS := ⟨(.agg yy3),(.one yi),vaxis_pre,vaxis⟩
theorem vaxis_ok : SpecOk Tryz.prog 72 (fnSpec vaxis_S) := SpecOk.tr vaxis_S vaxis_t (fn := Tryz.f72) tt_ok sp_vlow_ok mixed (by kernel_rfl) (ItsOk.nil _ _) (fun x => (LpsOk.unrollT tt_ok (SpecsOk.ctxI sp_vlow_ok (ItsOk.nil _ _)) mixed 0 4 LpsOk.nil (by kernel_rfl))) (fun x => (by kernel_rfl)) fun x Q => (by kernel_rfl)
def sp_vaxis : List (Nat × Ev.Spec) := (72,fnSpec vaxis_S) :: sp_vlow
theorem sp_vaxis_ok : SpecsOk Tryz.prog sp_vaxis := SpecsOk.add (fn := Tryz.f72) (by kernel_rfl) vaxis_ok sp_vlow_ok
def vdrop (x : (I3 × Int)) : (I2 × Int) :=
 (if (x.2 < (0:Int)) then
 (((0:Int),(0:Int)),(1:Int)) else
 (if (x.2 ≥ (3:Int)) then
 (((0:Int),(0:Int)),(1:Int)) else
 (letV (vparts x.1) fun y =>
 (((List.getD [y.1,y.2.1,y.2.2] (0 + ((Int.toNat (Int.tmod (w64 (x.2 + (1:Int))) (3:Int))) * 1)) (0:Int)),(List.getD [y.1,y.2.1,y.2.2] (0 + ((Int.toNat (Int.tmod (w64 (x.2 + (2:Int))) (3:Int))) * 1)) (0:Int))),(0:Int)))))
def vdrop_pre (x : (I3 × Int)) : Prop :=
 (¬ (x.2 < (0:Int)) →
 (¬ (x.2 ≥ (3:Int)) →
 (letP (vparts x.1) fun y =>
 ((((0:Int) ≤ (Int.tmod (w64 (x.2 + (1:Int))) (3:Int))) ∧ ((Int.tmod (w64 (x.2 + (1:Int))) (3:Int)) < (3:Int))) ∧
 ((((0 + ((Int.toNat (Int.tmod (w64 (x.2 + (1:Int))) (3:Int))) * 1)) + 1) ≤ 3) ∧
 ((((0:Int) ≤ (Int.tmod (w64 (x.2 + (2:Int))) (3:Int))) ∧ ((Int.tmod (w64 (x.2 + (2:Int))) (3:Int)) < (3:Int))) ∧
 (((0 + ((Int.toNat (Int.tmod (w64 (x.2 + (2:Int))) (3:Int))) * 1)) + 1) ≤ 3)))))))
def vdrop_t (x : (I3 × Int)) : Tr (I2 × Int) true :=
 (.i01 (x.2 < z0)
 (.ret (zz2,z1))
 (.i01 (x.2 ≥ (3:Int))
 (.ret (zz2,z1))
 (.fn0 vparts_S x.1 trivial fun y =>
 (.oR (Int.tmod (w1 x.2) (3:Int)) (3:Int)
 (.od (((0 + ((tN (Int.tmod (w1 x.2) (3:Int))) * 1)) + 1) ≤ 3)
 (.oR (Int.tmod (w64 (x.2 + (2:Int))) (3:Int)) (3:Int)
 (.od (((0 + ((tN (Int.tmod (w64 (x.2 + (2:Int))) (3:Int))) * 1)) + 1) ≤ 3)
 (.ret (((List.getD [y.1,y.2.1,y.2.2] (0 + ((tN (Int.tmod (w1 x.2) (3:Int))) * 1)) z0),(List.getD [y.1,y.2.1,y.2.2] (0 + ((tN (Int.tmod (w64 (x.2 + (2:Int))) (3:Int))) * 1)) z0)),z0)))))))))
abbrev vdrop_S : FnS := ⟨(.pair (.agg yy3) (.one yi)),(.pair (.agg yy2) (.one yi)),vdrop_pre,vdrop⟩
theorem vdrop_ok : SpecOk Tryz.prog 54 (fnSpec vdrop_S) := SpecOk.tr vdrop_S vdrop_t (fn := Tryz.f54) tt_ok sp_vaxis_ok mixed (by kernel_rfl) (ItsOk.nil _ _) (fun x => LpsOk.nil) (fun x => (by kernel_rfl)) fun x Q => (by kernel_rfl)
def sp_vdrop : List (Nat × Ev.Spec) := (54,fnSpec vdrop_S) :: sp_vaxis
theorem sp_vdrop_ok : SpecsOk Tryz.prog sp_vdrop := SpecsOk.add (fn := Tryz.f54) (by kernel_rfl) vdrop_ok sp_vaxis_ok
def sub3 (x : (I3 × I3)) : I3 :=
 (letV (is3 [x.1,x.2]) fun y =>
 (if ((!y) = true) then
 ((0:Int),((0:Int),(0:Int))) else
 (letV (vparts x.1) fun y_1 =>
 (letV (vparts x.2) fun y_2 =>
 (letV (vpoint ((w64 (y_1.1 - y_2.1)),((w64 (y_1.2.1 - y_2.2.1)),(w64 (y_1.2.2 - y_2.2.2))))) fun y_3 =>
 y_3)))))
def sub3_pre (x : (I3 × I3)) : Prop :=
 (is3_pre [x.1,x.2])
def sub3_t (x : (I3 × I3)) : Tr I3 true :=
 (.fn is3_S [x.1,x.2] fun y =>
 (.b00 (!y)
 (.ret zz3)
 (.fn0 vparts_S x.1 trivial fun y_1 =>
 (.fn0 vparts_S x.2 trivial fun y_2 =>
 (.fn0 vpoint_S ((w64 (y_1.1 - y_2.1)),((w64 (y_1.2.1 - y_2.2.1)),(w64 (y_1.2.2 - y_2.2.2)))) trivial fun y_3 =>
 (.ret y_3))))))
abbrev sub3_S : FnS := ⟨(.pair (.agg yy3) (.agg yy3)),(.agg yy3),sub3_pre,sub3⟩
theorem sub3_ok : SpecOk Tryz.prog 104 (fnSpec sub3_S) := SpecOk.tr sub3_S sub3_t (fn := Tryz.f104) tt_ok sp_vdrop_ok mixed (by kernel_rfl) (ItsOk.nil _ _) (fun x => (LpsOk.unrollT tt_ok (SpecsOk.ctxI sp_vdrop_ok (ItsOk.nil _ _)) mixed 0 4 LpsOk.nil (by kernel_rfl))) (fun x => (by kernel_rfl)) fun x Q => (by kernel_rfl)
def sp_sub3 : List (Nat × Ev.Spec) := (104,fnSpec sub3_S) :: sp_vdrop
theorem sp_sub3_ok : SpecsOk Tryz.prog sp_sub3 := SpecsOk.add (fn := Tryz.f104) (by kernel_rfl) sub3_ok sp_vdrop_ok
def cross3 (x : (I3 × I3)) : (I3 × Int) :=
 (letV (is3 [x.1,x.2]) fun y =>
 (if ((!y) = true) then
 (((0:Int),((0:Int),(0:Int))),(5:Int)) else
 (letV (vparts x.1) fun y_1 =>
 (letV (vparts x.2) fun y_2 =>
 (letV (vpoint ((w64 ((w64 (y_1.2.1 * y_2.2.2)) - (w64 (y_1.2.2 * y_2.2.1)))),((w64 ((w64 (y_1.2.2 * y_2.1)) - (w64 (y_1.1 * y_2.2.2)))),(w64 ((w64 (y_1.1 * y_2.2.1)) - (w64 (y_1.2.1 * y_2.1))))))) fun y_3 =>
 (y_3,(0:Int)))))))
def cross3_pre (x : (I3 × I3)) : Prop :=
 (is3_pre [x.1,x.2])
def cross3_t (x : (I3 × I3)) : Tr (I3 × Int) true :=
 (.fn is3_S [x.1,x.2] fun y =>
 (.b00 (!y)
 (.ret (zz3,(5:Int)))
 (.fn0 vparts_S x.1 trivial fun y_1 =>
 (.fn0 vparts_S x.2 trivial fun y_2 =>
 (.fn0 vpoint_S ((w64 ((w64 (y_1.2.1 * y_2.2.2)) - (w64 (y_1.2.2 * y_2.2.1)))),((w64 ((w64 (y_1.2.2 * y_2.1)) - (w64 (y_1.1 * y_2.2.2)))),(w64 ((w64 (y_1.1 * y_2.2.1)) - (w64 (y_1.2.1 * y_2.1)))))) trivial fun y_3 =>
 (.ret (y_3,z0)))))))
abbrev cross3_S : FnS := ⟨(.pair (.agg yy3) (.agg yy3)),(.pair (.agg yy3) (.one yi)),cross3_pre,cross3⟩
theorem cross3_ok : SpecOk Tryz.prog 103 (fnSpec cross3_S) := SpecOk.tr cross3_S cross3_t (fn := Tryz.f103) tt_ok sp_sub3_ok mixed (by kernel_rfl) (ItsOk.nil _ _) (fun x => (LpsOk.unrollT tt_ok (SpecsOk.ctxI sp_sub3_ok (ItsOk.nil _ _)) mixed 0 4 LpsOk.nil (by kernel_rfl))) (fun x => (by kernel_rfl)) fun x Q => (by kernel_rfl)
def sp_cross3 : List (Nat × Ev.Spec) := (103,fnSpec cross3_S) :: sp_sub3
theorem sp_cross3_ok : SpecsOk Tryz.prog sp_cross3 := SpecsOk.add (fn := Tryz.f103) (by kernel_rfl) cross3_ok sp_sub3_ok
def parea (x : I6) : I2 :=
 (letV (small2 [x.1,x.2.1,x.2.2]) fun y =>
 (if ((!y) = true) then
 ((0:Int),(5:Int)) else
 (letV (sub2 (x.2.1,x.1)) fun y_1 =>
 (letV (sub2 (x.2.2,x.1)) fun y_2 =>
 (letV (cross2 (y_1,y_2)) fun y_3 =>
 y_3)))))
def parea_pre (x : I6) : Prop :=
 ((small2_pre [x.1,x.2.1,x.2.2]) ∧
 letP (small2 [x.1,x.2.1,x.2.2]) fun y =>
 (¬ ((!y) = true) →
 ((sub2_pre (x.2.1,x.1)) ∧
 letP (sub2 (x.2.1,x.1)) fun y_1 =>
 ((sub2_pre (x.2.2,x.1)) ∧
 letP (sub2 (x.2.2,x.1)) fun y_2 =>
 (cross2_pre (y_1,y_2))))))
def parea_t (x : I6) : Tr I2 true :=
 (.fn small2_S [x.1,x.2.1,x.2.2] fun y =>
 (.b01 (!y)
 (.ret (z0,(5:Int)))
 (.fn sub2_S (x.2.1,x.1) fun y_1 =>
 (.fn sub2_S (x.2.2,x.1) fun y_2 =>
 (.fn cross2_S (y_1,y_2) fun y_3 =>
 (.ret y_3))))))
abbrev parea_S : FnS := ⟨(.agg yy6),(.pair (.one yi) (.one yi)),parea_pre,parea⟩
theorem parea_ok : SpecOk Tryz.prog 112 (fnSpec parea_S) := SpecOk.tr parea_S parea_t (fn := Tryz.f112) tt_ok sp_cross3_ok mixed (by kernel_rfl) (ItsOk.nil _ _) (fun x => LpsOk.nil) (fun x => (by kernel_rfl)) fun x Q => (by kernel_rfl)
def sp_parea : List (Nat × Ev.Spec) := (112,fnSpec parea_S) :: sp_cross3
theorem sp_parea_ok : SpecsOk Tryz.prog sp_parea := SpecsOk.add (fn := Tryz.f112) (by kernel_rfl) parea_ok sp_cross3_ok
def sarea (x : I6) : I2 :=
 (letV (parea x) fun y =>
 y)
def sarea_pre (x : I6) : Prop :=
 (parea_pre x)
def sarea_t (x : I6) : Tr I2 true :=
 (.fn parea_S x fun y =>
 (.ret y))
abbrev sarea_S : FnS := ⟨(.pair (.agg yy2) (.pair (.agg yy2) (.agg yy2))),(.pair (.one yi) (.one yi)),sarea_pre,sarea⟩
theorem sarea_ok : SpecOk Tryz.prog 105 (fnSpec sarea_S) := SpecOk.tr sarea_S sarea_t (fn := Tryz.f105) tt_ok sp_parea_ok mixed (by kernel_rfl) (ItsOk.nil _ _) (fun x => LpsOk.nil) (fun x => (by kernel_rfl)) fun x Q => (by kernel_rfl)
def sp_sarea : List (Nat × Ev.Spec) := (105,fnSpec sarea_S) :: sp_parea
theorem sp_sarea_ok : SpecsOk Tryz.prog sp_sarea := SpecsOk.add (fn := Tryz.f105) (by kernel_rfl) sarea_ok sp_parea_ok
def sside (x : I6) : I2 :=
 (letV (sarea x) fun y =>
 (letV (compare (y.1,(0:Int))) fun y_1 =>
 (y_1,y.2)))
def sside_pre (x : I6) : Prop :=
 (sarea_pre x)
def sside_t (x : I6) : Tr I2 true :=
 (.fn sarea_S x fun y =>
 (.fn0 compare_S (y.1,z0) trivial fun y_1 =>
 (.ret (y_1,y.2))))
abbrev sside_S : FnS := ⟨(.pair (.agg yy2) (.pair (.agg yy2) (.agg yy2))),(.pair (.one yi) (.one yi)),sside_pre,sside⟩
theorem sside_ok : SpecOk Tryz.prog 114 (fnSpec sside_S) := SpecOk.tr sside_S sside_t (fn := Tryz.f114) tt_ok sp_sarea_ok mixed (by kernel_rfl) (ItsOk.nil _ _) (fun x => LpsOk.nil) (fun x => (by kernel_rfl)) fun x Q => (by kernel_rfl)
def sp_sside : List (Nat × Ev.Spec) := (114,fnSpec sside_S) :: sp_sarea
theorem sp_sside_ok : SpecsOk Tryz.prog sp_sside := SpecsOk.add (fn := Tryz.f114) (by kernel_rfl) sside_ok sp_sarea_ok
def pnormal (x : I9) : (I3 × Int) :=
 (letV (small3 [x.1,x.2.1,x.2.2]) fun y =>
 (if ((!y) = true) then
 (((0:Int),((0:Int),(0:Int))),(5:Int)) else
 (letV (sub3 (x.2.1,x.1)) fun y_1 =>
 (letV (sub3 (x.2.2,x.1)) fun y_2 =>
 (letV (cross3 (y_1,y_2)) fun y_3 =>
 y_3)))))
def pnormal_pre (x : I9) : Prop :=
 ((small3_pre [x.1,x.2.1,x.2.2]) ∧
 letP (small3 [x.1,x.2.1,x.2.2]) fun y =>
 (¬ ((!y) = true) →
 ((sub3_pre (x.2.1,x.1)) ∧
 letP (sub3 (x.2.1,x.1)) fun y_1 =>
 ((sub3_pre (x.2.2,x.1)) ∧
 letP (sub3 (x.2.2,x.1)) fun y_2 =>
 (cross3_pre (y_1,y_2))))))
def pnormal_t (x : I9) : Tr (I3 × Int) true :=
 (.fn small3_S [x.1,x.2.1,x.2.2] fun y =>
 (.b01 (!y)
 (.ret (zz3,(5:Int)))
 (.fn sub3_S (x.2.1,x.1) fun y_1 =>
 (.fn sub3_S (x.2.2,x.1) fun y_2 =>
 (.fn cross3_S (y_1,y_2) fun y_3 =>
 (.ret y_3))))))
abbrev pnormal_S : FnS := ⟨(.agg yy9),(.pair (.agg yy3) (.one yi)),pnormal_pre,pnormal⟩
theorem pnormal_ok : SpecOk Tryz.prog 89 (fnSpec pnormal_S) := SpecOk.tr pnormal_S pnormal_t (fn := Tryz.f89) tt_ok sp_sside_ok mixed (by kernel_rfl) (ItsOk.nil _ _) (fun x => LpsOk.nil) (fun x => (by kernel_rfl)) fun x Q => (by kernel_rfl)
def sp_pnormal : List (Nat × Ev.Spec) := (89,fnSpec pnormal_S) :: sp_sside
theorem sp_pnormal_ok : SpecsOk Tryz.prog sp_pnormal := SpecsOk.add (fn := Tryz.f89) (by kernel_rfl) pnormal_ok sp_sside_ok
def snormal (x : I9) : (I3 × Int) :=
 (letV (pnormal x) fun y =>
 y)
def snormal_pre (x : I9) : Prop :=
 (pnormal_pre x)
def snormal_t (x : I9) : Tr (I3 × Int) true :=
 (.fn pnormal_S x fun y =>
 (.ret y))
abbrev snormal_S : FnS := ⟨(.pair (.agg yy3) (.pair (.agg yy3) (.agg yy3))),(.pair (.agg yy3) (.one yi)),snormal_pre,snormal⟩
theorem snormal_ok : SpecOk Tryz.prog 71 (fnSpec snormal_S) := SpecOk.tr snormal_S snormal_t (fn := Tryz.f71) tt_ok sp_pnormal_ok mixed (by kernel_rfl) (ItsOk.nil _ _) (fun x => LpsOk.nil) (fun x => (by kernel_rfl)) fun x Q => (by kernel_rfl)
def sp_snormal : List (Nat × Ev.Spec) := (71,fnSpec snormal_S) :: sp_pnormal
theorem sp_snormal_ok : SpecsOk Tryz.prog sp_snormal := SpecsOk.add (fn := Tryz.f71) (by kernel_rfl) snormal_ok sp_pnormal_ok
def sfacing (x : I9) : I3 :=
 (letV (snormal x) fun y =>
 (if ((y.2 != (0:Int)) = true) then
 ((0:Int),((0:Int),y.2)) else
 (if (((y.1.1 == (0:Int)) && ((y.1.2.1 == (0:Int)) && ((y.1.2.2 == (0:Int)) && true))) = true) then
 ((0:Int),((0:Int),(3:Int))) else
 (letV (vaxis y.1) fun y_1 =>
 (letV (compare ((List.getD [y.1.1,y.1.2.1,y.1.2.2] ((Int.toNat y_1) * 1) (0:Int)),(0:Int))) fun y_2 =>
 (y_1,(y_2,(0:Int))))))))
def sfacing_pre (x : I9) : Prop :=
 ((snormal_pre x) ∧
 letP (snormal x) fun y =>
 (¬ ((y.2 != (0:Int)) = true) →
 (¬ (((y.1.1 == (0:Int)) && ((y.1.2.1 == (0:Int)) && ((y.1.2.2 == (0:Int)) && true))) = true) →
 (letP (vaxis y.1) fun y_1 =>
 (((0:Int) ≤ y_1) ∧ (y_1 < (3:Int)))))))
def sfacing_t (x : I9) : Tr I3 true :=
 (.fn snormal_S x fun y =>
 (.b01 (y.2 != z0)
 (.ret (z0,(z0,y.2)))
 (.b01 ((y.1.1 == z0) && ((y.1.2.1 == z0) && ((y.1.2.2 == z0) && true)))
 (.ret (z0,(z0,(3:Int))))
 (.fn0 vaxis_S y.1 trivial fun y_1 =>
 (.oR y_1 (3:Int)
 (.fn0 compare_S ((List.getD [y.1.1,y.1.2.1,y.1.2.2] ((tN y_1) * 1) z0),z0) trivial fun y_2 =>
 (.ret (y_1,(y_2,z0)))))))))
abbrev sfacing_S : FnS := ⟨(.pair (.agg yy3) (.pair (.agg yy3) (.agg yy3))),(.pair (.one yi) (.pair (.one yi) (.one yi))),sfacing_pre,sfacing⟩
theorem sfacing_ok : SpecOk Tryz.prog 50 (fnSpec sfacing_S) := SpecOk.tr sfacing_S sfacing_t (fn := Tryz.f50) tt_ok sp_snormal_ok mixed (by kernel_rfl) (ItsOk.nil _ _) (fun x => LpsOk.nil) (fun x => (by kernel_rfl)) fun x Q => (by kernel_rfl)
def sp_sfacing : List (Nat × Ev.Spec) := (50,fnSpec sfacing_S) :: sp_snormal
theorem sp_sfacing_ok : SpecsOk Tryz.prog sp_sfacing := SpecsOk.add (fn := Tryz.f50) (by kernel_rfl) sfacing_ok sp_snormal_ok
def mright (x : I6) : Bool :=
 (letV (sarea x) fun y =>
 (if ((y.2 == (0:Int)) = true) then
 (y.1 != (0:Int)) else
 false))
def mright_pre (x : I6) : Prop :=
 (sarea_pre x)
def mright_t (x : I6) : Tr Bool true :=
 (.fn sarea_S x fun y =>
 (.b00 (y.2 == z0)
 (.ret (y.1 != z0))
 (.ret false)))
abbrev mright_S : FnS := ⟨(.agg yy6),(.one Ty.bool),mright_pre,mright⟩
theorem mright_ok : SpecOk Tryz.prog 92 (fnSpec mright_S) := SpecOk.tr mright_S mright_t (fn := Tryz.f92) tt_ok sp_sfacing_ok mixed (by kernel_rfl) (ItsOk.nil _ _) (fun x => LpsOk.nil) (fun x => (by kernel_rfl)) fun x Q => (by kernel_rfl)
def sp_mright : List (Nat × Ev.Spec) := (92,fnSpec mright_S) :: sp_sfacing
theorem sp_mright_ok : SpecsOk Tryz.prog sp_mright := SpecsOk.add (fn := Tryz.f92) (by kernel_rfl) mright_ok sp_sfacing_ok
def mfew (x : ((List I3) × ((List I2) × ((List I3) × (List I9))))) : Bool :=
 (if ((maxI (maxI (x.1.length:Int) (x.2.1.length:Int)) (x.2.2.1.length:Int)) ≤ (2000:Int)) then
 (decide ((x.2.2.2.length:Int) ≤ (500:Int))) else
 false)
def mfew_pre (_ : ((List I3) × ((List I2) × ((List I3) × (List I9))))) : Prop := True
def mfew_t (x : ((List I3) × ((List I2) × ((List I3) × (List I9))))) : Tr Bool false :=
 (.i00 ((maxI (maxI (nL x.1) (nL x.2.1)) (nL x.2.2.1)) ≤ (2000:Int))
 (.ret (decide ((nL x.2.2.2) ≤ (500:Int))))
 (.ret false))
abbrev mfew_S : FnS := ⟨(.agg (Ty.prod (Ty.sl yy3) (Ty.prod (Ty.sl yy2) (Ty.prod (Ty.sl yy3) (Ty.sl yy9))))),(.one Ty.bool),mfew_pre,mfew⟩
theorem mfew_ok : SpecOk Tryz.prog 63 (fnSpec mfew_S) := SpecOk.tr mfew_S mfew_t (fn := Tryz.f63) tt_ok sp_mright_ok mixed (by kernel_rfl) (ItsOk.nil _ _) (fun x => LpsOk.nil) (fun x => (by kernel_rfl)) fun x Q => (by kernel_rfl)
def sp_mfew : List (Nat × Ev.Spec) := (63,fnSpec mfew_S) :: sp_mright
theorem sp_mfew_ok : SpecsOk Tryz.prog sp_mfew := SpecsOk.add (fn := Tryz.f63) (by kernel_rfl) mfew_ok sp_mright_ok
def among (x : (Int × (Int × Bool))) : Bool :=
 (if (x.1 ≥ (0:Int)) then
 (if (x.1 < x.2.1) then
 true else
 (if (x.2.2 = true) then
 (x.1 == (-1:Int)) else
 false)) else
 (if (x.2.2 = true) then
 (x.1 == (-1:Int)) else
 false))
def among_pre (_ : (Int × (Int × Bool))) : Prop := True
def among_t (x : (Int × (Int × Bool))) : Tr Bool false :=
 (.i00 (x.1 ≥ z0)
 (.i00 (x.1 < x.2.1)
 (.ret true)
 (.b00 x.2.2
 (.ret (x.1 == (-1:Int)))
 (.ret false)))
 (.b00 x.2.2
 (.ret (x.1 == (-1:Int)))
 (.ret false)))
abbrev among_S : FnS := ⟨(.pair (.one yi) (.pair (.one yi) (.one Ty.bool))),(.one Ty.bool),among_pre,among⟩
theorem among_ok : SpecOk Tryz.prog 66 (fnSpec among_S) := SpecOk.tr among_S among_t (fn := Tryz.f66) tt_ok sp_mfew_ok mixed (by kernel_rfl) (ItsOk.nil _ _) (fun x => LpsOk.nil) (fun x => (by kernel_rfl)) fun x Q => (by kernel_rfl)
def sp_among : List (Nat × Ev.Spec) := (66,fnSpec among_S) :: sp_mfew
theorem sp_among_ok : SpecsOk Tryz.prog sp_among := SpecsOk.add (fn := Tryz.f66) (by kernel_rfl) among_ok sp_mfew_ok
def meshis_l0 (x : ((List I3) × ((List I2) × ((List I3) × (List I9))))) : LoopD := ⟨[],⟨pvs 86 0 [(1,.v (.one (.ptr 0 0))),(29,.v (.one (.full 4))),(30,.v (.one (.i .i64))),(31,.v (.one (.i .i64)))],[.cells [.full 1,.full 2,.full 3,.full 4] 26,.row yy3 0,.row yy2 0,.row yy3 0,.row yy9 0],0,none,[],[0,2,3,4,5],[1],[.i],[.i (x.2.2.2.length:Int),.l yy3 x.1,.l yy2 x.2.1,.l yy3 x.2.2.1,.l yy9 x.2.2.2]⟩,[⟨.ret,.ret,⟨pvs 86 0 [(2,.v (.one (.b)))],[],0,none,[],[0],[],[],[.b false]⟩⟩,⟨(.exit 0),.normal,⟨pvs 86 0 [],[],0,none,[],[],[],[],[]⟩⟩]⟩
def meshis_l0_step (x : ((List I3) × ((List I2) × ((List I3) × (List I9))))) (s:Int) : Int ⊕ (Unit ⊕ Unit) :=
 (if (s < (x.2.2.2.length:Int)) then
 (letV (among ((List.getD x.2.2.2 (Int.toNat s) (((0:Int),((0:Int),(0:Int))),(((0:Int),((0:Int),(0:Int))),((0:Int),((0:Int),(0:Int)))))).1.1,((x.1.length:Int),false))) fun y =>
 (if ((!y) = true) then
 (Sum.inr (Sum.inl ())) else
 (letV (among ((List.getD x.2.2.2 (Int.toNat s) (((0:Int),((0:Int),(0:Int))),(((0:Int),((0:Int),(0:Int))),((0:Int),((0:Int),(0:Int)))))).1.2.1,((x.2.1.length:Int),true))) fun y_1 =>
 (if ((!y_1) = true) then
 (Sum.inr (Sum.inl ())) else
 (letV (among ((List.getD x.2.2.2 (Int.toNat s) (((0:Int),((0:Int),(0:Int))),(((0:Int),((0:Int),(0:Int))),((0:Int),((0:Int),(0:Int)))))).1.2.2,((x.2.2.1.length:Int),true))) fun y_2 =>
 (if ((!y_2) = true) then
 (Sum.inr (Sum.inl ())) else
 (if ((!((decide ((List.getD x.2.2.2 (Int.toNat s) (((0:Int),((0:Int),(0:Int))),(((0:Int),((0:Int),(0:Int))),((0:Int),((0:Int),(0:Int)))))).1.2.1 < (0:Int))) == (decide ((List.getD x.2.2.2 (Int.toNat s) (((0:Int),((0:Int),(0:Int))),(((0:Int),((0:Int),(0:Int))),((0:Int),((0:Int),(0:Int)))))).1.2.1 < (0:Int))))) = true) then
 (Sum.inr (Sum.inl ())) else
 (if ((!((decide ((List.getD x.2.2.2 (Int.toNat s) (((0:Int),((0:Int),(0:Int))),(((0:Int),((0:Int),(0:Int))),((0:Int),((0:Int),(0:Int)))))).1.2.2 < (0:Int))) == (decide ((List.getD x.2.2.2 (Int.toNat s) (((0:Int),((0:Int),(0:Int))),(((0:Int),((0:Int),(0:Int))),((0:Int),((0:Int),(0:Int)))))).1.2.2 < (0:Int))))) = true) then
 (Sum.inr (Sum.inl ())) else
 (letV (among ((List.getD x.2.2.2 (Int.toNat s) (((0:Int),((0:Int),(0:Int))),(((0:Int),((0:Int),(0:Int))),((0:Int),((0:Int),(0:Int)))))).2.1.1,((x.1.length:Int),false))) fun y_3 =>
 (if ((!y_3) = true) then
 (Sum.inr (Sum.inl ())) else
 (letV (among ((List.getD x.2.2.2 (Int.toNat s) (((0:Int),((0:Int),(0:Int))),(((0:Int),((0:Int),(0:Int))),((0:Int),((0:Int),(0:Int)))))).2.1.2.1,((x.2.1.length:Int),true))) fun y_4 =>
 (if ((!y_4) = true) then
 (Sum.inr (Sum.inl ())) else
 (letV (among ((List.getD x.2.2.2 (Int.toNat s) (((0:Int),((0:Int),(0:Int))),(((0:Int),((0:Int),(0:Int))),((0:Int),((0:Int),(0:Int)))))).2.1.2.2,((x.2.2.1.length:Int),true))) fun y_5 =>
 (if ((!y_5) = true) then
 (Sum.inr (Sum.inl ())) else
 (if ((!((decide ((List.getD x.2.2.2 (Int.toNat s) (((0:Int),((0:Int),(0:Int))),(((0:Int),((0:Int),(0:Int))),((0:Int),((0:Int),(0:Int)))))).2.1.2.1 < (0:Int))) == (decide ((List.getD x.2.2.2 (Int.toNat s) (((0:Int),((0:Int),(0:Int))),(((0:Int),((0:Int),(0:Int))),((0:Int),((0:Int),(0:Int)))))).1.2.1 < (0:Int))))) = true) then
 (Sum.inr (Sum.inl ())) else
 (if ((!((decide ((List.getD x.2.2.2 (Int.toNat s) (((0:Int),((0:Int),(0:Int))),(((0:Int),((0:Int),(0:Int))),((0:Int),((0:Int),(0:Int)))))).2.1.2.2 < (0:Int))) == (decide ((List.getD x.2.2.2 (Int.toNat s) (((0:Int),((0:Int),(0:Int))),(((0:Int),((0:Int),(0:Int))),((0:Int),((0:Int),(0:Int)))))).1.2.2 < (0:Int))))) = true) then
 (Sum.inr (Sum.inl ())) else
 (letV (among ((List.getD x.2.2.2 (Int.toNat s) (((0:Int),((0:Int),(0:Int))),(((0:Int),((0:Int),(0:Int))),((0:Int),((0:Int),(0:Int)))))).2.2.1,((x.1.length:Int),false))) fun y_6 =>
 (if ((!y_6) = true) then
 (Sum.inr (Sum.inl ())) else
 (letV (among ((List.getD x.2.2.2 (Int.toNat s) (((0:Int),((0:Int),(0:Int))),(((0:Int),((0:Int),(0:Int))),((0:Int),((0:Int),(0:Int)))))).2.2.2.1,((x.2.1.length:Int),true))) fun y_7 =>
 (if ((!y_7) = true) then
 (Sum.inr (Sum.inl ())) else
 (letV (among ((List.getD x.2.2.2 (Int.toNat s) (((0:Int),((0:Int),(0:Int))),(((0:Int),((0:Int),(0:Int))),((0:Int),((0:Int),(0:Int)))))).2.2.2.2,((x.2.2.1.length:Int),true))) fun y_8 =>
 (if ((!y_8) = true) then
 (Sum.inr (Sum.inl ())) else
 (if ((!((decide ((List.getD x.2.2.2 (Int.toNat s) (((0:Int),((0:Int),(0:Int))),(((0:Int),((0:Int),(0:Int))),((0:Int),((0:Int),(0:Int)))))).2.2.2.1 < (0:Int))) == (decide ((List.getD x.2.2.2 (Int.toNat s) (((0:Int),((0:Int),(0:Int))),(((0:Int),((0:Int),(0:Int))),((0:Int),((0:Int),(0:Int)))))).1.2.1 < (0:Int))))) = true) then
 (Sum.inr (Sum.inl ())) else
 (if ((!((decide ((List.getD x.2.2.2 (Int.toNat s) (((0:Int),((0:Int),(0:Int))),(((0:Int),((0:Int),(0:Int))),((0:Int),((0:Int),(0:Int)))))).2.2.2.2 < (0:Int))) == (decide ((List.getD x.2.2.2 (Int.toNat s) (((0:Int),((0:Int),(0:Int))),(((0:Int),((0:Int),(0:Int))),((0:Int),((0:Int),(0:Int)))))).1.2.2 < (0:Int))))) = true) then
 (Sum.inr (Sum.inl ())) else
 (Sum.inl (w64 (s + (1:Int)))))))))))))))))))))))))))) else
 (Sum.inr (Sum.inr (()))))
def meshis_l0_pre (x : ((List I3) × ((List I2) × ((List I3) × (List I9))))) (s:Int) : Prop :=
 ((s < (x.2.2.2.length:Int)) →
 ((((0:Int) ≤ s) ∧ (s < (x.2.2.2.length:Int))) ∧
 (((Int.toNat s) < (List.length x.2.2.2)) ∧
 ((Int.toNat s) < (List.length x.2.2.2)))))
def meshis_l0_t (x : ((List I3) × ((List I2) × ((List I3) × (List I9))))) (s:Int) : Tr (Int ⊕ (Unit ⊕ Unit)) true :=
 (.i10 (s < (nL x.2.2.2))
 (.oI2 s x.2.2.2
 (.fn0 among_S ((gT x.2.2.2 s zz9).1.1,((nL x.1),false)) trivial fun y =>
 (.b00 (!y)
 (.ret (.inr (Sum.inl ())))
 (.fn0 among_S ((gT x.2.2.2 s zz9).1.2.1,((nL x.2.1),true)) trivial fun y_1 =>
 (.b00 (!y_1)
 (.ret (.inr (Sum.inl ())))
 (.fn0 among_S ((gT x.2.2.2 s zz9).1.2.2,((nL x.2.2.1),true)) trivial fun y_2 =>
 (.b00 (!y_2)
 (.ret (.inr (Sum.inl ())))
 (.b00 (!((decide ((gT x.2.2.2 s zz9).1.2.1 < z0)) == (decide ((gT x.2.2.2 s zz9).1.2.1 < z0))))
 (.ret (.inr (Sum.inl ())))
 (.b00 (!((decide ((gT x.2.2.2 s zz9).1.2.2 < z0)) == (decide ((gT x.2.2.2 s zz9).1.2.2 < z0))))
 (.ret (.inr (Sum.inl ())))
 (.fn0 among_S ((gT x.2.2.2 s zz9).2.1.1,((nL x.1),false)) trivial fun y_3 =>
 (.b00 (!y_3)
 (.ret (.inr (Sum.inl ())))
 (.fn0 among_S ((gT x.2.2.2 s zz9).2.1.2.1,((nL x.2.1),true)) trivial fun y_4 =>
 (.b00 (!y_4)
 (.ret (.inr (Sum.inl ())))
 (.fn0 among_S ((gT x.2.2.2 s zz9).2.1.2.2,((nL x.2.2.1),true)) trivial fun y_5 =>
 (.b00 (!y_5)
 (.ret (.inr (Sum.inl ())))
 (.b00 (!((decide ((gT x.2.2.2 s zz9).2.1.2.1 < z0)) == (decide ((gT x.2.2.2 s zz9).1.2.1 < z0))))
 (.ret (.inr (Sum.inl ())))
 (.b00 (!((decide ((gT x.2.2.2 s zz9).2.1.2.2 < z0)) == (decide ((gT x.2.2.2 s zz9).1.2.2 < z0))))
 (.ret (.inr (Sum.inl ())))
 (.fn0 among_S ((gT x.2.2.2 s zz9).2.2.1,((nL x.1),false)) trivial fun y_6 =>
 (.b00 (!y_6)
 (.ret (.inr (Sum.inl ())))
 (.fn0 among_S ((gT x.2.2.2 s zz9).2.2.2.1,((nL x.2.1),true)) trivial fun y_7 =>
 (.b00 (!y_7)
 (.ret (.inr (Sum.inl ())))
 (.fn0 among_S ((gT x.2.2.2 s zz9).2.2.2.2,((nL x.2.2.1),true)) trivial fun y_8 =>
 (.b00 (!y_8)
 (.ret (.inr (Sum.inl ())))
 (.b00 (!((decide ((gT x.2.2.2 s zz9).2.2.2.1 < z0)) == (decide ((gT x.2.2.2 s zz9).1.2.1 < z0))))
 (.ret (.inr (Sum.inl ())))
 (.b00 (!((decide ((gT x.2.2.2 s zz9).2.2.2.2 < z0)) == (decide ((gT x.2.2.2 s zz9).1.2.2 < z0))))
 (.ret (.inr (Sum.inl ())))
 (.ret (.inl (w1 s))))))))))))))))))))))))))))
 (.ret (.inr (Sum.inr (())))))
def meshis (x : ((List I3) × ((List I2) × ((List I3) × (List I9))))) : Bool :=
 (letV (mfew x) fun y =>
 (if ((!y) = true) then
 false else
 (letV (is3 x.1) fun y_1 =>
 (if ((!y_1) = true) then
 false else
 (letV (is2 x.2.1) fun y_2 =>
 (if ((!y_2) = true) then
 false else
 (letV (is3 x.2.2.1) fun y_3 =>
 (if ((!y_3) = true) then
 false else
 (letV (run (meshis_l0_step x) (0:Int)) fun r =>
 (Sum.elim (fun a =>
 false) (fun b =>
 true) r))))))))))
def meshis_pre (x : ((List I3) × ((List I2) × ((List I3) × (List I9))))) : Prop :=
 (letP (mfew x) fun y =>
 (¬ ((!y) = true) →
 ((is3_pre x.1) ∧
 letP (is3 x.1) fun y_1 =>
 (¬ ((!y_1) = true) →
 ((is2_pre x.2.1) ∧
 letP (is2 x.2.1) fun y_2 =>
 (¬ ((!y_2) = true) →
 ((is3_pre x.2.2.1) ∧
 letP (is3 x.2.2.1) fun y_3 =>
 (¬ ((!y_3) = true) →
 (Term (meshis_l0_step x) (meshis_l0_pre x) (0:Int))))))))))
def meshis_t (x : ((List I3) × ((List I2) × ((List I3) × (List I9))))) : Tr Bool true :=
 (.fn0 mfew_S x trivial fun y =>
 (.b01 (!y)
 (.ret false)
 (.fn is3_S x.1 fun y_1 =>
 (.b01 (!y_1)
 (.ret false)
 (.fn is2_S x.2.1 fun y_2 =>
 (.b01 (!y_2)
 (.ret false)
 (.fn is3_S x.2.2.1 fun y_3 =>
 (.b01 (!y_3)
 (.ret false)
 (LoopD.lp (meshis_l0 x) (meshis_l0_t x) z0 fun r =>
 (.s00 r (fun a =>
 (.ret false)) (fun b =>
 (.ret true))))))))))))
abbrev meshis_S : FnS := ⟨(.agg (Ty.prod (Ty.sl yy3) (Ty.prod (Ty.sl yy2) (Ty.prod (Ty.sl yy3) (Ty.sl yy9))))),(.one Ty.bool),meshis_pre,meshis⟩
theorem meshis_ok : SpecOk Tryz.prog 42 (fnSpec meshis_S) := SpecOk.tr meshis_S meshis_t (fn := Tryz.f42) tt_ok sp_among_ok mixed (by kernel_rfl) (ItsOk.nil _ _) (fun x => (LpsOk.tr tt_ok (SpecsOk.ctxI sp_among_ok (ItsOk.nil _ _)) mixed 0 (meshis_l0 x) (meshis_l0_t x) (LpsOk.unrollT tt_ok (SpecsOk.ctxI sp_among_ok (ItsOk.nil _ _)) mixed 2 4 LpsOk.nil (by kernel_rfl)) (by kernel_rfl) fun g s Q => (by kernel_rfl))) (fun x => (by kernel_rfl)) fun x Q => (by kernel_rfl)
def sp_meshis : List (Nat × Ev.Spec) := (42,fnSpec meshis_S) :: sp_among
theorem sp_meshis_ok : SpecsOk Tryz.prog sp_meshis := SpecsOk.add (fn := Tryz.f42) (by kernel_rfl) meshis_ok sp_among_ok
def far (x : I3) : Bool :=
 (if ((maxI (maxI x.1 x.2.1) x.2.2) > (4096:Int)) then
 true else
 (decide ((minI (minI x.1 x.2.1) x.2.2) < (-4096:Int))))
def far_pre (_ : I3) : Prop := True
def far_t (x : I3) : Tr Bool false :=
 (.i00 ((maxI (maxI x.1 x.2.1) x.2.2) > (4096:Int))
 (.ret true)
 (.ret (decide ((minI (minI x.1 x.2.1) x.2.2) < (-4096:Int)))))
abbrev far_S : FnS := ⟨(.agg yy3),(.one Ty.bool),far_pre,far⟩
theorem far_ok : SpecOk Tryz.prog 44 (fnSpec far_S) := SpecOk.tr far_S far_t (fn := Tryz.f44) tt_ok sp_meshis_ok mixed (by kernel_rfl) (ItsOk.nil _ _) (fun x => LpsOk.nil) (fun x => (by kernel_rfl)) fun x Q => (by kernel_rfl)
def sp_far : List (Nat × Ev.Spec) := (44,fnSpec far_S) :: sp_meshis
theorem sp_far_ok : SpecsOk Tryz.prog sp_far := SpecsOk.add (fn := Tryz.f44) (by kernel_rfl) far_ok sp_meshis_ok
end Go.Proofs.YtkbmjhabfjgoiaaGreat
