/- Models of functions of layer 10: two triangles. -/
import Derived.Test.YtkbmjhabfjgoiaaGreatQc
noncomputable section
set_option linter.unusedSectionVars false
set_option linter.unusedVariables false
set_option linter.unusedSimpArgs false
namespace Go.Proofs.YtkbmjhabfjgoiaaGreat
open Go Go.Ev Go.Proofs
def mapart_i0 : ItsB Tryz.prog := ⟨_,(ItsOk.walk tt_ok sp_mside_ok mixed 106 (fn := Tryz.f106) (by kernel_rfl) (ItsOk.nil _ _) fun ys hy => LpsOk.nil)⟩
def mapart_i1 : ItsB Tryz.prog := ⟨_,(ItsOk.walk tt_ok sp_mside_ok mixed 113 (fn := Tryz.f113) (by kernel_rfl) mapart_i0.ok fun ys hy => (LpsOk.unrollT tt_ok ⟨sp_mside_ok,hy,mapart_i0.ok⟩ mixed 0 4 LpsOk.nil (by kernel_rfl)))⟩
def mapart_l2_13 (x : (I6 × (Int × (List I2)))) : LoopD := ⟨[.lo,.env,.env],⟨pvs 30 0 [(4,.v (.one (.ptr 2 0))),(6,.v (.one (.ptr 4 0))),(7,.v (.one (.clo 115 0 [.loc 10 0,.loc 11 0,.loc 9 0]))),(8,.v (.one (.b))),(14,.v (.one (.full 0))),(15,.v (.one (.i .i64))),(16,.v (.one (.i .i64)))],[.row yy2 0,.cells [.i .i64,.i .i64,.i .i64,.i .i64,.i .i64,.i .i64] 37,.cells [.i .i64] 3,.cells [.full 0] 23,.cells [.b] 4,.gone,.cells [.i .i64,.i .i64,.i .i64,.i .i64,.i .i64,.i .i64] 37,.loop true,.pin 8,.cells [.i .i64] 3,.cells [.i .i64,.i .i64] 36,.cells [.i .i64,.i .i64] 36,.pin 12],13,none,[18,19,25],[1,3,4,5,6,7,8,9,10,11,12,13,14,15,16,17,21,22,23,24],[20,0,2],[.i,.b,.i],[.i (x.2.2.length:Int),.l yy2 x.2.2,.i x.1.1.1,.i x.1.1.2,.i x.1.2.1.1,.i x.1.2.1.2,.i x.1.2.2.1,.i x.1.2.2.2,.i x.2.1,.b false,.i x.1.1.1,.i x.1.1.2,.i x.1.2.1.1,.i x.1.2.1.2,.i x.1.2.2.1,.i x.1.2.2.2,.i x.1.1.1,.i x.1.1.2,.i x.1.2.1.1,.i x.1.2.1.2]⟩,[⟨(.exit 2),.normal,⟨pvs 30 0 [(6,.v (.one (.ptr 4 0))),(8,.v (.one (.b)))],[.row yy2 0,.cells [.i .i64,.i .i64,.i .i64,.i .i64,.i .i64,.i .i64] 37,.cells [.i .i64] 3,.cells [.full 0] 23,.cells [.b] 4,.gone,.cells [.i .i64,.i .i64,.i .i64,.i .i64,.i .i64,.i .i64] 37,.loop true,.pin 8,.cells [.i .i64] 3,.cells [.i .i64,.i .i64] 36,.cells [.i .i64,.i .i64] 36,.pin 12],13,none,[16,17,23],[1,2,3,4,5,6,7,8,9,10,11,12,13,14,15,19,20,21,22],[18,0],[.i,.b],[.l yy2 x.2.2,.i x.1.1.1,.i x.1.1.2,.i x.1.2.1.1,.i x.1.2.1.2,.i x.1.2.2.1,.i x.1.2.2.2,.i x.2.1,.b false,.i x.1.1.1,.i x.1.1.2,.i x.1.2.1.1,.i x.1.2.1.2,.i x.1.2.2.1,.i x.1.2.2.2,.i x.1.1.1,.i x.1.1.2,.i x.1.2.1.1,.i x.1.2.1.2]⟩⟩]⟩
def mapart_l2_13_step (x : (I6 × (Int × (List I2)))) (s : (Int × (Bool × Int))) : (Int × (Bool × Int)) ⊕ (Int × Bool) :=
 (if (s.2.2 < (x.2.2.length:Int)) then
 (if (s.2.1 = true) then
 (letV (mside ((List.getD x.2.2 (Int.toNat s.2.2) ((0:Int),(0:Int))),(x.1.1,(x.1.2.1,s.1)))) fun y =>
 (Sum.inl (s.1,((decide (y < x.2.1)),(w64 (s.2.2 + (1:Int))))))) else
 (Sum.inl (s.1,(false,(w64 (s.2.2 + (1:Int))))))) else
 (Sum.inr ((s.1,s.2.1))))
def mapart_l2_13_pre (x : (I6 × (Int × (List I2)))) (s : (Int × (Bool × Int))) : Prop :=
 ((s.2.2 < (x.2.2.length:Int)) →
 ((((0:Int) ≤ s.2.2) ∧ (s.2.2 < (x.2.2.length:Int))) ∧
 (((Int.toNat s.2.2) < (List.length x.2.2)) ∧
 (((Int.toNat s.2.2) < (List.length x.2.2)) ∧
 ((s.2.1 = true) →
 (mside_pre ((List.getD x.2.2 (Int.toNat s.2.2) ((0:Int),(0:Int))),(x.1.1,(x.1.2.1,s.1)))))))))
def mapart_l2_13_t (x : (I6 × (Int × (List I2)))) (s : (Int × (Bool × Int))) : Tr ((Int × (Bool × Int)) ⊕ (Int × Bool)) true :=
 (.i10 (s.2.2 < (nL x.2.2))
 (.oI2 s.2.2 x.2.2
 (.b10 s.2.1
 (.fn mside_S ((gT x.2.2 s.2.2 zz2),(x.1.1,(x.1.2.1,s.1))) fun y =>
 (.ret (.inl (s.1,((decide (y < x.2.1)),(w1 s.2.2))))))
 (.ret (.inl (s.1,(false,(w1 s.2.2)))))))
 (.ret (.inr ((s.1,s.2.1)))))
def mapart_l2_16 (x : (I6 × (Int × (List I2)))) : LoopD := ⟨[.lo,.env,.env],⟨pvs 30 0 [(4,.v (.one (.ptr 2 0))),(6,.v (.one (.ptr 4 0))),(7,.v (.one (.clo 115 0 [.loc 13 0,.loc 14 0,.loc 9 0]))),(8,.v (.one (.b))),(14,.v (.one (.full 0))),(15,.v (.one (.i .i64))),(16,.v (.one (.i .i64)))],[.row yy2 0,.cells [.i .i64,.i .i64,.i .i64,.i .i64,.i .i64,.i .i64] 37,.cells [.i .i64] 3,.cells [.full 0] 23,.cells [.b] 4,.gone,.cells [.i .i64,.i .i64,.i .i64,.i .i64,.i .i64,.i .i64] 37,.loop true,.pin 8,.cells [.i .i64] 3,.cells [.i .i64,.i .i64] 36,.cells [.i .i64,.i .i64] 36,.gone,.cells [.i .i64,.i .i64] 36,.cells [.i .i64,.i .i64] 36,.pin 15],16,none,[18,19,29],[1,3,4,5,6,7,8,9,10,11,12,13,14,15,16,17,21,22,23,24,25,26,27,28],[20,0,2],[.i,.b,.i],[.i (x.2.2.length:Int),.l yy2 x.2.2,.i x.1.1.1,.i x.1.1.2,.i x.1.2.1.1,.i x.1.2.1.2,.i x.1.2.2.1,.i x.1.2.2.2,.i x.2.1,.b false,.i x.1.1.1,.i x.1.1.2,.i x.1.2.1.1,.i x.1.2.1.2,.i x.1.2.2.1,.i x.1.2.2.2,.i x.1.1.1,.i x.1.1.2,.i x.1.2.1.1,.i x.1.2.1.2,.i x.1.2.1.1,.i x.1.2.1.2,.i x.1.2.2.1,.i x.1.2.2.2]⟩,[⟨(.exit 2),.normal,⟨pvs 30 0 [(6,.v (.one (.ptr 4 0))),(8,.v (.one (.b)))],[.row yy2 0,.cells [.i .i64,.i .i64,.i .i64,.i .i64,.i .i64,.i .i64] 37,.cells [.i .i64] 3,.cells [.full 0] 23,.cells [.b] 4,.gone,.cells [.i .i64,.i .i64,.i .i64,.i .i64,.i .i64,.i .i64] 37,.loop true,.pin 8,.cells [.i .i64] 3,.cells [.i .i64,.i .i64] 36,.cells [.i .i64,.i .i64] 36,.gone,.cells [.i .i64,.i .i64] 36,.cells [.i .i64,.i .i64] 36,.pin 15],16,none,[16,17,27],[1,2,3,4,5,6,7,8,9,10,11,12,13,14,15,19,20,21,22,23,24,25,26],[18,0],[.i,.b],[.l yy2 x.2.2,.i x.1.1.1,.i x.1.1.2,.i x.1.2.1.1,.i x.1.2.1.2,.i x.1.2.2.1,.i x.1.2.2.2,.i x.2.1,.b false,.i x.1.1.1,.i x.1.1.2,.i x.1.2.1.1,.i x.1.2.1.2,.i x.1.2.2.1,.i x.1.2.2.2,.i x.1.1.1,.i x.1.1.2,.i x.1.2.1.1,.i x.1.2.1.2,.i x.1.2.1.1,.i x.1.2.1.2,.i x.1.2.2.1,.i x.1.2.2.2]⟩⟩]⟩
def mapart_l2_16_step (x : (I6 × (Int × (List I2)))) (s : (Int × (Bool × Int))) : (Int × (Bool × Int)) ⊕ (Int × Bool) :=
 (if (s.2.2 < (x.2.2.length:Int)) then
 (if (s.2.1 = true) then
 (letV (mside ((List.getD x.2.2 (Int.toNat s.2.2) ((0:Int),(0:Int))),(x.1.2.1,(x.1.2.2,s.1)))) fun y =>
 (Sum.inl (s.1,((decide (y < x.2.1)),(w64 (s.2.2 + (1:Int))))))) else
 (Sum.inl (s.1,(false,(w64 (s.2.2 + (1:Int))))))) else
 (Sum.inr ((s.1,s.2.1))))
def mapart_l2_16_pre (x : (I6 × (Int × (List I2)))) (s : (Int × (Bool × Int))) : Prop :=
 ((s.2.2 < (x.2.2.length:Int)) →
 ((((0:Int) ≤ s.2.2) ∧ (s.2.2 < (x.2.2.length:Int))) ∧
 (((Int.toNat s.2.2) < (List.length x.2.2)) ∧
 (((Int.toNat s.2.2) < (List.length x.2.2)) ∧
 ((s.2.1 = true) →
 (mside_pre ((List.getD x.2.2 (Int.toNat s.2.2) ((0:Int),(0:Int))),(x.1.2.1,(x.1.2.2,s.1)))))))))
def mapart_l2_16_t (x : (I6 × (Int × (List I2)))) (s : (Int × (Bool × Int))) : Tr ((Int × (Bool × Int)) ⊕ (Int × Bool)) true :=
 (.i10 (s.2.2 < (nL x.2.2))
 (.oI2 s.2.2 x.2.2
 (.b10 s.2.1
 (.fn mside_S ((gT x.2.2 s.2.2 zz2),(x.1.2.1,(x.1.2.2,s.1))) fun y =>
 (.ret (.inl (s.1,((decide (y < x.2.1)),(w1 s.2.2))))))
 (.ret (.inl (s.1,(false,(w1 s.2.2)))))))
 (.ret (.inr ((s.1,s.2.1)))))
def mapart_l2_19 (x : (I6 × (Int × (List I2)))) : LoopD := ⟨[.lo,.env,.env],⟨pvs 30 0 [(4,.v (.one (.ptr 2 0))),(6,.v (.one (.ptr 4 0))),(7,.v (.one (.clo 115 0 [.loc 16 0,.loc 17 0,.loc 9 0]))),(8,.v (.one (.b))),(14,.v (.one (.full 0))),(15,.v (.one (.i .i64))),(16,.v (.one (.i .i64)))],[.row yy2 0,.cells [.i .i64,.i .i64,.i .i64,.i .i64,.i .i64,.i .i64] 37,.cells [.i .i64] 3,.cells [.full 0] 23,.cells [.b] 4,.gone,.cells [.i .i64,.i .i64,.i .i64,.i .i64,.i .i64,.i .i64] 37,.loop true,.pin 8,.cells [.i .i64] 3,.cells [.i .i64,.i .i64] 36,.cells [.i .i64,.i .i64] 36,.gone,.cells [.i .i64,.i .i64] 36,.cells [.i .i64,.i .i64] 36,.gone,.cells [.i .i64,.i .i64] 36,.cells [.i .i64,.i .i64] 36,.pin 18],19,none,[18,19,33],[1,3,4,5,6,7,8,9,10,11,12,13,14,15,16,17,21,22,23,24,25,26,27,28,29,30,31,32],[20,0,2],[.i,.b,.i],[.i (x.2.2.length:Int),.l yy2 x.2.2,.i x.1.1.1,.i x.1.1.2,.i x.1.2.1.1,.i x.1.2.1.2,.i x.1.2.2.1,.i x.1.2.2.2,.i x.2.1,.b false,.i x.1.1.1,.i x.1.1.2,.i x.1.2.1.1,.i x.1.2.1.2,.i x.1.2.2.1,.i x.1.2.2.2,.i x.1.1.1,.i x.1.1.2,.i x.1.2.1.1,.i x.1.2.1.2,.i x.1.2.1.1,.i x.1.2.1.2,.i x.1.2.2.1,.i x.1.2.2.2,.i x.1.2.2.1,.i x.1.2.2.2,.i x.1.1.1,.i x.1.1.2]⟩,[⟨(.exit 2),.normal,⟨pvs 30 0 [(6,.v (.one (.ptr 4 0))),(8,.v (.one (.b)))],[.row yy2 0,.cells [.i .i64,.i .i64,.i .i64,.i .i64,.i .i64,.i .i64] 37,.cells [.i .i64] 3,.cells [.full 0] 23,.cells [.b] 4,.gone,.cells [.i .i64,.i .i64,.i .i64,.i .i64,.i .i64,.i .i64] 37,.loop true,.pin 8,.cells [.i .i64] 3,.cells [.i .i64,.i .i64] 36,.cells [.i .i64,.i .i64] 36,.gone,.cells [.i .i64,.i .i64] 36,.cells [.i .i64,.i .i64] 36,.gone,.cells [.i .i64,.i .i64] 36,.cells [.i .i64,.i .i64] 36,.pin 18],19,none,[16,17,31],[1,2,3,4,5,6,7,8,9,10,11,12,13,14,15,19,20,21,22,23,24,25,26,27,28,29,30],[18,0],[.i,.b],[.l yy2 x.2.2,.i x.1.1.1,.i x.1.1.2,.i x.1.2.1.1,.i x.1.2.1.2,.i x.1.2.2.1,.i x.1.2.2.2,.i x.2.1,.b false,.i x.1.1.1,.i x.1.1.2,.i x.1.2.1.1,.i x.1.2.1.2,.i x.1.2.2.1,.i x.1.2.2.2,.i x.1.1.1,.i x.1.1.2,.i x.1.2.1.1,.i x.1.2.1.2,.i x.1.2.1.1,.i x.1.2.1.2,.i x.1.2.2.1,.i x.1.2.2.2,.i x.1.2.2.1,.i x.1.2.2.2,.i x.1.1.1,.i x.1.1.2]⟩⟩]⟩
def mapart_l2_19_step (x : (I6 × (Int × (List I2)))) (s : (Int × (Bool × Int))) : (Int × (Bool × Int)) ⊕ (Int × Bool) :=
 (if (s.2.2 < (x.2.2.length:Int)) then
 (if (s.2.1 = true) then
 (letV (mside ((List.getD x.2.2 (Int.toNat s.2.2) ((0:Int),(0:Int))),(x.1.2.2,(x.1.1,s.1)))) fun y =>
 (Sum.inl (s.1,((decide (y < x.2.1)),(w64 (s.2.2 + (1:Int))))))) else
 (Sum.inl (s.1,(false,(w64 (s.2.2 + (1:Int))))))) else
 (Sum.inr ((s.1,s.2.1))))
def mapart_l2_19_pre (x : (I6 × (Int × (List I2)))) (s : (Int × (Bool × Int))) : Prop :=
 ((s.2.2 < (x.2.2.length:Int)) →
 ((((0:Int) ≤ s.2.2) ∧ (s.2.2 < (x.2.2.length:Int))) ∧
 (((Int.toNat s.2.2) < (List.length x.2.2)) ∧
 (((Int.toNat s.2.2) < (List.length x.2.2)) ∧
 ((s.2.1 = true) →
 (mside_pre ((List.getD x.2.2 (Int.toNat s.2.2) ((0:Int),(0:Int))),(x.1.2.2,(x.1.1,s.1)))))))))
def mapart_l2_19_t (x : (I6 × (Int × (List I2)))) (s : (Int × (Bool × Int))) : Tr ((Int × (Bool × Int)) ⊕ (Int × Bool)) true :=
 (.i10 (s.2.2 < (nL x.2.2))
 (.oI2 s.2.2 x.2.2
 (.b10 s.2.1
 (.fn mside_S ((gT x.2.2 s.2.2 zz2),(x.1.2.2,(x.1.1,s.1))) fun y =>
 (.ret (.inl (s.1,((decide (y < x.2.1)),(w1 s.2.2))))))
 (.ret (.inl (s.1,(false,(w1 s.2.2)))))))
 (.ret (.inr ((s.1,s.2.1)))))
def mapart (x : (I6 × (Int × (List I2)))) : Bool :=
 (letV (sside x.1) fun y =>
 (letV (run (mapart_l2_13_step x) (y.1,(true,(0:Int)))) fun r_1 =>
 (if (r_1.2 = true) then
 true else
 (letV (run (mapart_l2_16_step x) (r_1.1,(true,(0:Int)))) fun r_2 =>
 (if (r_2.2 = true) then
 true else
 (letV (run (mapart_l2_19_step x) (r_2.1,(true,(0:Int)))) fun r_3 =>
 (if (r_3.2 = true) then
 true else
 false)))))))
def mapart_pre (x : (I6 × (Int × (List I2)))) : Prop :=
 ((sside_pre x.1) ∧
 letP (sside x.1) fun y =>
 (Term (mapart_l2_13_step x) (mapart_l2_13_pre x) (y.1,(true,(0:Int))) ∧
 letP (run (mapart_l2_13_step x) (y.1,(true,(0:Int)))) fun r_1 =>
 (¬ (r_1.2 = true) →
 (Term (mapart_l2_16_step x) (mapart_l2_16_pre x) (r_1.1,(true,(0:Int))) ∧
 letP (run (mapart_l2_16_step x) (r_1.1,(true,(0:Int)))) fun r_2 =>
 (¬ (r_2.2 = true) →
 (Term (mapart_l2_19_step x) (mapart_l2_19_pre x) (r_2.1,(true,(0:Int)))))))))
def mapart_t (x : (I6 × (Int × (List I2)))) : Tr Bool true :=
 (.allE
 (.pn 0 5
 (.allL
 (.allE
 (.fn sside_S x.1 fun y =>
 (.fx
 (.pn 2 8
 (.fL 1
 (.allE
 (.pn 3 12
 (.fL 1
 (LoopD.lp (mapart_l2_13 x) (mapart_l2_13_t x) (y.1,(true,z0)) fun r_1 =>
 (.b01 r_1.2
 (.fL 1
 (.pn 3 12
 (.pn 2 8
 (.ret true))))
 (.fL 1
 (.pn 3 12
 (.fx
 (.pn 2 8
 (.fL 1
 (.allE
 (.pn 4 15
 (.fL 1
 (LoopD.lp (mapart_l2_16 x) (mapart_l2_16_t x) (r_1.1,(true,z0)) fun r_2 =>
 (.b01 r_2.2
 (.fL 1
 (.pn 4 15
 (.pn 2 8
 (.ret true))))
 (.fL 1
 (.pn 4 15
 (.fx
 (.pn 2 8
 (.fL 1
 (.allE
 (.pn 5 18
 (.fL 1
 (LoopD.lp (mapart_l2_19 x) (mapart_l2_19_t x) (r_2.1,(true,z0)) fun r_3 =>
 (.b00 r_3.2
 (.fL 1
 (.pn 5 18
 (.pn 2 8
 (.ret true))))
 (.fL 1
 (.pn 5 18
 (.pn 2 8
 (.ret false)))))))))))))))))))))))))))))))))))))
abbrev mapart_S : FnS := ⟨(.pair (.agg yy6) (.pair (.one yi) (.one (Ty.sl yy2)))),(.one Ty.bool),mapart_pre,mapart⟩
theorem mapart_ok : SpecOk Tryz.prog 93 (fnSpec mapart_S) := SpecOk.tr mapart_S mapart_t (fn := Tryz.f93) tt_ok sp_mside_ok mixed (by kernel_rfl) mapart_i1.ok (fun x => (LpsOk.trA 2 LpsOk.nil (by kernel_rfl) (LSem.cons (n := 13) (LSem.tr tt_ok (SpecsOk.ctxI sp_mside_ok mapart_i1.ok) mixed (mapart_l2_13 x) (mapart_l2_13_t x) (by kernel_rfl) fun g s Q => (by kernel_rfl)) (LSem.cons (n := 16) (LSem.tr tt_ok (SpecsOk.ctxI sp_mside_ok mapart_i1.ok) mixed (mapart_l2_16 x) (mapart_l2_16_t x) (by kernel_rfl) fun g s Q => (by kernel_rfl)) (LSem.cons (n := 19) (LSem.tr tt_ok (SpecsOk.ctxI sp_mside_ok mapart_i1.ok) mixed (mapart_l2_19 x) (mapart_l2_19_t x) (by kernel_rfl) fun g s Q => (by kernel_rfl)) LSem.nil))))) (fun x => (by kernel_rfl)) fun x Q => (by kernel_rfl)
def sp_mapart : List (Nat × Ev.Spec) := (93,fnSpec mapart_S) :: sp_mside
theorem sp_mapart_ok : SpecsOk Tryz.prog sp_mapart := SpecsOk.add (fn := Tryz.f93) (by kernel_rfl) mapart_ok sp_mside_ok
def mboth (x : (I6 × (I6 × Int))) : (Bool × Int) :=
 (letV (mright x.1) fun y =>
 (if ((!y) = true) then
 (false,(1:Int)) else
 (letV (mright x.2.1) fun y_1 =>
 (if ((!y_1) = true) then
 (false,(1:Int)) else
 (letV (mapart (x.1,(x.2.2,[x.2.1.1,x.2.1.2.1,x.2.1.2.2]))) fun y_2 =>
 (if ((!y_2) = true) then
 (letV (mapart (x.2.1,(x.2.2,[x.1.1,x.1.2.1,x.1.2.2]))) fun y_3 =>
 ((!y_3),(0:Int))) else
 (false,(0:Int))))))))
def mboth_pre (x : (I6 × (I6 × Int))) : Prop :=
 ((mright_pre x.1) ∧
 letP (mright x.1) fun y =>
 (¬ ((!y) = true) →
 ((mright_pre x.2.1) ∧
 letP (mright x.2.1) fun y_1 =>
 (¬ ((!y_1) = true) →
 ((mapart_pre (x.1,(x.2.2,[x.2.1.1,x.2.1.2.1,x.2.1.2.2]))) ∧
 letP (mapart (x.1,(x.2.2,[x.2.1.1,x.2.1.2.1,x.2.1.2.2]))) fun y_2 =>
 (((!y_2) = true) →
 (mapart_pre (x.2.1,(x.2.2,[x.1.1,x.1.2.1,x.1.2.2])))))))))
def mboth_t (x : (I6 × (I6 × Int))) : Tr (Bool × Int) true :=
 (.fn mright_S x.1 fun y =>
 (.b01 (!y)
 (.ret (false,z1))
 (.fn mright_S x.2.1 fun y_1 =>
 (.b01 (!y_1)
 (.ret (false,z1))
 (.fn mapart_S (x.1,(x.2.2,[x.2.1.1,x.2.1.2.1,x.2.1.2.2])) fun y_2 =>
 (.b10 (!y_2)
 (.fn mapart_S (x.2.1,(x.2.2,[x.1.1,x.1.2.1,x.1.2.2])) fun y_3 =>
 (.ret ((!y_3),z0)))
 (.ret (false,z0))))))))
abbrev mboth_S : FnS := ⟨(.pair (.agg yy6) (.pair (.agg yy6) (.one yi))),(.pair (.one Ty.bool) (.one yi)),mboth_pre,mboth⟩
theorem mboth_ok : SpecOk Tryz.prog 80 (fnSpec mboth_S) := SpecOk.tr mboth_S mboth_t (fn := Tryz.f80) tt_ok sp_mapart_ok mixed (by kernel_rfl) (ItsOk.nil _ _) (fun x => LpsOk.nil) (fun x => (by kernel_rfl)) fun x Q => (by kernel_rfl)
def sp_mboth : List (Nat × Ev.Spec) := (80,fnSpec mboth_S) :: sp_mapart
theorem sp_mboth_ok : SpecsOk Tryz.prog sp_mboth := SpecsOk.add (fn := Tryz.f80) (by kernel_rfl) mboth_ok sp_mapart_ok
def moverlap (x : (I6 × I6)) : (Bool × Int) :=
 (letV (mboth (x.1,(x.2,(1:Int)))) fun y =>
 y)
def moverlap_pre (x : (I6 × I6)) : Prop :=
 (mboth_pre (x.1,(x.2,(1:Int))))
def moverlap_t (x : (I6 × I6)) : Tr (Bool × Int) true :=
 (.fn mboth_S (x.1,(x.2,z1)) fun y =>
 (.ret y))
abbrev moverlap_S : FnS := ⟨(.pair (.agg yy6) (.agg yy6)),(.pair (.one Ty.bool) (.one yi)),moverlap_pre,moverlap⟩
theorem moverlap_ok : SpecOk Tryz.prog 57 (fnSpec moverlap_S) := SpecOk.tr moverlap_S moverlap_t (fn := Tryz.f57) tt_ok sp_mboth_ok mixed (by kernel_rfl) (ItsOk.nil _ _) (fun x => LpsOk.nil) (fun x => (by kernel_rfl)) fun x Q => (by kernel_rfl)
def sp_moverlap : List (Nat × Ev.Spec) := (57,fnSpec moverlap_S) :: sp_mboth
theorem sp_moverlap_ok : SpecsOk Tryz.prog sp_moverlap := SpecsOk.add (fn := Tryz.f57) (by kernel_rfl) moverlap_ok sp_mboth_ok
end Go.Proofs.YtkbmjhabfjgoiaaGreat

namespace Go.Proofs.YtkbmjhabfjgoiaaGreat
open Go Go.Ev Go.Proofs
theorem mside_tm (x : P2 × (P2 × (P2 × Int))) : mside_pre x := (sarea_law _ _ _).1
theorem cnt {i n : Nat} (h : i < n) (hn : n < 4611686018427387904) : w64 ((i:Int) + 1) = ((i + 1:Nat):Int) := by rw [w64_id (by omega) (by omega)]; omega
theorem apart_tm (x : T2 × (Int × List P2)) (hl : x.2.2.length < 4611686018427387904) (a:Int) :
  Term (mapart_l2_13_step x) (mapart_l2_13_pre x) (a,(true,0)) ∧ Term (mapart_l2_16_step x) (mapart_l2_16_pre x) (a,(true,0)) ∧ Term (mapart_l2_19_step x) (mapart_l2_19_pre x) (a,(true,0)) := by
 have main : ∀ (step : Int × (Bool × Int) → (Int × (Bool × Int)) ⊕ (Int × Bool)) (pre : Int × (Bool × Int) → Prop),
   (∀ a b (i:Nat),i ≤ x.2.2.length → pre (a,(b,(i:Int)))) → (∀ a b (i:Nat) s',step (a,(b,(i:Int))) = .inl s' → i < x.2.2.length ∧ ∃ a' b',s' = (a',(b',w64 ((i:Int) + 1)))) → Term step pre (a,(true,0)) := fun step pre h1 h2 => by
  refine Term.of (fun s => ∃ i : Nat,s.2.2 = (i:Int) ∧ i ≤ x.2.2.length) (fun s => x.2.2.length - s.2.2.toNat) (fun s hs => ?_) _ ⟨0,rfl,Nat.zero_le _⟩
  obtain ⟨a,b,c⟩ := s
  obtain ⟨i,e,hi⟩ := hs
  dsimp only at e; subst e
  refine ⟨h1 a b i hi,fun s' h => ?_⟩
  obtain ⟨hlt,a',b',rfl⟩ := h2 a b i s' h
  rw [cnt hlt hl]
  exact ⟨⟨i + 1,rfl,hlt⟩,by simp only [Int.toNat_natCast]; omega⟩
 refine ⟨main _ _ (fun a b i hi h => ?_) (fun a b i s' h => ?_),main _ _ (fun a b i hi h => ?_) (fun a b i s' h => ?_),main _ _ (fun a b i hi h => ?_) (fun a b i s' h => ?_)⟩
 ·dsimp only at h ⊢
  simp only [Int.toNat_natCast]
  exact ⟨by omega,by omega,by omega,fun _ => mside_tm _⟩
 ·unfold mapart_l2_13_step at h
  dsimp only [letV] at h
  split at h
  ·split at h <;> cases h <;> exact ⟨by omega,_,_,rfl⟩
  ·cases h
 ·dsimp only at h ⊢
  simp only [Int.toNat_natCast]
  exact ⟨by omega,by omega,by omega,fun _ => mside_tm _⟩
 ·unfold mapart_l2_16_step at h
  dsimp only [letV] at h
  split at h
  ·split at h <;> cases h <;> exact ⟨by omega,_,_,rfl⟩
  ·cases h
 ·dsimp only at h ⊢
  simp only [Int.toNat_natCast]
  exact ⟨by omega,by omega,by omega,fun _ => mside_tm _⟩
 ·unfold mapart_l2_19_step at h
  dsimp only [letV] at h
  split at h
  ·split at h <;> cases h <;> exact ⟨by omega,_,_,rfl⟩
  ·cases h
theorem mapart_tm (x : T2 × (Int × List P2)) (hl : x.2.2.length < 4611686018427387904) : mapart_pre x :=
 ⟨(sarea_law _ _ _).1,(apart_tm x hl _).1,fun _ => ⟨(apart_tm x hl _).2.1,fun _ => (apart_tm x hl _).2.2⟩⟩
theorem moverlap_tm (x : T2 × T2) : moverlap_pre x :=
 ⟨(sarea_law _ _ _).1,fun _ => ⟨(sarea_law _ _ _).1,fun _ => ⟨mapart_tm _ (by simp),fun _ => mapart_tm _ (by simp)⟩⟩⟩
def tp (t : T2) : List P2 := [t.1,t.2.1,t.2.2]
end Go.Proofs.YtkbmjhabfjgoiaaGreat

namespace Go.Proofs.YtkbmjhabfjgoiaaGreat
open Go Go.Ev Go.Proofs
theorem mside_law {p a b : P2} (n:Int) (hp : Sm p) (ha : Sm a) (hb : Sm b) : mside (p,(a,(b,sg n))) = sg n * sg (Det a b p) := by
 unfold mside
 rw [sside_law,if_pos ⟨ha,hb,hp⟩]
 dsimp only [letV]
 rcases sg_cases n with ⟨_,e⟩ | ⟨_,e⟩ | ⟨_,e⟩ <;> rcases sg_cases (Det a b p) with ⟨_,f⟩ | ⟨_,f⟩ | ⟨_,f⟩ <;> rw [e,f] <;> rfl
def Bel (m : P2 → Int) (k:Int) (l : List P2) : Bool := l.all fun p => decide (m p < k)
theorem bel_loop (c k:Int) (l : List P2) (hl : l.length < 4611686018427387904) (m : P2 → Int) (step : Int × (Bool × Int) → (Int × (Bool × Int)) ⊕ (Int × Bool)) (hT : Term step (fun _ => True) (c,(true,0)))
  (h1 : ∀ (i:Nat) (p : P2),l[i]? = some p → step (c,(true,(i:Int))) = .inl (c,(decide (m p < k),w64 ((i:Int) + 1))))
  (h2 : ∀ (i:Nat) (p : P2),l[i]? = some p → step (c,(false,(i:Int))) = .inl (c,(false,w64 ((i:Int) + 1))))
  (h3 : ∀ b,step (c,(b,(l.length:Int))) = .inr (c,b)) : run step (c,(true,0)) = (c,Bel m k l) := by
 obtain ⟨_,h⟩ := loop_inv (step := step) (pre := fun _ => True) (fun s => ∃ i : Nat,s = (c,(Bel m k (l.take i),(i:Int))) ∧ i ≤ l.length) (fun s => l.length - s.2.2.toNat) (fun r => r = (c,Bel m k l)) (fun s ⟨i,e,hi⟩ => by
  subst e
  refine ⟨trivial,?_⟩
  rcases Nat.lt_or_ge i l.length with hlt | hge
  ·have hg := List.getElem?_eq_getElem hlt
   have hs : step (c,(Bel m k (l.take i),(i:Int))) = .inl (c,(Bel m k (l.take (i + 1)),w64 ((i:Int) + 1))) := by
    rw [List.take_succ_eq_append_getElem hlt]
    have e : Bel m k (l.take i ++ [l[i]]) = (Bel m k (l.take i) && decide (m l[i] < k)) := by unfold Bel; rw [List.all_append,List.all_cons,List.all_nil,Bool.and_true]
    rw [e]
    cases Bel m k (l.take i) with
    | true => rw [h1 i _ hg]; rfl
    | false => rw [h2 i _ hg]; rfl
   refine ⟨fun s' q => ?_,fun r q => ?_⟩
   ·rw [hs] at q
    cases q
    rw [cnt hlt hl]
    exact ⟨⟨i + 1,rfl,hlt⟩,by simp only [Int.toNat_natCast]; omega⟩
   ·rw [hs] at q; cases q
  ·have : i = l.length := by omega
   subst this
   rw [h3,List.take_length]
   exact ⟨fun s' q => (by cases q),fun r q => by cases q; rfl⟩) (c,(true,0)) ⟨0,rfl,Nat.zero_le _⟩
 exact h
theorem term_true {S R : Type} {step : S → S ⊕ R} {pre : S → Prop} {s : S} (h : Term step pre s) : Term step (fun _ => True) s := by
 induction h with
 | mk s _ _ ih => exact .mk s trivial ih
theorem mapart_law {a b c : P2} (hr : Right a b c) (k:Int) (l : List P2) (hs : ∀ p ∈ l,Sm p) (hl : l.length < 4611686018427387904) :
  mapart ((a,(b,c)),(k,l)) = (Bel (Sd a b c) k l || Bel (Sd b c a) k l || Bel (Sd c a b) k l) := by
 have hT := apart_tm ((a,(b,c)),(k,l)) hl (sg (Det a b c))
 have e1 : run (mapart_l2_13_step ((a,(b,c)),(k,l))) (sg (Det a b c),(true,0)) = (sg (Det a b c),Bel (Sd a b c) k l) := by
  refine bel_loop _ k l hl _ _ (term_true hT.1) (fun i p hp => ?_) (fun i p hp => ?_) (fun q => ?_)
  ·have hlt := lt_of_get hp
   unfold mapart_l2_13_step
   dsimp only [letV]
   rw [if_pos (by omega),if_pos rfl,Int.toNat_natCast,getD_of hp,mside_law _ (hs p (List.mem_of_getElem? hp)) hr.1.1 hr.1.2.1]; rfl
  ·have hlt := lt_of_get hp
   unfold mapart_l2_13_step
   dsimp only [letV]
   rw [if_pos (by omega),if_neg (by decide)]
  ·unfold mapart_l2_13_step
   dsimp only
   rw [if_neg (by omega)]
 have e2 : run (mapart_l2_16_step ((a,(b,c)),(k,l))) (sg (Det a b c),(true,0)) = (sg (Det a b c),Bel (Sd b c a) k l) := by
  refine bel_loop _ k l hl _ _ (term_true hT.2.1) (fun i p hp => ?_) (fun i p hp => ?_) (fun q => ?_)
  ·have hlt := lt_of_get hp
   unfold mapart_l2_16_step
   dsimp only [letV]
   rw [if_pos (by omega),if_pos rfl,Int.toNat_natCast,getD_of hp,mside_law _ (hs p (List.mem_of_getElem? hp)) hr.1.2.1 hr.1.2.2]
   unfold Sd; rw [det_turn a b c]
  ·have hlt := lt_of_get hp
   unfold mapart_l2_16_step
   dsimp only [letV]
   rw [if_pos (by omega),if_neg (by decide)]
  ·unfold mapart_l2_16_step
   dsimp only
   rw [if_neg (by omega)]
 have e3 : run (mapart_l2_19_step ((a,(b,c)),(k,l))) (sg (Det a b c),(true,0)) = (sg (Det a b c),Bel (Sd c a b) k l) := by
  refine bel_loop _ k l hl _ _ (term_true hT.2.2) (fun i p hp => ?_) (fun i p hp => ?_) (fun q => ?_)
  ·have hlt := lt_of_get hp
   unfold mapart_l2_19_step
   dsimp only [letV]
   rw [if_pos (by omega),if_pos rfl,Int.toNat_natCast,getD_of hp,mside_law _ (hs p (List.mem_of_getElem? hp)) hr.1.2.2 hr.1.1]
   unfold Sd; rw [det_turn b c a,det_turn a b c]
  ·have hlt := lt_of_get hp
   unfold mapart_l2_19_step
   dsimp only [letV]
   rw [if_pos (by omega),if_neg (by decide)]
  ·unfold mapart_l2_19_step
   dsimp only
   rw [if_neg (by omega)]
 unfold mapart
 dsimp only [letV]
 rw [sside_law,if_pos hr.1]
 dsimp only
 rw [e1]
 dsimp only
 rw [e2]
 dsimp only
 rw [e3]
 dsimp only
 generalize Bel (Sd a b c) k l = x
 generalize Bel (Sd b c a) k l = y
 generalize Bel (Sd c a b) k l = z
 cases x <;> cases y <;> cases z <;> rfl
def Out1 (a b c : P2) (k:Int) (l : List P2) : Bool := Bel (Sd a b c) k l || Bel (Sd b c a) k l || Bel (Sd c a b) k l
abbrev Rt (t : T2) : Prop := Right t.1 t.2.1 t.2.2
def Ov (t u : T2) : Bool := !Out1 t.1 t.2.1 t.2.2 1 (tp u) && !Out1 u.1 u.2.1 u.2.2 1 (tp t)
theorem tp_sm {t : T2} (h : Rt t) : ∀ p ∈ tp t,Sm p := fun p hp => by
 simp only [tp,List.mem_cons,List.not_mem_nil,or_false] at hp
 rcases hp with rfl | rfl | rfl
 ·exact h.1.1
 ·exact h.1.2.1
 ·exact h.1.2.2
theorem moverlap_law (t u : T2) : moverlap (t,u) = if Rt t ∧ Rt u then (Ov t u,0) else (false,1) := by
 obtain ⟨a,b,c⟩ := t
 obtain ⟨d,e,f⟩ := u
 unfold moverlap mboth
 dsimp only [letV]
 rw [mright_law,mright_law]
 by_cases ht : Rt (a,(b,c))
 ·by_cases hu : Rt (d,(e,f))
  ·have e1 := mapart_law ht 1 (tp (d,(e,f))) (tp_sm hu) (by simp [tp])
   have e2 := mapart_law hu 1 (tp (a,(b,c))) (tp_sm ht) (by simp [tp])
   dsimp only [tp] at e1 e2
   rw [decide_eq_true ht,decide_eq_true hu,if_neg (by decide),if_neg (by decide),if_pos (show Rt (a,(b,c)) ∧ Rt (d,(e,f)) from ⟨ht,hu⟩),e1,e2]
   unfold Ov
   show (if (!Out1 a b c 1 [d,e,f]) = true then (!Out1 d e f 1 [a,b,c],(0:Int)) else (false,0)) = (!Out1 a b c 1 [d,e,f] && !Out1 d e f 1 [a,b,c],0)
   cases Out1 a b c 1 [d,e,f] <;> rfl
  ·rw [decide_eq_true ht,decide_eq_false hu,if_neg (by decide),if_pos (by decide),if_neg (fun q => hu q.2)]
 ·rw [decide_eq_false ht,if_pos (by decide),if_neg (fun q => ht q.1)]
end Go.Proofs.YtkbmjhabfjgoiaaGreat
