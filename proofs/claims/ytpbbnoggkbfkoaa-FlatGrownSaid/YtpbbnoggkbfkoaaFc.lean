/- Models of functions of layer 10: two triangles. -/
import Derived.Test.YtpbbnoggkbfkoaaFb
noncomputable section
set_option linter.unusedSectionVars false
set_option linter.unusedVariables false
set_option linter.unusedSimpArgs false
namespace Go.Proofs.Ytpbbnoggkbfkoaa
open Go Go.Ev Go.Proofs
def mapart_i0 : ItsB Try.prog := ⟨_,(ItsOk.walk tt_ok sp_mside_ok mixed 64 (fn := Try.f64) (by kernel_rfl) (ItsOk.nil _ _) fun ys hy => LpsOk.nil)⟩
def mapart_i1 : ItsB Try.prog := ⟨_,(ItsOk.walk tt_ok sp_mside_ok mixed 76 (fn := Try.f76) (by kernel_rfl) mapart_i0.ok fun ys hy => (LpsOk.unrollT tt_ok ⟨sp_mside_ok,hy,mapart_i0.ok⟩ mixed 0 4 LpsOk.nil (by kernel_rfl)))⟩
def mapart_l2_13 (x : (I6 × (Int × (List I2)))) : LoopD := ⟨[.lo,.env,.env],⟨pvs 30 0 [(4,.v (.one (.ptr 2 0))),(6,.v (.one (.ptr 4 0))),(7,.v (.one (.clo 78 0 [.loc 10 0,.loc 11 0,.loc 9 0]))),(8,.v (.one (.b))),(14,.v (.one (.full 0))),(15,.v (.one (.i .i64))),(16,.v (.one (.i .i64)))],[.row yy2 0,.cells [.i .i64,.i .i64,.i .i64,.i .i64,.i .i64,.i .i64] 43,.cells [.i .i64] 3,.cells [.full 0] 23,.cells [.b] 4,.gone,.cells [.i .i64,.i .i64,.i .i64,.i .i64,.i .i64,.i .i64] 43,.loop true,.pin 8,.cells [.i .i64] 3,.cells [.i .i64,.i .i64] 42,.cells [.i .i64,.i .i64] 42,.pin 12],13,none,[18,19,25],[1,3,4,5,6,7,8,9,10,11,12,13,14,15,16,17,21,22,23,24],[20,0,2],[.i,.b,.i],[.i (x.2.2.length:Int),.l yy2 x.2.2,.i x.1.1.1,.i x.1.1.2,.i x.1.2.1.1,.i x.1.2.1.2,.i x.1.2.2.1,.i x.1.2.2.2,.i x.2.1,.b false,.i x.1.1.1,.i x.1.1.2,.i x.1.2.1.1,.i x.1.2.1.2,.i x.1.2.2.1,.i x.1.2.2.2,.i x.1.1.1,.i x.1.1.2,.i x.1.2.1.1,.i x.1.2.1.2]⟩,[⟨(.exit 2),.normal,⟨pvs 30 0 [(6,.v (.one (.ptr 4 0))),(8,.v (.one (.b)))],[.row yy2 0,.cells [.i .i64,.i .i64,.i .i64,.i .i64,.i .i64,.i .i64] 43,.cells [.i .i64] 3,.cells [.full 0] 23,.cells [.b] 4,.gone,.cells [.i .i64,.i .i64,.i .i64,.i .i64,.i .i64,.i .i64] 43,.loop true,.pin 8,.cells [.i .i64] 3,.cells [.i .i64,.i .i64] 42,.cells [.i .i64,.i .i64] 42,.pin 12],13,none,[16,17,23],[1,2,3,4,5,6,7,8,9,10,11,12,13,14,15,19,20,21,22],[18,0],[.i,.b],[.l yy2 x.2.2,.i x.1.1.1,.i x.1.1.2,.i x.1.2.1.1,.i x.1.2.1.2,.i x.1.2.2.1,.i x.1.2.2.2,.i x.2.1,.b false,.i x.1.1.1,.i x.1.1.2,.i x.1.2.1.1,.i x.1.2.1.2,.i x.1.2.2.1,.i x.1.2.2.2,.i x.1.1.1,.i x.1.1.2,.i x.1.2.1.1,.i x.1.2.1.2]⟩⟩]⟩
def mapart_l2_13_step (x : (I6 × (Int × (List I2)))) (s : (Int × (Bool × Int))) : (Int × (Bool × Int)) ⊕ (Int × Bool) :=
 (if (s.2.2 < (x.2.2.length:Int)) then
 (if (s.2.1 = true) then
 (letV (mside ((List.getD x.2.2 (Int.toNat s.2.2) ((0:Int),(0:Int))),(x.1.1,(x.1.2.1,s.1)))) fun y =>
 (Sum.inl (s.1,((decide (y < x.2.1)),(w64 (s.2.2 + (1:Int))))))) else
 (Sum.inl (s.1,(false,(w64 (s.2.2 + (1:Int))))))) else
 (Sum.inr ((s.1,s.2.1))))
def mapart_l2_13_pre (x : (I6 × (Int × (List I2)))) (s : (Int × (Bool × Int))) : Prop :=
 ((s.2.2 < (x.2.2.length:Int)) →
 ((((0:Int) ≤ s.2.2) ∧ (s.2.2 < (x.2.2.length:Int))) ∧
 (((Int.toNat s.2.2) < (List.length x.2.2)) ∧
 (((Int.toNat s.2.2) < (List.length x.2.2)) ∧
 ((s.2.1 = true) →
 (mside_pre ((List.getD x.2.2 (Int.toNat s.2.2) ((0:Int),(0:Int))),(x.1.1,(x.1.2.1,s.1)))))))))
def mapart_l2_13_t (x : (I6 × (Int × (List I2)))) (s : (Int × (Bool × Int))) : Tr ((Int × (Bool × Int)) ⊕ (Int × Bool)) true :=
 (.i10 (s.2.2 < (nL x.2.2))
 (.oI2 s.2.2 x.2.2
 (.b10 s.2.1
 (.fn mside_S ((gT x.2.2 s.2.2 zz2),(x.1.1,(x.1.2.1,s.1))) fun y =>
 (.ret (.inl (s.1,((decide (y < x.2.1)),(w1 s.2.2))))))
 (.ret (.inl (s.1,(false,(w1 s.2.2)))))))
 (.ret (.inr ((s.1,s.2.1)))))
def mapart_l2_16 (x : (I6 × (Int × (List I2)))) : LoopD := ⟨[.lo,.env,.env],⟨pvs 30 0 [(4,.v (.one (.ptr 2 0))),(6,.v (.one (.ptr 4 0))),(7,.v (.one (.clo 78 0 [.loc 13 0,.loc 14 0,.loc 9 0]))),(8,.v (.one (.b))),(14,.v (.one (.full 0))),(15,.v (.one (.i .i64))),(16,.v (.one (.i .i64)))],[.row yy2 0,.cells [.i .i64,.i .i64,.i .i64,.i .i64,.i .i64,.i .i64] 43,.cells [.i .i64] 3,.cells [.full 0] 23,.cells [.b] 4,.gone,.cells [.i .i64,.i .i64,.i .i64,.i .i64,.i .i64,.i .i64] 43,.loop true,.pin 8,.cells [.i .i64] 3,.cells [.i .i64,.i .i64] 42,.cells [.i .i64,.i .i64] 42,.gone,.cells [.i .i64,.i .i64] 42,.cells [.i .i64,.i .i64] 42,.pin 15],16,none,[18,19,29],[1,3,4,5,6,7,8,9,10,11,12,13,14,15,16,17,21,22,23,24,25,26,27,28],[20,0,2],[.i,.b,.i],[.i (x.2.2.length:Int),.l yy2 x.2.2,.i x.1.1.1,.i x.1.1.2,.i x.1.2.1.1,.i x.1.2.1.2,.i x.1.2.2.1,.i x.1.2.2.2,.i x.2.1,.b false,.i x.1.1.1,.i x.1.1.2,.i x.1.2.1.1,.i x.1.2.1.2,.i x.1.2.2.1,.i x.1.2.2.2,.i x.1.1.1,.i x.1.1.2,.i x.1.2.1.1,.i x.1.2.1.2,.i x.1.2.1.1,.i x.1.2.1.2,.i x.1.2.2.1,.i x.1.2.2.2]⟩,[⟨(.exit 2),.normal,⟨pvs 30 0 [(6,.v (.one (.ptr 4 0))),(8,.v (.one (.b)))],[.row yy2 0,.cells [.i .i64,.i .i64,.i .i64,.i .i64,.i .i64,.i .i64] 43,.cells [.i .i64] 3,.cells [.full 0] 23,.cells [.b] 4,.gone,.cells [.i .i64,.i .i64,.i .i64,.i .i64,.i .i64,.i .i64] 43,.loop true,.pin 8,.cells [.i .i64] 3,.cells [.i .i64,.i .i64] 42,.cells [.i .i64,.i .i64] 42,.gone,.cells [.i .i64,.i .i64] 42,.cells [.i .i64,.i .i64] 42,.pin 15],16,none,[16,17,27],[1,2,3,4,5,6,7,8,9,10,11,12,13,14,15,19,20,21,22,23,24,25,26],[18,0],[.i,.b],[.l yy2 x.2.2,.i x.1.1.1,.i x.1.1.2,.i x.1.2.1.1,.i x.1.2.1.2,.i x.1.2.2.1,.i x.1.2.2.2,.i x.2.1,.b false,.i x.1.1.1,.i x.1.1.2,.i x.1.2.1.1,.i x.1.2.1.2,.i x.1.2.2.1,.i x.1.2.2.2,.i x.1.1.1,.i x.1.1.2,.i x.1.2.1.1,.i x.1.2.1.2,.i x.1.2.1.1,.i x.1.2.1.2,.i x.1.2.2.1,.i x.1.2.2.2]⟩⟩]⟩
def mapart_l2_16_step (x : (I6 × (Int × (List I2)))) (s : (Int × (Bool × Int))) : (Int × (Bool × Int)) ⊕ (Int × Bool) :=
 (if (s.2.2 < (x.2.2.length:Int)) then
 (if (s.2.1 = true) then
 (letV (mside ((List.getD x.2.2 (Int.toNat s.2.2) ((0:Int),(0:Int))),(x.1.2.1,(x.1.2.2,s.1)))) fun y =>
 (Sum.inl (s.1,((decide (y < x.2.1)),(w64 (s.2.2 + (1:Int))))))) else
 (Sum.inl (s.1,(false,(w64 (s.2.2 + (1:Int))))))) else
 (Sum.inr ((s.1,s.2.1))))
def mapart_l2_16_pre (x : (I6 × (Int × (List I2)))) (s : (Int × (Bool × Int))) : Prop :=
 ((s.2.2 < (x.2.2.length:Int)) →
 ((((0:Int) ≤ s.2.2) ∧ (s.2.2 < (x.2.2.length:Int))) ∧
 (((Int.toNat s.2.2) < (List.length x.2.2)) ∧
 (((Int.toNat s.2.2) < (List.length x.2.2)) ∧
 ((s.2.1 = true) →
 (mside_pre ((List.getD x.2.2 (Int.toNat s.2.2) ((0:Int),(0:Int))),(x.1.2.1,(x.1.2.2,s.1)))))))))
def mapart_l2_16_t (x : (I6 × (Int × (List I2)))) (s : (Int × (Bool × Int))) : Tr ((Int × (Bool × Int)) ⊕ (Int × Bool)) true :=
 (.i10 (s.2.2 < (nL x.2.2))
 (.oI2 s.2.2 x.2.2
 (.b10 s.2.1
 (.fn mside_S ((gT x.2.2 s.2.2 zz2),(x.1.2.1,(x.1.2.2,s.1))) fun y =>
 (.ret (.inl (s.1,((decide (y < x.2.1)),(w1 s.2.2))))))
 (.ret (.inl (s.1,(false,(w1 s.2.2)))))))
 (.ret (.inr ((s.1,s.2.1)))))
def mapart_l2_19 (x : (I6 × (Int × (List I2)))) : LoopD := ⟨[.lo,.env,.env],⟨pvs 30 0 [(4,.v (.one (.ptr 2 0))),(6,.v (.one (.ptr 4 0))),(7,.v (.one (.clo 78 0 [.loc 16 0,.loc 17 0,.loc 9 0]))),(8,.v (.one (.b))),(14,.v (.one (.full 0))),(15,.v (.one (.i .i64))),(16,.v (.one (.i .i64)))],[.row yy2 0,.cells [.i .i64,.i .i64,.i .i64,.i .i64,.i .i64,.i .i64] 43,.cells [.i .i64] 3,.cells [.full 0] 23,.cells [.b] 4,.gone,.cells [.i .i64,.i .i64,.i .i64,.i .i64,.i .i64,.i .i64] 43,.loop true,.pin 8,.cells [.i .i64] 3,.cells [.i .i64,.i .i64] 42,.cells [.i .i64,.i .i64] 42,.gone,.cells [.i .i64,.i .i64] 42,.cells [.i .i64,.i .i64] 42,.gone,.cells [.i .i64,.i .i64] 42,.cells [.i .i64,.i .i64] 42,.pin 18],19,none,[18,19,33],[1,3,4,5,6,7,8,9,10,11,12,13,14,15,16,17,21,22,23,24,25,26,27,28,29,30,31,32],[20,0,2],[.i,.b,.i],[.i (x.2.2.length:Int),.l yy2 x.2.2,.i x.1.1.1,.i x.1.1.2,.i x.1.2.1.1,.i x.1.2.1.2,.i x.1.2.2.1,.i x.1.2.2.2,.i x.2.1,.b false,.i x.1.1.1,.i x.1.1.2,.i x.1.2.1.1,.i x.1.2.1.2,.i x.1.2.2.1,.i x.1.2.2.2,.i x.1.1.1,.i x.1.1.2,.i x.1.2.1.1,.i x.1.2.1.2,.i x.1.2.1.1,.i x.1.2.1.2,.i x.1.2.2.1,.i x.1.2.2.2,.i x.1.2.2.1,.i x.1.2.2.2,.i x.1.1.1,.i x.1.1.2]⟩,[⟨(.exit 2),.normal,⟨pvs 30 0 [(6,.v (.one (.ptr 4 0))),(8,.v (.one (.b)))],[.row yy2 0,.cells [.i .i64,.i .i64,.i .i64,.i .i64,.i .i64,.i .i64] 43,.cells [.i .i64] 3,.cells [.full 0] 23,.cells [.b] 4,.gone,.cells [.i .i64,.i .i64,.i .i64,.i .i64,.i .i64,.i .i64] 43,.loop true,.pin 8,.cells [.i .i64] 3,.cells [.i .i64,.i .i64] 42,.cells [.i .i64,.i .i64] 42,.gone,.cells [.i .i64,.i .i64] 42,.cells [.i .i64,.i .i64] 42,.gone,.cells [.i .i64,.i .i64] 42,.cells [.i .i64,.i .i64] 42,.pin 18],19,none,[16,17,31],[1,2,3,4,5,6,7,8,9,10,11,12,13,14,15,19,20,21,22,23,24,25,26,27,28,29,30],[18,0],[.i,.b],[.l yy2 x.2.2,.i x.1.1.1,.i x.1.1.2,.i x.1.2.1.1,.i x.1.2.1.2,.i x.1.2.2.1,.i x.1.2.2.2,.i x.2.1,.b false,.i x.1.1.1,.i x.1.1.2,.i x.1.2.1.1,.i x.1.2.1.2,.i x.1.2.2.1,.i x.1.2.2.2,.i x.1.1.1,.i x.1.1.2,.i x.1.2.1.1,.i x.1.2.1.2,.i x.1.2.1.1,.i x.1.2.1.2,.i x.1.2.2.1,.i x.1.2.2.2,.i x.1.2.2.1,.i x.1.2.2.2,.i x.1.1.1,.i x.1.1.2]⟩⟩]⟩
def mapart_l2_19_step (x : (I6 × (Int × (List I2)))) (s : (Int × (Bool × Int))) : (Int × (Bool × Int)) ⊕ (Int × Bool) :=
 (if (s.2.2 < (x.2.2.length:Int)) then
 (if (s.2.1 = true) then
 (letV (mside ((List.getD x.2.2 (Int.toNat s.2.2) ((0:Int),(0:Int))),(x.1.2.2,(x.1.1,s.1)))) fun y =>
 (Sum.inl (s.1,((decide (y < x.2.1)),(w64 (s.2.2 + (1:Int))))))) else
 (Sum.inl (s.1,(false,(w64 (s.2.2 + (1:Int))))))) else
 (Sum.inr ((s.1,s.2.1))))
def mapart_l2_19_pre (x : (I6 × (Int × (List I2)))) (s : (Int × (Bool × Int))) : Prop :=
 ((s.2.2 < (x.2.2.length:Int)) →
 ((((0:Int) ≤ s.2.2) ∧ (s.2.2 < (x.2.2.length:Int))) ∧
 (((Int.toNat s.2.2) < (List.length x.2.2)) ∧
 (((Int.toNat s.2.2) < (List.length x.2.2)) ∧
 ((s.2.1 = true) →
 (mside_pre ((List.getD x.2.2 (Int.toNat s.2.2) ((0:Int),(0:Int))),(x.1.2.2,(x.1.1,s.1)))))))))
def mapart_l2_19_t (x : (I6 × (Int × (List I2)))) (s : (Int × (Bool × Int))) : Tr ((Int × (Bool × Int)) ⊕ (Int × Bool)) true :=
 (.i10 (s.2.2 < (nL x.2.2))
 (.oI2 s.2.2 x.2.2
 (.b10 s.2.1
 (.fn mside_S ((gT x.2.2 s.2.2 zz2),(x.1.2.2,(x.1.1,s.1))) fun y =>
 (.ret (.inl (s.1,((decide (y < x.2.1)),(w1 s.2.2))))))
 (.ret (.inl (s.1,(false,(w1 s.2.2)))))))
 (.ret (.inr ((s.1,s.2.1)))))
def mapart (x : (I6 × (Int × (List I2)))) : Bool :=
 (letV (sside x.1) fun y =>
 (letV (run (mapart_l2_13_step x) (y.1,(true,(0:Int)))) fun r_1 =>
 (if (r_1.2 = true) then
 true else
 (letV (run (mapart_l2_16_step x) (r_1.1,(true,(0:Int)))) fun r_2 =>
 (if (r_2.2 = true) then
 true else
 (letV (run (mapart_l2_19_step x) (r_2.1,(true,(0:Int)))) fun r_3 =>
 (if (r_3.2 = true) then
 true else
 false)))))))
def mapart_pre (x : (I6 × (Int × (List I2)))) : Prop :=
 ((sside_pre x.1) ∧
 letP (sside x.1) fun y =>
 (Term (mapart_l2_13_step x) (mapart_l2_13_pre x) (y.1,(true,(0:Int))) ∧
 letP (run (mapart_l2_13_step x) (y.1,(true,(0:Int)))) fun r_1 =>
 (¬ (r_1.2 = true) →
 (Term (mapart_l2_16_step x) (mapart_l2_16_pre x) (r_1.1,(true,(0:Int))) ∧
 letP (run (mapart_l2_16_step x) (r_1.1,(true,(0:Int)))) fun r_2 =>
 (¬ (r_2.2 = true) →
 (Term (mapart_l2_19_step x) (mapart_l2_19_pre x) (r_2.1,(true,(0:Int)))))))))
def mapart_t (x : (I6 × (Int × (List I2)))) : Tr Bool true :=
 (.allE
 (.pn 0 5
 (.allL
 (.allE
 (.fn sside_S x.1 fun y =>
 (.fx
 (.pn 2 8
 (.fL 1
 (.allE
 (.pn 3 12
 (.fL 1
 (LoopD.lp (mapart_l2_13 x) (mapart_l2_13_t x) (y.1,(true,z0)) fun r_1 =>
 (.b01 r_1.2
 (.fL 1
 (.pn 3 12
 (.pn 2 8
 (.ret true))))
 (.fL 1
 (.pn 3 12
 (.fx
 (.pn 2 8
 (.fL 1
 (.allE
 (.pn 4 15
 (.fL 1
 (LoopD.lp (mapart_l2_16 x) (mapart_l2_16_t x) (r_1.1,(true,z0)) fun r_2 =>
 (.b01 r_2.2
 (.fL 1
 (.pn 4 15
 (.pn 2 8
 (.ret true))))
 (.fL 1
 (.pn 4 15
 (.fx
 (.pn 2 8
 (.fL 1
 (.allE
 (.pn 5 18
 (.fL 1
 (LoopD.lp (mapart_l2_19 x) (mapart_l2_19_t x) (r_2.1,(true,z0)) fun r_3 =>
 (.b00 r_3.2
 (.fL 1
 (.pn 5 18
 (.pn 2 8
 (.ret true))))
 (.fL 1
 (.pn 5 18
 (.pn 2 8
 (.ret false)))))))))))))))))))))))))))))))))))))
abbrev mapart_S : FnS := ⟨(.pair (.agg yy6) (.pair (.one yi) (.one (Ty.sl yy2)))),(.one Ty.bool),mapart_pre,mapart⟩
theorem mapart_ok : SpecOk Try.prog 49 (fnSpec mapart_S) := SpecOk.tr mapart_S mapart_t (fn := Try.f49) tt_ok sp_mside_ok mixed (by kernel_rfl) mapart_i1.ok (fun x => (LpsOk.trA 2 LpsOk.nil (by kernel_rfl) (LSem.cons (n := 13) (LSem.tr tt_ok (SpecsOk.ctxI sp_mside_ok mapart_i1.ok) mixed (mapart_l2_13 x) (mapart_l2_13_t x) (by kernel_rfl) fun g s Q => (by kernel_rfl)) (LSem.cons (n := 16) (LSem.tr tt_ok (SpecsOk.ctxI sp_mside_ok mapart_i1.ok) mixed (mapart_l2_16 x) (mapart_l2_16_t x) (by kernel_rfl) fun g s Q => (by kernel_rfl)) (LSem.cons (n := 19) (LSem.tr tt_ok (SpecsOk.ctxI sp_mside_ok mapart_i1.ok) mixed (mapart_l2_19 x) (mapart_l2_19_t x) (by kernel_rfl) fun g s Q => (by kernel_rfl)) LSem.nil))))) (fun x => (by kernel_rfl)) fun x Q => (by kernel_rfl)
def sp_mapart : List (Nat × Ev.Spec) := (49,fnSpec mapart_S) :: sp_mside
theorem sp_mapart_ok : SpecsOk Try.prog sp_mapart := SpecsOk.add (fn := Try.f49) (by kernel_rfl) mapart_ok sp_mside_ok
def mboth (x : (I6 × (I6 × Int))) : (Bool × Int) :=
 (letV (mright x.1) fun y =>
 (if ((!y) = true) then
 (false,(1:Int)) else
 (letV (mright x.2.1) fun y_1 =>
 (if ((!y_1) = true) then
 (false,(1:Int)) else
 (letV (mapart (x.1,(x.2.2,[x.2.1.1,x.2.1.2.1,x.2.1.2.2]))) fun y_2 =>
 (if ((!y_2) = true) then
 (letV (mapart (x.2.1,(x.2.2,[x.1.1,x.1.2.1,x.1.2.2]))) fun y_3 =>
 ((!y_3),(0:Int))) else
 (false,(0:Int))))))))
def mboth_pre (x : (I6 × (I6 × Int))) : Prop :=
 ((mright_pre x.1) ∧
 letP (mright x.1) fun y =>
 (¬ ((!y) = true) →
 ((mright_pre x.2.1) ∧
 letP (mright x.2.1) fun y_1 =>
 (¬ ((!y_1) = true) →
 ((mapart_pre (x.1,(x.2.2,[x.2.1.1,x.2.1.2.1,x.2.1.2.2]))) ∧
 letP (mapart (x.1,(x.2.2,[x.2.1.1,x.2.1.2.1,x.2.1.2.2]))) fun y_2 =>
 (((!y_2) = true) →
 (mapart_pre (x.2.1,(x.2.2,[x.1.1,x.1.2.1,x.1.2.2])))))))))
def mboth_t (x : (I6 × (I6 × Int))) : Tr (Bool × Int) true :=
 (.fn mright_S x.1 fun y =>
 (.b01 (!y)
 (.ret (false,z1))
 (.fn mright_S x.2.1 fun y_1 =>
 (.b01 (!y_1)
 (.ret (false,z1))
 (.fn mapart_S (x.1,(x.2.2,[x.2.1.1,x.2.1.2.1,x.2.1.2.2])) fun y_2 =>
 (.b10 (!y_2)
 (.fn mapart_S (x.2.1,(x.2.2,[x.1.1,x.1.2.1,x.1.2.2])) fun y_3 =>
 (.ret ((!y_3),z0)))
 (.ret (false,z0))))))))
abbrev mboth_S : FnS := ⟨(.pair (.agg yy6) (.pair (.agg yy6) (.one yi))),(.pair (.one Ty.bool) (.one yi)),mboth_pre,mboth⟩
theorem mboth_ok : SpecOk Try.prog 35 (fnSpec mboth_S) := SpecOk.tr mboth_S mboth_t (fn := Try.f35) tt_ok sp_mapart_ok mixed (by kernel_rfl) (ItsOk.nil _ _) (fun x => LpsOk.nil) (fun x => (by kernel_rfl)) fun x Q => (by kernel_rfl)
def sp_mboth : List (Nat × Ev.Spec) := (35,fnSpec mboth_S) :: sp_mapart
theorem sp_mboth_ok : SpecsOk Try.prog sp_mboth := SpecsOk.add (fn := Try.f35) (by kernel_rfl) mboth_ok sp_mapart_ok
def moverlap (x : (I6 × I6)) : (Bool × Int) :=
 (letV (mboth (x.1,(x.2,(1:Int)))) fun y =>
 y)
def moverlap_pre (x : (I6 × I6)) : Prop :=
 (mboth_pre (x.1,(x.2,(1:Int))))
def moverlap_t (x : (I6 × I6)) : Tr (Bool × Int) true :=
 (.fn mboth_S (x.1,(x.2,z1)) fun y =>
 (.ret y))
abbrev moverlap_S : FnS := ⟨(.pair (.agg yy6) (.agg yy6)),(.pair (.one Ty.bool) (.one yi)),moverlap_pre,moverlap⟩
theorem moverlap_ok : SpecOk Try.prog 16 (fnSpec moverlap_S) := SpecOk.tr moverlap_S moverlap_t (fn := Try.f16) tt_ok sp_mboth_ok mixed (by kernel_rfl) (ItsOk.nil _ _) (fun x => LpsOk.nil) (fun x => (by kernel_rfl)) fun x Q => (by kernel_rfl)
def sp_moverlap : List (Nat × Ev.Spec) := (16,fnSpec moverlap_S) :: sp_mboth
theorem sp_moverlap_ok : SpecsOk Try.prog sp_moverlap := SpecsOk.add (fn := Try.f16) (by kernel_rfl) moverlap_ok sp_mboth_ok
def fapart_l2 (x : (List I6)) : LoopD := ⟨[],⟨pvs 37 0 [(0,.v (.one (.full 0))),(4,.v (.one (.ptr 1 0))),(9,.v (.one (.full 0))),(10,.v (.one (.i .i64))),(11,.v (.one (.i .i64))),(18,.v (.one (.full 2))),(19,.v (.one (.i .i64))),(20,.v (.one (.i .i64)))],[.row yy6 0,.cells [.i .i64,.i .i64,.i .i64,.i .i64,.i .i64,.i .i64] 43,.alias 0 true],0,none,[],[0,4,11],[5,6,7,8,9,10,1,12,2,3],[.i,.i,.i,.i,.i,.i,.i,.n,.i,.i],[.i (x.length:Int),.l yy6 x,.n 0]⟩,[⟨.ret,.ret,⟨pvs 37 0 [(2,.v (.one (.b)))],[],0,none,[],[0],[],[],[.b false]⟩⟩,⟨(.exit 2),.normal,⟨pvs 37 0 [(0,.v (.one (.full 0))),(9,.v (.one (.full 0))),(10,.v (.one (.i .i64))),(11,.v (.one (.i .i64)))],[.row yy6 0],0,none,[],[0,2],[1],[.i],[.i (x.length:Int),.l yy6 x]⟩⟩]⟩
def fapart_l2_step (x : (List I6)) (s : (Int × (Int × (Int × (Int × (Int × (Int × (Int × (Nat × I2))))))))) : (Int × (Int × (Int × (Int × (Int × (Int × (Int × (Nat × I2)))))))) ⊕ (Unit ⊕ Int) :=
 (if (s.2.2.2.2.2.2.2.2.2 < s.2.2.2.2.2.2.2.2.1) then
 (letV (moverlap (((s.1,s.2.1),((s.2.2.1,s.2.2.2.1),(s.2.2.2.2.1,s.2.2.2.2.2.1))),(List.getD x (0 + (Int.toNat s.2.2.2.2.2.2.2.2.2)) (((0:Int),(0:Int)),(((0:Int),(0:Int)),((0:Int),(0:Int))))))) fun y =>
 (if (y.1 = true) then
 (Sum.inr (Sum.inl ())) else
 (if ((y.2 != (0:Int)) = true) then
 (Sum.inr (Sum.inl ())) else
 (Sum.inl (s.1,(s.2.1,(s.2.2.1,(s.2.2.2.1,(s.2.2.2.2.1,(s.2.2.2.2.2.1,(s.2.2.2.2.2.2.1,(s.2.2.2.2.2.2.2.1,(s.2.2.2.2.2.2.2.2.1,(w64 (s.2.2.2.2.2.2.2.2.2 + (1:Int)))))))))))))))) else
 (Sum.inr (Sum.inr (s.2.2.2.2.2.2.1))))
def fapart_l2_pre (x : (List I6)) (s : (Int × (Int × (Int × (Int × (Int × (Int × (Int × (Nat × I2))))))))) : Prop :=
 ((s.2.2.2.2.2.2.2.2.2 < s.2.2.2.2.2.2.2.2.1) →
 ((((0:Int) ≤ s.2.2.2.2.2.2.2.2.2) ∧ (s.2.2.2.2.2.2.2.2.2 < (((min s.2.2.2.2.2.2.2.1 ((List.length x) - 0)):Nat):Int))) ∧
 (((0 + (Int.toNat s.2.2.2.2.2.2.2.2.2)) < (List.length x)) ∧
 (((0 + (Int.toNat s.2.2.2.2.2.2.2.2.2)) < (List.length x)) ∧
 (moverlap_pre (((s.1,s.2.1),((s.2.2.1,s.2.2.2.1),(s.2.2.2.2.1,s.2.2.2.2.2.1))),(List.getD x (0 + (Int.toNat s.2.2.2.2.2.2.2.2.2)) (((0:Int),(0:Int)),(((0:Int),(0:Int)),((0:Int),(0:Int)))))))))))
def fapart_l2_t (x : (List I6)) (s : (Int × (Int × (Int × (Int × (Int × (Int × (Int × (Nat × I2))))))))) : Tr ((Int × (Int × (Int × (Int × (Int × (Int × (Int × (Nat × I2)))))))) ⊕ (Unit ⊕ Int)) true :=
 (.i10 (s.2.2.2.2.2.2.2.2.2 < s.2.2.2.2.2.2.2.2.1)
 (.oR s.2.2.2.2.2.2.2.2.2 (((min s.2.2.2.2.2.2.2.1 ((List.length x) - 0)):Nat):Int)
 (.od ((0 + (tN s.2.2.2.2.2.2.2.2.2)) < (List.length x))
 (.od ((0 + (tN s.2.2.2.2.2.2.2.2.2)) < (List.length x))
 (.fn moverlap_S (((s.1,s.2.1),((s.2.2.1,s.2.2.2.1),(s.2.2.2.2.1,s.2.2.2.2.2.1))),(List.getD x (0 + (tN s.2.2.2.2.2.2.2.2.2)) zz6)) fun y =>
 (.b00 y.1
 (.ret (.inr (Sum.inl ())))
 (.b00 (y.2 != z0)
 (.ret (.inr (Sum.inl ())))
 (.ret (.inl (s.1,(s.2.1,(s.2.2.1,(s.2.2.2.1,(s.2.2.2.2.1,(s.2.2.2.2.2.1,(s.2.2.2.2.2.2.1,(s.2.2.2.2.2.2.2.1,(s.2.2.2.2.2.2.2.2.1,(w1 s.2.2.2.2.2.2.2.2.2))))))))))))))))))
 (.ret (.inr (Sum.inr (s.2.2.2.2.2.2.1)))))
def fapart_l0 (x : (List I6)) : LoopD := ⟨[],⟨pvs 37 0 [(0,.v (.one (.full 0))),(9,.v (.one (.full 0))),(10,.v (.one (.i .i64))),(11,.v (.one (.i .i64)))],[.row yy6 0],0,none,[],[0,2],[1],[.i],[.i (x.length:Int),.l yy6 x]⟩,[⟨.ret,.ret,⟨pvs 37 0 [(2,.v (.one (.b)))],[],0,none,[],[0],[],[],[.b false]⟩⟩,⟨(.exit 0),.normal,⟨pvs 37 0 [],[],0,none,[],[],[],[],[]⟩⟩]⟩
def fapart_l0_step (x : (List I6)) (s:Int) : Int ⊕ (Unit ⊕ Unit) :=
 (if (s < (x.length:Int)) then
 (letV (run (fapart_l2_step x) ((List.getD x (Int.toNat s) (((0:Int),(0:Int)),(((0:Int),(0:Int)),((0:Int),(0:Int))))).1.1,((List.getD x (Int.toNat s) (((0:Int),(0:Int)),(((0:Int),(0:Int)),((0:Int),(0:Int))))).1.2,((List.getD x (Int.toNat s) (((0:Int),(0:Int)),(((0:Int),(0:Int)),((0:Int),(0:Int))))).2.1.1,((List.getD x (Int.toNat s) (((0:Int),(0:Int)),(((0:Int),(0:Int)),((0:Int),(0:Int))))).2.1.2,((List.getD x (Int.toNat s) (((0:Int),(0:Int)),(((0:Int),(0:Int)),((0:Int),(0:Int))))).2.2.1,((List.getD x (Int.toNat s) (((0:Int),(0:Int)),(((0:Int),(0:Int)),((0:Int),(0:Int))))).2.2.2,(s,((Int.toNat s),((((min (Int.toNat s) ((List.length x) - 0)):Nat):Int),(0:Int))))))))))) fun r =>
 (Sum.elim (fun a =>
 (Sum.inr (Sum.inl ()))) (fun b =>
 (Sum.inl (w64 (b + (1:Int))))) r)) else
 (Sum.inr (Sum.inr (()))))
def fapart_l0_pre (x : (List I6)) (s:Int) : Prop :=
 ((s < (x.length:Int)) →
 ((((0:Int) ≤ s) ∧ (s < (x.length:Int))) ∧
 (((Int.toNat s) < (List.length x)) ∧
 (((Int.toNat s) < (List.length x)) ∧
 ((((0:Int) ≤ s) ∧ (s ≤ (x.length:Int))) ∧
 (Term (fapart_l2_step x) (fapart_l2_pre x) ((List.getD x (Int.toNat s) (((0:Int),(0:Int)),(((0:Int),(0:Int)),((0:Int),(0:Int))))).1.1,((List.getD x (Int.toNat s) (((0:Int),(0:Int)),(((0:Int),(0:Int)),((0:Int),(0:Int))))).1.2,((List.getD x (Int.toNat s) (((0:Int),(0:Int)),(((0:Int),(0:Int)),((0:Int),(0:Int))))).2.1.1,((List.getD x (Int.toNat s) (((0:Int),(0:Int)),(((0:Int),(0:Int)),((0:Int),(0:Int))))).2.1.2,((List.getD x (Int.toNat s) (((0:Int),(0:Int)),(((0:Int),(0:Int)),((0:Int),(0:Int))))).2.2.1,((List.getD x (Int.toNat s) (((0:Int),(0:Int)),(((0:Int),(0:Int)),((0:Int),(0:Int))))).2.2.2,(s,((Int.toNat s),((((min (Int.toNat s) ((List.length x) - 0)):Nat):Int),(0:Int))))))))))))))))
def fapart_l0_t (x : (List I6)) (s:Int) : Tr (Int ⊕ (Unit ⊕ Unit)) true :=
 (.i10 (s < (nL x))
 (.oI2 s x
 (.og ((decide (z0 ≤ s)) && (decide (s ≤ (nL x)))) ((z0 ≤ s) ∧ (s ≤ (nL x))) (fun h => (and_t (decide_eq_true h.1) (decide_eq_true h.2)))
 (LoopD.lp (fapart_l2 x) (fapart_l2_t x) ((gT x s zz6).1.1,((gT x s zz6).1.2,((gT x s zz6).2.1.1,((gT x s zz6).2.1.2,((gT x s zz6).2.2.1,((gT x s zz6).2.2.2,(s,((tN s),((((min (tN s) ((List.length x) - 0)):Nat):Int),z0))))))))) fun r =>
 (.s00 r (fun a =>
 (.ret (.inr (Sum.inl ())))) (fun b =>
 (.ret (.inl (w1 b))))))))
 (.ret (.inr (Sum.inr (())))))
def fapart (x : (List I6)) : Bool :=
 (letV (run (fapart_l0_step x) (0:Int)) fun r =>
 (Sum.elim (fun a =>
 false) (fun b =>
 true) r))
def fapart_pre (x : (List I6)) : Prop :=
 (Term (fapart_l0_step x) (fapart_l0_pre x) (0:Int))
def fapart_t (x : (List I6)) : Tr Bool true :=
 (LoopD.lp (fapart_l0 x) (fapart_l0_t x) z0 fun r =>
 (.s00 r (fun a =>
 (.ret false)) (fun b =>
 (.ret true))))
abbrev fapart_S : FnS := ⟨(.one (Ty.sl yy6)),(.one Ty.bool),fapart_pre,fapart⟩
theorem fapart_ok : SpecOk Try.prog 23 (fnSpec fapart_S) := SpecOk.tr fapart_S fapart_t (fn := Try.f23) tt_ok sp_moverlap_ok mixed (by kernel_rfl) (ItsOk.nil _ _) (fun x => (LpsOk.tr tt_ok (SpecsOk.ctxI sp_moverlap_ok (ItsOk.nil _ _)) mixed 0 (fapart_l0 x) (fapart_l0_t x) (LpsOk.tr tt_ok (SpecsOk.ctxI sp_moverlap_ok (ItsOk.nil _ _)) mixed 2 (fapart_l2 x) (fapart_l2_t x) LpsOk.nil (by kernel_rfl) fun g s Q => (by kernel_rfl)) (by kernel_rfl) fun g s Q => (by kernel_rfl))) (fun x => (by kernel_rfl)) fun x Q => (by kernel_rfl)
end Go.Proofs.Ytpbbnoggkbfkoaa
