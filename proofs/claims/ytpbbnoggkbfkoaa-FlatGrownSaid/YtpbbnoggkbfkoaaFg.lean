/- Models of functions of layer 16: patches. -/
import Derived.Test.YtpbbnoggkbfkoaaFe
noncomputable section
set_option linter.unusedSectionVars false
set_option linter.unusedVariables false
set_option linter.unusedSimpArgs false
namespace Go.Proofs.Ytpbbnoggkbfkoaa
open Go Go.Ev Go.Proofs
def sp_lay0 : List (Nat × Ev.Spec) := (17,fnSpec fbox_S) :: (23,fnSpec fapart_S) :: (16,fnSpec moverlap_S) :: sp_turnedM
theorem sp_lay0_ok : SpecsOk Try.prog sp_lay0 := SpecsOk.cons (Enters.of (fn := Try.f17) (by kernel_rfl) (by kernel_rfl) (by kernel_rfl)) fbox_ok (SpecsOk.cons (Enters.of (fn := Try.f23) (by kernel_rfl) (by kernel_rfl) (by kernel_rfl)) fapart_ok (SpecsOk.cons (Enters.of (fn := Try.f16) (by kernel_rfl) (by kernel_rfl) (by kernel_rfl)) moverlap_ok sp_turnedM_ok))
def fis (x : ((List Int) × ((List I6) × I2))) : Bool :=
 (if ((x.1.length:Int) > (500:Int)) then
 false else
 (if (((x.2.1.length:Int) != (x.1.length:Int)) = true) then
 false else
 (letV (containsT (x.2.1,false)) fun y =>
 (if (y = true) then
 false else
 (letV (fbox x.2.1) fun y_1 =>
 (if ((y_1.2.2 != (0:Int)) = true) then
 false else
 (if ((!((y_1.1.1 == (0:Int)) && ((y_1.1.2 == (0:Int)) && true))) = true) then
 false else
 (letV (fsizes y_1.2.1) fun y_2 =>
 (if ((x.2.2.1 == y_2.1) = true) then
 (if ((x.2.2.2 == y_2.2) = true) then
 (letV (fapart x.2.1) fun y_3 =>
 y_3) else
 false) else
 false)))))))))
def fis_pre (x : ((List Int) × ((List I6) × I2))) : Prop :=
 (¬ ((x.1.length:Int) > (500:Int)) →
 (¬ (((x.2.1.length:Int) != (x.1.length:Int)) = true) →
 ((containsT_pre (x.2.1,false)) ∧
 letP (containsT (x.2.1,false)) fun y =>
 (¬ (y = true) →
 ((fbox_pre x.2.1) ∧
 letP (fbox x.2.1) fun y_1 =>
 (¬ ((y_1.2.2 != (0:Int)) = true) →
 (¬ ((!((y_1.1.1 == (0:Int)) && ((y_1.1.2 == (0:Int)) && true))) = true) →
 (letP (fsizes y_1.2.1) fun y_2 =>
 (((x.2.2.1 == y_2.1) = true) →
 (((x.2.2.2 == y_2.2) = true) →
 (fapart_pre x.2.1)))))))))))
def fis_t (x : ((List Int) × ((List I6) × I2))) : Tr Bool true :=
 (.i01 ((nL x.1) > (500:Int))
 (.ret false)
 (.b01 ((nL x.2.1) != (nL x.1))
 (.ret false)
 (.fn containsT_S (x.2.1,false) fun y =>
 (.b01 y
 (.ret false)
 (.fn fbox_S x.2.1 fun y_1 =>
 (.b01 (y_1.2.2 != z0)
 (.ret false)
 (.b01 (!((y_1.1.1 == z0) && ((y_1.1.2 == z0) && true)))
 (.ret false)
 (.fn0 fsizes_S y_1.2.1 trivial fun y_2 =>
 (.b10 (x.2.2.1 == y_2.1)
 (.b10 (x.2.2.2 == y_2.2)
 (.fn fapart_S x.2.1 fun y_3 =>
 (.ret y_3))
 (.ret false))
 (.ret false))))))))))
abbrev fis_S : FnS := ⟨(.agg (Ty.prod (Ty.sl yi) (Ty.prod (Ty.sl yy6) yy2))),(.one Ty.bool),fis_pre,fis⟩
theorem fis_ok : SpecOk Try.prog 10 (fnSpec fis_S) := SpecOk.tr fis_S fis_t (fn := Try.f10) tt_ok sp_lay0_ok mixed (by kernel_rfl) (ItsOk.nil _ _) (fun x => LpsOk.nil) (fun x => (by kernel_rfl)) fun x Q => (by kernel_rfl)
def sp_fis : List (Nat × Ev.Spec) := (10,fnSpec fis_S) :: sp_lay0
theorem sp_fis_ok : SpecsOk Try.prog sp_fis := SpecsOk.add (fn := Try.f10) (by kernel_rfl) fis_ok sp_lay0_ok
def flay_l0 (x : (((List I3) × ((List I2) × ((List I3) × (List I9)))) × ((Int × (Int × (List Int))) × Int))) : LoopD := ⟨[],⟨pvs 113 0 [(3,.v (.one (.ptr 0 0))),(4,.v (.one (.ptr 5 0))),(5,.v (.one (.ptr 7 0))),(6,.v (.one (.ptr 8 0))),(8,.v (.one (.full 9))),(30,.v (.one (.full 6))),(31,.v (.one (.i .i64))),(32,.v (.one (.i .i64)))],[.cells [.full 1,.full 2,.full 3,.full 4] 26,.row yy3 0,.row yy2 0,.row yy3 0,.row yy9 0,.cells [.i .i64,.i .i64,.full 6] 29,.row yi 0,.cells [.i .i64] 3,.cells [.raw,.raw,.i .i64,.i .i64] 34,.row yy6 2],0,none,[],[0,2,3,4,5,6,7,8,9,10,11,12,13],[14,1],[(.l yy6),.i],[.i (x.2.1.2.2.length:Int),.l yy3 x.1.1,.l yy2 x.1.2.1,.l yy3 x.1.2.2.1,.l yy9 x.1.2.2.2,.i x.2.1.1,.i x.2.1.2.1,.l yi x.2.1.2.2,.i x.2.2,.v (.slice none 0 0),.v (.slice none 0 0),.i (0:Int),.i (0:Int)]⟩,[⟨.ret,.ret,⟨pvs 113 0 [(6,.v (.one (.ptr 0 0))),(7,.v (.one (.i .i64)))],[.cells [.raw,.raw,.i .i64,.i .i64] 34],0,none,[],[1,2,3,4],[0],[.i],[.v (.slice none 0 0),.v (.slice none 0 0),.i (0:Int),.i (0:Int)]⟩⟩,⟨(.exit 0),.normal,⟨pvs 113 0 [(4,.v (.one (.ptr 0 0))),(5,.v (.one (.ptr 2 0))),(6,.v (.one (.ptr 3 0))),(8,.v (.one (.full 4)))],[.cells [.i .i64,.i .i64,.full 1] 29,.row yi 0,.cells [.i .i64] 3,.cells [.raw,.raw,.i .i64,.i .i64] 34,.row yy6 2],0,none,[],[0,1,2,3,4,5,6,7],[8],[(.l yy6)],[.i x.2.1.1,.i x.2.1.2.1,.l yi x.2.1.2.2,.i x.2.2,.v (.slice none 0 0),.v (.slice none 0 0),.i (0:Int),.i (0:Int)]⟩⟩]⟩
def flay_l0_step (x : (((List I3) × ((List I2) × ((List I3) × (List I9)))) × ((Int × (Int × (List Int))) × Int))) (s : ((List I6) × Int)) : ((List I6) × Int) ⊕ (Int ⊕ (List I6)) :=
 (if (s.2 < (x.2.1.2.2.length:Int)) then
 (letV (facing (x.1,(List.getD x.2.1.2.2 (Int.toNat s.2) (0:Int)))) fun y =>
 (if ((!y.2.2) = true) then
 (Sum.inr (Sum.inl (1:Int))) else
 (if ((y.1 != x.2.1.1) = true) then
 (Sum.inr (Sum.inl (1:Int))) else
 (if ((y.2.1 != x.2.1.2.1) = true) then
 (Sum.inr (Sum.inl (1:Int))) else
 (letV (shadow (x.1,((List.getD x.2.1.2.2 (Int.toNat s.2) (0:Int)),y.1))) fun y_1 =>
 (if ((y_1.2 != (0:Int)) = true) then
 (Sum.inr (Sum.inl y_1.2)) else
 (Sum.inl ((s.1 ++ [y_1.1]),(w64 (s.2 + (1:Int))))))))))) else
 (Sum.inr (Sum.inr (s.1))))
def flay_l0_pre (x : (((List I3) × ((List I2) × ((List I3) × (List I9)))) × ((Int × (Int × (List Int))) × Int))) (s : ((List I6) × Int)) : Prop :=
 ((s.2 < (x.2.1.2.2.length:Int)) →
 ((((0:Int) ≤ s.2) ∧ (s.2 < (x.2.1.2.2.length:Int))) ∧
 (((Int.toNat s.2) < (List.length x.2.1.2.2)) ∧
 (((Int.toNat s.2) < (List.length x.2.1.2.2)) ∧
 ((facing_pre (x.1,(List.getD x.2.1.2.2 (Int.toNat s.2) (0:Int)))) ∧
 letP (facing (x.1,(List.getD x.2.1.2.2 (Int.toNat s.2) (0:Int)))) fun y =>
 (¬ ((!y.2.2) = true) →
 (¬ ((y.1 != x.2.1.1) = true) →
 (¬ ((y.2.1 != x.2.1.2.1) = true) →
 ((shadow_pre (x.1,((List.getD x.2.1.2.2 (Int.toNat s.2) (0:Int)),y.1))) ∧
 letP (shadow (x.1,((List.getD x.2.1.2.2 (Int.toNat s.2) (0:Int)),y.1))) fun y_1 =>
 (¬ ((y_1.2 != (0:Int)) = true) →
 (((List.length s.1) + 1) < 1099511627776)))))))))))
def flay_l0_t (x : (((List I3) × ((List I2) × ((List I3) × (List I9)))) × ((Int × (Int × (List Int))) × Int))) (s : ((List I6) × Int)) : Tr (((List I6) × Int) ⊕ (Int ⊕ (List I6))) true :=
 (.i10 (s.2 < (nL x.2.1.2.2))
 (.oI2 s.2 x.2.1.2.2
 (.fn facing_S (x.1,(gI x.2.1.2.2 s.2)) fun y =>
 (.b01 (!y.2.2)
 (.ret (.inr (Sum.inl z1)))
 (.b01 (y.1 != x.2.1.1)
 (.ret (.inr (Sum.inl z1)))
 (.b01 (y.2.1 != x.2.1.2.1)
 (.ret (.inr (Sum.inl z1)))
 (.fn shadow_S (x.1,((gI x.2.1.2.2 s.2),y.1)) fun y_1 =>
 (.b01 (y_1.2 != z0)
 (.ret (.inr (Sum.inl y_1.2)))
 (.od (((List.length s.1) + 1) < 1099511627776)
 (.ret (.inl ((s.1 ++ [y_1.1]),(w1 s.2))))))))))))
 (.ret (.inr (Sum.inr (s.1)))))
def flay (x : (((List I3) × ((List I2) × ((List I3) × (List I9)))) × ((Int × (Int × (List Int))) × Int))) : (((List Int) × ((List I6) × I2)) × Int) :=
 (if (x.2.2 < (1:Int)) then
 (([],([],((0:Int),(0:Int)))),(1:Int)) else
 (if (x.2.2 > (64:Int)) then
 (([],([],((0:Int),(0:Int)))),(1:Int)) else
 (letV (run (flay_l0_step x) ([],(0:Int))) fun r =>
 (Sum.elim (fun a =>
 (([],([],((0:Int),(0:Int)))),a)) (fun b =>
 (letV (fbox b) fun y =>
 (if ((y.2.2 != (0:Int)) = true) then
 (([],([],((0:Int),(0:Int)))),(1:Int)) else
 (letV (layc (y.2.1,(y.1,x.2.2))) fun y_1 =>
 (if ((maxI y_1.1 y_1.2) > (4096:Int)) then
 (([],([],((0:Int),(0:Int)))),(2:Int)) else
 (letV (turnedL (b,(y.1,x.2.2))) fun y_2 =>
 (letV (fapart y_2) fun y_3 =>
 (if ((!y_3) = true) then
 (([],([],((0:Int),(0:Int)))),(1:Int)) else
 (letV (fsizes y_1) fun y_4 =>
 (letV (cloneI x.2.1.2.2) fun y_5 =>
 ((y_5,(y_2,y_4)),(0:Int)))))))))))) r))))
def flay_pre (x : (((List I3) × ((List I2) × ((List I3) × (List I9)))) × ((Int × (Int × (List Int))) × Int))) : Prop :=
 (¬ (x.2.2 < (1:Int)) →
 (¬ (x.2.2 > (64:Int)) →
 (Term (flay_l0_step x) (flay_l0_pre x) ([],(0:Int)) ∧
 letP (run (flay_l0_step x) ([],(0:Int))) fun r =>
 (cS r (fun a =>
 True) (fun b =>
 ((fbox_pre b) ∧
 letP (fbox b) fun y =>
 (¬ ((y.2.2 != (0:Int)) = true) →
 (letP (layc (y.2.1,(y.1,x.2.2))) fun y_1 =>
 (¬ ((maxI y_1.1 y_1.2) > (4096:Int)) →
 ((turnedL_pre (b,(y.1,x.2.2))) ∧
 letP (turnedL (b,(y.1,x.2.2))) fun y_2 =>
 ((fapart_pre y_2) ∧
 letP (fapart y_2) fun y_3 =>
 (¬ ((!y_3) = true) →
 (letP (fsizes y_1) fun y_4 =>
 (cloneI_pre x.2.1.2.2))))))))))))))
def flay_t (x : (((List I3) × ((List I2) × ((List I3) × (List I9)))) × ((Int × (Int × (List Int))) × Int))) : Tr (((List Int) × ((List I6) × I2)) × Int) true :=
 (.i01 (x.2.2 < z1)
 (.ret (([],([],zz2)),z1))
 (.i01 (x.2.2 > (64:Int))
 (.ret (([],([],zz2)),z1))
 (LoopD.lp (flay_l0 x) (flay_l0_t x) ([],z0) fun r =>
 (.s01 r (fun a =>
 (.ret (([],([],zz2)),a))) (fun b =>
 (.fn fbox_S b fun y =>
 (.b01 (y.2.2 != z0)
 (.ret (([],([],zz2)),z1))
 (.fn0 layc_S (y.2.1,(y.1,x.2.2)) trivial fun y_1 =>
 (.i01 ((maxI y_1.1 y_1.2) > (4096:Int))
 (.ret (([],([],zz2)),(2:Int)))
 (.fn turnedL_S (b,(y.1,x.2.2)) fun y_2 =>
 (.fn fapart_S y_2 fun y_3 =>
 (.b01 (!y_3)
 (.ret (([],([],zz2)),z1))
 (.fn0 fsizes_S y_1 trivial fun y_4 =>
 (.fn cloneI_S x.2.1.2.2 fun y_5 =>
 (.ret ((y_5,(y_2,y_4)),z0))))))))))))))))
abbrev flay_S : FnS := ⟨(.pair (.agg (Ty.prod (Ty.sl yy3) (Ty.prod (Ty.sl yy2) (Ty.prod (Ty.sl yy3) (Ty.sl yy9))))) (.pair (.agg (Ty.prod yi (Ty.prod yi (Ty.sl yi)))) (.one yi))),(.pair (.agg (Ty.prod (Ty.sl yi) (Ty.prod (Ty.sl yy6) yy2))) (.one yi)),flay_pre,flay⟩
theorem flay_ok : SpecOk Try.prog 8 (fnSpec flay_S) := SpecOk.tr flay_S flay_t (fn := Try.f8) tt_ok sp_fis_ok mixed (by kernel_rfl) (ItsOk.nil _ _) (fun x => (LpsOk.tr tt_ok (SpecsOk.ctxI sp_fis_ok (ItsOk.nil _ _)) mixed 0 (flay_l0 x) (flay_l0_t x) LpsOk.nil (by kernel_rfl) fun g s Q => (by kernel_rfl))) (fun x => (by kernel_rfl)) fun x Q => (by kernel_rfl)
def sp_flay : List (Nat × Ev.Spec) := (8,fnSpec flay_S) :: sp_fis
theorem sp_flay_ok : SpecsOk Try.prog sp_flay := SpecsOk.add (fn := Try.f8) (by kernel_rfl) flay_ok sp_fis_ok
def fmove (x : (((List Int) × ((List I6) × I2)) × I2)) : ((List I6) × Int) :=
 (letV (fis x.1) fun y =>
 (if ((!y) = true) then
 ([],(1:Int)) else
 (if ((minI x.2.1 x.2.2) < (0:Int)) then
 ([],(5:Int)) else
 (if ((maxI x.2.1 x.2.2) > (65536:Int)) then
 ([],(5:Int)) else
 (letV (turnedM (x.1.2.1,x.2)) fun y_1 =>
 (y_1,(0:Int)))))))
def fmove_pre (x : (((List Int) × ((List I6) × I2)) × I2)) : Prop :=
 ((fis_pre x.1) ∧
 letP (fis x.1) fun y =>
 (¬ ((!y) = true) →
 (¬ ((minI x.2.1 x.2.2) < (0:Int)) →
 (¬ ((maxI x.2.1 x.2.2) > (65536:Int)) →
 (turnedM_pre (x.1.2.1,x.2))))))
def fmove_t (x : (((List Int) × ((List I6) × I2)) × I2)) : Tr ((List I6) × Int) true :=
 (.fn fis_S x.1 fun y =>
 (.b01 (!y)
 (.ret ([],z1))
 (.i01 ((minI x.2.1 x.2.2) < z0)
 (.ret ([],(5:Int)))
 (.i01 ((maxI x.2.1 x.2.2) > (65536:Int))
 (.ret ([],(5:Int)))
 (.fn turnedM_S (x.1.2.1,x.2) fun y_1 =>
 (.ret (y_1,z0)))))))
abbrev fmove_S : FnS := ⟨(.pair (.agg (Ty.prod (Ty.sl yi) (Ty.prod (Ty.sl yy6) yy2))) (.agg yy2)),(.pair (.one (Ty.sl yy6)) (.one yi)),fmove_pre,fmove⟩
theorem fmove_ok : SpecOk Try.prog 15 (fnSpec fmove_S) := SpecOk.tr fmove_S fmove_t (fn := Try.f15) tt_ok sp_flay_ok mixed (by kernel_rfl) (ItsOk.nil _ _) (fun x => LpsOk.nil) (fun x => (by kernel_rfl)) fun x Q => (by kernel_rfl)
def sp_fmove : List (Nat × Ev.Spec) := (15,fnSpec fmove_S) :: sp_flay
theorem sp_fmove_ok : SpecsOk Try.prog sp_fmove := SpecsOk.add (fn := Try.f15) (by kernel_rfl) fmove_ok sp_flay_ok
end Go.Proofs.Ytpbbnoggkbfkoaa

namespace Go.Proofs.Ytpbbnoggkbfkoaa
open Go Go.Ev Go.Proofs
def r14few (x : ((List I3) × ((List I2) × ((List I3) × (List I9))))) : Bool :=
 (if ((x.1.length:Int) ≤ (20:Int)) then
 (if ((x.2.1.length:Int) ≤ (60:Int)) then
 (if ((x.2.2.1.length:Int) ≤ (60:Int)) then
 (decide ((x.2.2.2.length:Int) ≤ (20:Int))) else
 false) else
 false) else
 false)
def r14few_pre (_ : ((List I3) × ((List I2) × ((List I3) × (List I9))))) : Prop := True
def r14few_t (x : ((List I3) × ((List I2) × ((List I3) × (List I9))))) : Tr Bool false :=
 (.i00 ((nL x.1) ≤ (20:Int))
 (.i00 ((nL x.2.1) ≤ (60:Int))
 (.i00 ((nL x.2.2.1) ≤ (60:Int))
 (.ret (decide ((nL x.2.2.2) ≤ (20:Int))))
 (.ret false))
 (.ret false))
 (.ret false))
abbrev r14few_S : FnS := ⟨(.agg (Ty.prod (Ty.sl yy3) (Ty.prod (Ty.sl yy2) (Ty.prod (Ty.sl yy3) (Ty.sl yy9))))),(.one Ty.bool),r14few_pre,r14few⟩
theorem r14few_ok : SpecOk Try.prog 19 (fnSpec r14few_S) := SpecOk.tr r14few_S r14few_t (fn := Try.f19) tt_ok sp_fmove_ok mixed (by kernel_rfl) (ItsOk.nil _ _) (fun x => LpsOk.nil) (fun x => (by kernel_rfl)) fun x Q => (by kernel_rfl)
def sp_r14few : List (Nat × Ev.Spec) := (19,fnSpec r14few_S) :: sp_fmove
theorem sp_r14few_ok : SpecsOk Try.prog sp_r14few := SpecsOk.add (fn := Try.f19) (by kernel_rfl) r14few_ok sp_fmove_ok
def r15few_l0 (x : (((List I3) × ((List I2) × ((List I3) × (List I9)))) × (List (Int × (Int × (List Int)))))) : LoopD := ⟨[],⟨pvs 37 0 [(1,.v (.one (.full 0))),(2,.v (.one (.ptr 1 0))),(5,.v (.one (.i .i64)))],[.row (Ty.prod yi (Ty.prod yi (Ty.sl yi))) 0,.cells [.full 2,.full 3,.full 4,.full 5] 26,.row yy3 0,.row yy2 0,.row yy3 0,.row yy9 0],0,none,[],[1,2,3,4,5],[0],[.i],[.l (Ty.prod yi (Ty.prod yi (Ty.sl yi))) x.2,.l yy3 x.1.1,.l yy2 x.1.2.1,.l yy3 x.1.2.2.1,.l yy9 x.1.2.2.2]⟩,[⟨.ret,.ret,⟨pvs 37 0 [(4,.v (.one (.b)))],[],0,none,[],[0],[],[],[.b false]⟩⟩,⟨(.exit 0),.normal,⟨pvs 37 0 [(1,.v (.one (.full 0))),(2,.v (.one (.ptr 1 0)))],[.row (Ty.prod yi (Ty.prod yi (Ty.sl yi))) 0,.cells [.full 2,.full 3,.full 4,.full 5] 26,.row yy3 0,.row yy2 0,.row yy3 0,.row yy9 0],0,none,[],[0,1,2,3,4],[],[],[.l (Ty.prod yi (Ty.prod yi (Ty.sl yi))) x.2,.l yy3 x.1.1,.l yy2 x.1.2.1,.l yy3 x.1.2.2.1,.l yy9 x.1.2.2.2]⟩⟩]⟩
def r15few_l0_step (x : (((List I3) × ((List I2) × ((List I3) × (List I9)))) × (List (Int × (Int × (List Int)))))) (s:Int) : Int ⊕ (Unit ⊕ Unit) :=
 (if (s < (x.2.length:Int)) then
 (if ((x.2.length:Int) ≤ (20:Int)) then
 (if (((List.getD x.2 (Int.toNat s) ((0:Int),((0:Int),[]))).2.2.length:Int) > (20:Int)) then
 (Sum.inr (Sum.inl ())) else
 (Sum.inl (w64 (s + (1:Int))))) else
 (Sum.inr (Sum.inr (())))) else
 (Sum.inr (Sum.inr (()))))
def r15few_l0_pre (x : (((List I3) × ((List I2) × ((List I3) × (List I9)))) × (List (Int × (Int × (List Int)))))) (s:Int) : Prop :=
 ((s < (x.2.length:Int)) →
 (((x.2.length:Int) ≤ (20:Int)) →
 ((((0:Int) ≤ s) ∧ (s < (x.2.length:Int))) ∧
 (((Int.toNat s) < (List.length x.2)) ∧
 (((Int.toNat s) < (List.length x.2)) ∧
 ((Int.toNat s) < (List.length x.2)))))))
def r15few_l0_t (x : (((List I3) × ((List I2) × ((List I3) × (List I9)))) × (List (Int × (Int × (List Int)))))) (s:Int) : Tr (Int ⊕ (Unit ⊕ Unit)) true :=
 (.i10 (s < (nL x.2))
 (.i10 ((nL x.2) ≤ (20:Int))
 (.oI3 s x.2
 (.i00 ((nL (gT x.2 s (z0,(z0,[]))).2.2) > (20:Int))
 (.ret (.inr (Sum.inl ())))
 (.ret (.inl (w1 s)))))
 (.ret (.inr (Sum.inr (())))))
 (.ret (.inr (Sum.inr (())))))
def r15few (x : (((List I3) × ((List I2) × ((List I3) × (List I9)))) × (List (Int × (Int × (List Int)))))) : Bool :=
 (letV (run (r15few_l0_step x) (0:Int)) fun r =>
 (Sum.elim (fun a =>
 false) (fun b =>
 (if ((x.2.length:Int) ≤ (20:Int)) then
 (letV (r14few x.1) fun y =>
 (if (y = true) then
 (decide ((x.1.2.2.2.length:Int) ≤ (12:Int))) else
 false)) else
 false)) r))
def r15few_pre (x : (((List I3) × ((List I2) × ((List I3) × (List I9)))) × (List (Int × (Int × (List Int)))))) : Prop :=
 (Term (r15few_l0_step x) (r15few_l0_pre x) (0:Int))
def r15few_t (x : (((List I3) × ((List I2) × ((List I3) × (List I9)))) × (List (Int × (Int × (List Int)))))) : Tr Bool true :=
 (LoopD.lp (r15few_l0 x) (r15few_l0_t x) z0 fun r =>
 (.s00 r (fun a =>
 (.ret false)) (fun b =>
 (.i00 ((nL x.2) ≤ (20:Int))
 (.fn0 r14few_S x.1 trivial fun y =>
 (.b00 y
 (.ret (decide ((nL x.1.2.2.2) ≤ (12:Int))))
 (.ret false)))
 (.ret false)))))
abbrev r15few_S : FnS := ⟨(.pair (.agg (Ty.prod (Ty.sl yy3) (Ty.prod (Ty.sl yy2) (Ty.prod (Ty.sl yy3) (Ty.sl yy9))))) (.one (Ty.sl (Ty.prod yi (Ty.prod yi (Ty.sl yi)))))),(.one Ty.bool),r15few_pre,r15few⟩
theorem r15few_ok : SpecOk Try.prog 7 (fnSpec r15few_S) := SpecOk.tr r15few_S r15few_t (fn := Try.f7) tt_ok sp_r14few_ok mixed (by kernel_rfl) (ItsOk.nil _ _) (fun x => (LpsOk.tr tt_ok (SpecsOk.ctxI sp_r14few_ok (ItsOk.nil _ _)) mixed 0 (r15few_l0 x) (r15few_l0_t x) LpsOk.nil (by kernel_rfl) fun g s Q => (by kernel_rfl))) (fun x => (by kernel_rfl)) fun x Q => (by kernel_rfl)
def sp_r15few : List (Nat × Ev.Spec) := (7,fnSpec r15few_S) :: sp_r14few
theorem sp_r15few_ok : SpecsOk Try.prog sp_r15few := SpecsOk.add (fn := Try.f7) (by kernel_rfl) r15few_ok sp_r14few_ok
def r16big (x : ((List Int) × ((List I6) × I2))) : Bool :=
 (if ((x.1.length:Int) > (15:Int)) then
 true else
 (decide ((x.2.1.length:Int) > (15:Int))))
def r16big_pre (_ : ((List Int) × ((List I6) × I2))) : Prop := True
def r16big_t (x : ((List Int) × ((List I6) × I2))) : Tr Bool false :=
 (.i00 ((nL x.1) > (15:Int))
 (.ret true)
 (.ret (decide ((nL x.2.1) > (15:Int)))))
abbrev r16big_S : FnS := ⟨(.agg (Ty.prod (Ty.sl yi) (Ty.prod (Ty.sl yy6) yy2))),(.one Ty.bool),r16big_pre,r16big⟩
theorem r16big_ok : SpecOk Try.prog 14 (fnSpec r16big_S) := SpecOk.tr r16big_S r16big_t (fn := Try.f14) tt_ok sp_r15few_ok mixed (by kernel_rfl) (ItsOk.nil _ _) (fun x => LpsOk.nil) (fun x => (by kernel_rfl)) fun x Q => (by kernel_rfl)
def sp_r16big : List (Nat × Ev.Spec) := (14,fnSpec r16big_S) :: sp_r15few
theorem sp_r16big_ok : SpecsOk Try.prog sp_r16big := SpecsOk.add (fn := Try.f14) (by kernel_rfl) r16big_ok sp_r15few_ok
def r1same_l0 (x : ((List Int) × (List Int))) : LoopD := ⟨[],⟨pvs 26 0 [(0,.v (.one (.full 0))),(1,.v (.one (.full 1))),(5,.v (.one (.i .i64)))],[.row yi 0,.row yi 0],0,none,[],[1,2],[0],[.i],[.l yi x.1,.l yi x.2]⟩,[⟨.ret,.ret,⟨pvs 26 0 [(4,.v (.one (.b)))],[],0,none,[],[0],[],[],[.b false]⟩⟩,⟨(.exit 0),.normal,⟨pvs 26 0 [],[],0,none,[],[],[],[],[]⟩⟩]⟩
def r1same_l0_step (x : ((List Int) × (List Int))) (s:Int) : Int ⊕ (Unit ⊕ Unit) :=
 (if (s < (x.1.length:Int)) then
 (if (((List.getD x.1 (Int.toNat s) (0:Int)) != (List.getD x.2 (Int.toNat s) (0:Int))) = true) then
 (Sum.inr (Sum.inl ())) else
 (Sum.inl (w64 (s + (1:Int))))) else
 (Sum.inr (Sum.inr (()))))
def r1same_l0_pre (x : ((List Int) × (List Int))) (s:Int) : Prop :=
 ((s < (x.1.length:Int)) →
 ((((0:Int) ≤ s) ∧ (s < (x.1.length:Int))) ∧
 (((Int.toNat s) < (List.length x.1)) ∧
 (((Int.toNat s) < (List.length x.1)) ∧
 ((((0:Int) ≤ s) ∧ (s < (x.2.length:Int))) ∧
 (((Int.toNat s) < (List.length x.2)) ∧
 ((Int.toNat s) < (List.length x.2))))))))
def r1same_l0_t (x : ((List Int) × (List Int))) (s:Int) : Tr (Int ⊕ (Unit ⊕ Unit)) true :=
 (.i10 (s < (nL x.1))
 (.oI2 s x.1
 (.oI2 s x.2
 (.b00 ((gI x.1 s) != (gI x.2 s))
 (.ret (.inr (Sum.inl ())))
 (.ret (.inl (w1 s))))))
 (.ret (.inr (Sum.inr (())))))
def r1same (x : ((List Int) × (List Int))) : Bool :=
 (if (((x.1.length:Int) != (x.2.length:Int)) = true) then
 false else
 (letV (run (r1same_l0_step x) (0:Int)) fun r =>
 (Sum.elim (fun a =>
 false) (fun b =>
 true) r)))
def r1same_pre (x : ((List Int) × (List Int))) : Prop :=
 (¬ (((x.1.length:Int) != (x.2.length:Int)) = true) →
 (Term (r1same_l0_step x) (r1same_l0_pre x) (0:Int)))
def r1same_t (x : ((List Int) × (List Int))) : Tr Bool true :=
 (.b01 ((nL x.1) != (nL x.2))
 (.ret false)
 (LoopD.lp (r1same_l0 x) (r1same_l0_t x) z0 fun r =>
 (.s00 r (fun a =>
 (.ret false)) (fun b =>
 (.ret true)))))
abbrev r1same_S : FnS := ⟨(.pair (.one (Ty.sl yi)) (.one (Ty.sl yi))),(.one Ty.bool),r1same_pre,r1same⟩
theorem r1same_ok : SpecOk Try.prog 11 (fnSpec r1same_S) := SpecOk.tr r1same_S r1same_t (fn := Try.f11) tt_ok sp_r16big_ok mixed (by kernel_rfl) (ItsOk.nil _ _) (fun x => (LpsOk.tr tt_ok (SpecsOk.ctxI sp_r16big_ok (ItsOk.nil _ _)) mixed 0 (r1same_l0 x) (r1same_l0_t x) LpsOk.nil (by kernel_rfl) fun g s Q => (by kernel_rfl))) (fun x => (by kernel_rfl)) fun x Q => (by kernel_rfl)
def sp_r1same : List (Nat × Ev.Spec) := (11,fnSpec r1same_S) :: sp_r16big
theorem sp_r1same_ok : SpecsOk Try.prog sp_r1same := SpecsOk.add (fn := Try.f11) (by kernel_rfl) r1same_ok sp_r16big_ok
def l16laid (x : Bool) : Bool :=
 (letV (flay (([((5:Int),((5:Int),(0:Int))),((25:Int),((5:Int),(0:Int))),((5:Int),((21:Int),(0:Int)))],([],([],[(((0:Int),((-1:Int),(-1:Int))),(((1:Int),((-1:Int),(-1:Int))),((2:Int),((-1:Int),(-1:Int)))))]))),(((2:Int),((1:Int),[(0:Int)])),(2:Int)))) fun y =>
 (letV (flay (([((5:Int),((5:Int),(0:Int))),((25:Int),((5:Int),(0:Int))),((5:Int),((21:Int),(0:Int)))],([],([],[(((0:Int),((-1:Int),(-1:Int))),(((1:Int),((-1:Int),(-1:Int))),((2:Int),((-1:Int),(-1:Int)))))]))),(((1:Int),((1:Int),[(0:Int)])),(2:Int)))) fun y_1 =>
 (letV (fmove (y.1,((3:Int),(0:Int)))) fun y_2 =>
 (letV (fsize (16:Int)) fun y_3 =>
 (if ((y.2 != (0:Int)) = true) then
 false else
 (if ((y_2.2 != (0:Int)) = true) then
 false else
 (if (((y.1.2.1.length:Int) != (1:Int)) = true) then
 false else
 (if (((y_2.1.length:Int) != (1:Int)) = true) then
 false else
 (if (((((List.getD y.1.2.1 0 (((0:Int),(0:Int)),(((0:Int),(0:Int)),((0:Int),(0:Int))))).1.1 == (0:Int)) && (((List.getD y.1.2.1 0 (((0:Int),(0:Int)),(((0:Int),(0:Int)),((0:Int),(0:Int))))).1.2 == (0:Int)) && true)) && ((((List.getD y.1.2.1 0 (((0:Int),(0:Int)),(((0:Int),(0:Int)),((0:Int),(0:Int))))).2.1.1 == (40:Int)) && (((List.getD y.1.2.1 0 (((0:Int),(0:Int)),(((0:Int),(0:Int)),((0:Int),(0:Int))))).2.1.2 == (0:Int)) && true)) && ((((List.getD y.1.2.1 0 (((0:Int),(0:Int)),(((0:Int),(0:Int)),((0:Int),(0:Int))))).2.2.1 == (0:Int)) && (((List.getD y.1.2.1 0 (((0:Int),(0:Int)),(((0:Int),(0:Int)),((0:Int),(0:Int))))).2.2.2 == (32:Int)) && true)) && true))) = true) then
 (if ((y.1.2.2.1 == (3:Int)) = true) then
 (if ((y.1.2.2.2 == (3:Int)) = true) then
 (if ((y_1.2 == (1:Int)) = true) then
 (if ((((List.getD y_2.1 0 (((0:Int),(0:Int)),(((0:Int),(0:Int)),((0:Int),(0:Int))))).1.1 == (3:Int)) && (((List.getD y_2.1 0 (((0:Int),(0:Int)),(((0:Int),(0:Int)),((0:Int),(0:Int))))).1.2 == (0:Int)) && true)) = true) then
 (if ((y_3.1 == (2:Int)) = true) then
 (if ((y_3.2 == y.2) = true) then
 (letV (fis y.1) fun y_4 =>
 y_4) else
 false) else
 false) else
 false) else
 false) else
 false) else
 false) else
 false)))))))))
def l16laid_pre (x : Bool) : Prop :=
 ((flay_pre (([((5:Int),((5:Int),(0:Int))),((25:Int),((5:Int),(0:Int))),((5:Int),((21:Int),(0:Int)))],([],([],[(((0:Int),((-1:Int),(-1:Int))),(((1:Int),((-1:Int),(-1:Int))),((2:Int),((-1:Int),(-1:Int)))))]))),(((2:Int),((1:Int),[(0:Int)])),(2:Int)))) ∧
 letP (flay (([((5:Int),((5:Int),(0:Int))),((25:Int),((5:Int),(0:Int))),((5:Int),((21:Int),(0:Int)))],([],([],[(((0:Int),((-1:Int),(-1:Int))),(((1:Int),((-1:Int),(-1:Int))),((2:Int),((-1:Int),(-1:Int)))))]))),(((2:Int),((1:Int),[(0:Int)])),(2:Int)))) fun y =>
 ((flay_pre (([((5:Int),((5:Int),(0:Int))),((25:Int),((5:Int),(0:Int))),((5:Int),((21:Int),(0:Int)))],([],([],[(((0:Int),((-1:Int),(-1:Int))),(((1:Int),((-1:Int),(-1:Int))),((2:Int),((-1:Int),(-1:Int)))))]))),(((1:Int),((1:Int),[(0:Int)])),(2:Int)))) ∧
 letP (flay (([((5:Int),((5:Int),(0:Int))),((25:Int),((5:Int),(0:Int))),((5:Int),((21:Int),(0:Int)))],([],([],[(((0:Int),((-1:Int),(-1:Int))),(((1:Int),((-1:Int),(-1:Int))),((2:Int),((-1:Int),(-1:Int)))))]))),(((1:Int),((1:Int),[(0:Int)])),(2:Int)))) fun y_1 =>
 ((fmove_pre (y.1,((3:Int),(0:Int)))) ∧
 letP (fmove (y.1,((3:Int),(0:Int)))) fun y_2 =>
 (letP (fsize (16:Int)) fun y_3 =>
 (¬ ((y.2 != (0:Int)) = true) →
 (¬ ((y_2.2 != (0:Int)) = true) →
 (¬ (((y.1.2.1.length:Int) != (1:Int)) = true) →
 (¬ (((y_2.1.length:Int) != (1:Int)) = true) →
 (((0:Int) < (y.1.2.1.length:Int)) ∧
 ((0 < (List.length y.1.2.1)) ∧
 ((0 < (List.length y.1.2.1)) ∧
 ((((((List.getD y.1.2.1 0 (((0:Int),(0:Int)),(((0:Int),(0:Int)),((0:Int),(0:Int))))).1.1 == (0:Int)) && (((List.getD y.1.2.1 0 (((0:Int),(0:Int)),(((0:Int),(0:Int)),((0:Int),(0:Int))))).1.2 == (0:Int)) && true)) && ((((List.getD y.1.2.1 0 (((0:Int),(0:Int)),(((0:Int),(0:Int)),((0:Int),(0:Int))))).2.1.1 == (40:Int)) && (((List.getD y.1.2.1 0 (((0:Int),(0:Int)),(((0:Int),(0:Int)),((0:Int),(0:Int))))).2.1.2 == (0:Int)) && true)) && ((((List.getD y.1.2.1 0 (((0:Int),(0:Int)),(((0:Int),(0:Int)),((0:Int),(0:Int))))).2.2.1 == (0:Int)) && (((List.getD y.1.2.1 0 (((0:Int),(0:Int)),(((0:Int),(0:Int)),((0:Int),(0:Int))))).2.2.2 == (32:Int)) && true)) && true))) = true) →
 (((y.1.2.2.1 == (3:Int)) = true) →
 (((y.1.2.2.2 == (3:Int)) = true) →
 (((y_1.2 == (1:Int)) = true) →
 (((0:Int) < (y_2.1.length:Int)) ∧
 ((0 < (List.length y_2.1)) ∧
 ((0 < (List.length y_2.1)) ∧
 ((0 < (List.length y_2.1)) ∧
 (((((List.getD y_2.1 0 (((0:Int),(0:Int)),(((0:Int),(0:Int)),((0:Int),(0:Int))))).1.1 == (3:Int)) && (((List.getD y_2.1 0 (((0:Int),(0:Int)),(((0:Int),(0:Int)),((0:Int),(0:Int))))).1.2 == (0:Int)) && true)) = true) →
 (((y_3.1 == (2:Int)) = true) →
 (((y_3.2 == y.2) = true) →
 (fis_pre y.1)))))))))))))))))))))))
def l16laid_t (x : Bool) : Tr Bool true :=
 (.fn flay_S (([((5:Int),((5:Int),z0)),((25:Int),((5:Int),z0)),((5:Int),((21:Int),z0))],([],([],[((z0,((-1:Int),(-1:Int))),((z1,((-1:Int),(-1:Int))),((2:Int),((-1:Int),(-1:Int)))))]))),(((2:Int),(z1,[z0])),(2:Int))) fun y =>
 (.fn flay_S (([((5:Int),((5:Int),z0)),((25:Int),((5:Int),z0)),((5:Int),((21:Int),z0))],([],([],[((z0,((-1:Int),(-1:Int))),((z1,((-1:Int),(-1:Int))),((2:Int),((-1:Int),(-1:Int)))))]))),((z1,(z1,[z0])),(2:Int))) fun y_1 =>
 (.fn fmove_S (y.1,((3:Int),z0)) fun y_2 =>
 (.fn0 fsize_S (16:Int) trivial fun y_3 =>
 (.b01 (y.2 != z0)
 (.ret false)
 (.b01 (y_2.2 != z0)
 (.ret false)
 (.b01 ((nL y.1.2.1) != z1)
 (.ret false)
 (.b01 ((nL y_2.1) != z1)
 (.ret false)
 (.og (true && (decide (z0 < (nL y.1.2.1)))) (z0 < (nL y.1.2.1)) (fun h => (and_t rfl (decide_eq_true h)))
 (.od (0 < (List.length y.1.2.1))
 (.od (0 < (List.length y.1.2.1))
 (.b10 ((((List.getD y.1.2.1 0 zz6).1.1 == z0) && (((List.getD y.1.2.1 0 zz6).1.2 == z0) && true)) && ((((List.getD y.1.2.1 0 zz6).2.1.1 == (40:Int)) && (((List.getD y.1.2.1 0 zz6).2.1.2 == z0) && true)) && ((((List.getD y.1.2.1 0 zz6).2.2.1 == z0) && (((List.getD y.1.2.1 0 zz6).2.2.2 == (32:Int)) && true)) && true)))
 (.b10 (y.1.2.2.1 == (3:Int))
 (.b10 (y.1.2.2.2 == (3:Int))
 (.b10 (y_1.2 == z1)
 (.og (true && (decide (z0 < (nL y_2.1)))) (z0 < (nL y_2.1)) (fun h => (and_t rfl (decide_eq_true h)))
 (.od (0 < (List.length y_2.1))
 (.od (0 < (List.length y_2.1))
 (.od (0 < (List.length y_2.1))
 (.b10 (((List.getD y_2.1 0 zz6).1.1 == (3:Int)) && (((List.getD y_2.1 0 zz6).1.2 == z0) && true))
 (.b10 (y_3.1 == (2:Int))
 (.b10 (y_3.2 == y.2)
 (.fn fis_S y.1 fun y_4 =>
 (.ret y_4))
 (.ret false))
 (.ret false))
 (.ret false))))))
 (.ret false))
 (.ret false))
 (.ret false))
 (.ret false)))))))))))))
abbrev l16laid_S : FnS := ⟨.none,(.one Ty.bool),l16laid_pre,l16laid⟩
theorem l16laid_ok : SpecOk Try.prog 9 (fnSpec l16laid_S) := SpecOk.tr l16laid_S l16laid_t (fn := Try.f9) tt_ok sp_r1same_ok mixed (by kernel_rfl) (ItsOk.nil _ _) (fun x => LpsOk.nil) (fun x => (by kernel_rfl)) fun x Q => (by kernel_rfl)
def sp_l16laid : List (Nat × Ev.Spec) := (9,fnSpec l16laid_S) :: sp_r1same
theorem sp_l16laid_ok : SpecsOk Try.prog sp_l16laid := SpecsOk.add (fn := Try.f9) (by kernel_rfl) l16laid_ok sp_r1same_ok
end Go.Proofs.Ytpbbnoggkbfkoaa
