/- Models of law 14's EdgeThree. -/
import Derived.Test.YtleemdeodmdnkaaEg
noncomputable section
set_option linter.unusedSectionVars false
set_option linter.unusedVariables false
set_option linter.unusedSimpArgs false
namespace Go.Proofs.Ytleemdeodmdnkaa
open Go Go.Ev Go.Proofs
def edgeThree_l0 (x : ((List I3) × ((List I2) × ((List I3) × (List I9))))) : LoopD := ⟨[],⟨pvs 247 0 [(1,.v (.one (.ptr 0 0))),(3,.v (.one (.full 5))),(5,.v (.one (.i .i64)))],[.cells [.full 1,.full 2,.full 3,.full 4] 26,.row yy3 0,.row yy2 0,.row yy3 0,.row yy9 0,.row (Ty.prod yi (Ty.prod yi (Ty.sl yi))) 2],0,none,[],[1,2,3,4],[5,0],[(.l (Ty.prod yi (Ty.prod yi (Ty.sl yi)))),.i],[.l yy3 x.1,.l yy2 x.2.1,.l yy3 x.2.2.1,.l yy9 x.2.2.2]⟩,[⟨.ret,.ret,⟨pvs 247 0 [(2,.v (.one (.b)))],[],0,none,[],[0],[],[],[.b false]⟩⟩,⟨(.exit 0),.normal,⟨pvs 247 0 [(1,.v (.one (.ptr 0 0))),(3,.v (.one (.full 5)))],[.cells [.full 1,.full 2,.full 3,.full 4] 26,.row yy3 0,.row yy2 0,.row yy3 0,.row yy9 0,.row (Ty.prod yi (Ty.prod yi (Ty.sl yi))) 2],0,none,[],[0,1,2,3],[4],[(.l (Ty.prod yi (Ty.prod yi (Ty.sl yi))))],[.l yy3 x.1,.l yy2 x.2.1,.l yy3 x.2.2.1,.l yy9 x.2.2.2]⟩⟩]⟩
def edgeThree_l0_step (x : ((List I3) × ((List I2) × ((List I3) × (List I9))))) (s : ((List (Int × (Int × (List Int)))) × Int)) : ((List (Int × (Int × (List Int)))) × Int) ⊕ (Unit ⊕ (List (Int × (Int × (List Int))))) :=
 (if (s.2 < (s.1.length:Int)) then
 (if ((List.getD s.1 (Int.toNat s.2) ((0:Int),((0:Int),[]))).1 ≥ (List.getD s.1 (Int.toNat s.2) ((0:Int),((0:Int),[]))).2.1) then
 (Sum.inr (Sum.inl ())) else
 (if ((List.getD s.1 (Int.toNat s.2) ((0:Int),((0:Int),[]))).1 < (0:Int)) then
 (Sum.inr (Sum.inl ())) else
 (if ((List.getD s.1 (Int.toNat s.2) ((0:Int),((0:Int),[]))).2.1 ≥ (x.1.length:Int)) then
 (Sum.inr (Sum.inl ())) else
 (if ((((List.getD s.1 (Int.toNat s.2) ((0:Int),((0:Int),[]))).2.2.length:Int) == (0:Int)) = true) then
 (Sum.inr (Sum.inl ())) else
 (if (s.2 > (0:Int)) then
 (if ((List.getD s.1 (Int.toNat (w64 (s.2 - (1:Int)))) ((0:Int),((0:Int),[]))).1 > (List.getD s.1 (Int.toNat s.2) ((0:Int),((0:Int),[]))).1) then
 (Sum.inr (Sum.inl ())) else
 (if (((List.getD s.1 (Int.toNat (w64 (s.2 - (1:Int)))) ((0:Int),((0:Int),[]))).1 == (List.getD s.1 (Int.toNat s.2) ((0:Int),((0:Int),[]))).1) = true) then
 (if ((List.getD s.1 (Int.toNat (w64 (s.2 - (1:Int)))) ((0:Int),((0:Int),[]))).2.1 ≥ (List.getD s.1 (Int.toNat s.2) ((0:Int),((0:Int),[]))).2.1) then
 (Sum.inr (Sum.inl ())) else
 (letV (efind (s.1,((List.getD s.1 (Int.toNat s.2) ((0:Int),((0:Int),[]))).2.1,(List.getD s.1 (Int.toNat s.2) ((0:Int),((0:Int),[]))).1))) fun y =>
 (if ((!y.2) = true) then
 (Sum.inr (Sum.inl ())) else
 (letV (same01 (y.1.2.2,(List.getD s.1 (Int.toNat s.2) ((0:Int),((0:Int),[]))).2.2)) fun y_1 =>
 (if ((!y_1) = true) then
 (Sum.inr (Sum.inl ())) else
 (Sum.inl (s.1,(w64 (s.2 + (1:Int)))))))))) else
 (letV (efind (s.1,((List.getD s.1 (Int.toNat s.2) ((0:Int),((0:Int),[]))).2.1,(List.getD s.1 (Int.toNat s.2) ((0:Int),((0:Int),[]))).1))) fun y =>
 (if ((!y.2) = true) then
 (Sum.inr (Sum.inl ())) else
 (letV (same01 (y.1.2.2,(List.getD s.1 (Int.toNat s.2) ((0:Int),((0:Int),[]))).2.2)) fun y_1 =>
 (if ((!y_1) = true) then
 (Sum.inr (Sum.inl ())) else
 (Sum.inl (s.1,(w64 (s.2 + (1:Int))))))))))) else
 (letV (efind (s.1,((List.getD s.1 (Int.toNat s.2) ((0:Int),((0:Int),[]))).2.1,(List.getD s.1 (Int.toNat s.2) ((0:Int),((0:Int),[]))).1))) fun y =>
 (if ((!y.2) = true) then
 (Sum.inr (Sum.inl ())) else
 (letV (same01 (y.1.2.2,(List.getD s.1 (Int.toNat s.2) ((0:Int),((0:Int),[]))).2.2)) fun y_1 =>
 (if ((!y_1) = true) then
 (Sum.inr (Sum.inl ())) else
 (Sum.inl (s.1,(w64 (s.2 + (1:Int)))))))))))))) else
 (Sum.inr (Sum.inr (s.1))))
def edgeThree_l0_pre (x : ((List I3) × ((List I2) × ((List I3) × (List I9))))) (s : ((List (Int × (Int × (List Int)))) × Int)) : Prop :=
 ((s.2 < (s.1.length:Int)) →
 ((((0:Int) ≤ s.2) ∧ (s.2 < (s.1.length:Int))) ∧
 (((Int.toNat s.2) < (List.length s.1)) ∧
 (((Int.toNat s.2) < (List.length s.1)) ∧
 (((Int.toNat s.2) < (List.length s.1)) ∧
 ((((0:Int) ≤ s.2) ∧ (s.2 < (s.1.length:Int))) ∧
 (((Int.toNat s.2) < (List.length s.1)) ∧
 (((Int.toNat s.2) < (List.length s.1)) ∧
 (((Int.toNat s.2) < (List.length s.1)) ∧
 (¬ ((List.getD s.1 (Int.toNat s.2) ((0:Int),((0:Int),[]))).1 ≥ (List.getD s.1 (Int.toNat s.2) ((0:Int),((0:Int),[]))).2.1) →
 ((((0:Int) ≤ s.2) ∧ (s.2 < (s.1.length:Int))) ∧
 (((Int.toNat s.2) < (List.length s.1)) ∧
 (((Int.toNat s.2) < (List.length s.1)) ∧
 (((Int.toNat s.2) < (List.length s.1)) ∧
 (¬ ((List.getD s.1 (Int.toNat s.2) ((0:Int),((0:Int),[]))).1 < (0:Int)) →
 ((((0:Int) ≤ s.2) ∧ (s.2 < (s.1.length:Int))) ∧
 (((Int.toNat s.2) < (List.length s.1)) ∧
 (((Int.toNat s.2) < (List.length s.1)) ∧
 (((Int.toNat s.2) < (List.length s.1)) ∧
 (¬ ((List.getD s.1 (Int.toNat s.2) ((0:Int),((0:Int),[]))).2.1 ≥ (x.1.length:Int)) →
 ((((0:Int) ≤ s.2) ∧ (s.2 < (s.1.length:Int))) ∧
 (((Int.toNat s.2) < (List.length s.1)) ∧
 (((Int.toNat s.2) < (List.length s.1)) ∧
 (((Int.toNat s.2) < (List.length s.1)) ∧
 (¬ ((((List.getD s.1 (Int.toNat s.2) ((0:Int),((0:Int),[]))).2.2.length:Int) == (0:Int)) = true) →
 (((s.2 > (0:Int)) →
 ((((0:Int) ≤ (w64 (s.2 - (1:Int)))) ∧ ((w64 (s.2 - (1:Int))) < (s.1.length:Int))) ∧
 (((Int.toNat (w64 (s.2 - (1:Int)))) < (List.length s.1)) ∧
 (((Int.toNat (w64 (s.2 - (1:Int)))) < (List.length s.1)) ∧
 (((Int.toNat (w64 (s.2 - (1:Int)))) < (List.length s.1)) ∧
 ((((0:Int) ≤ s.2) ∧ (s.2 < (s.1.length:Int))) ∧
 (((Int.toNat s.2) < (List.length s.1)) ∧
 (((Int.toNat s.2) < (List.length s.1)) ∧
 (((Int.toNat s.2) < (List.length s.1)) ∧
 (¬ ((List.getD s.1 (Int.toNat (w64 (s.2 - (1:Int)))) ((0:Int),((0:Int),[]))).1 > (List.getD s.1 (Int.toNat s.2) ((0:Int),((0:Int),[]))).1) →
 ((((0:Int) ≤ (w64 (s.2 - (1:Int)))) ∧ ((w64 (s.2 - (1:Int))) < (s.1.length:Int))) ∧
 (((Int.toNat (w64 (s.2 - (1:Int)))) < (List.length s.1)) ∧
 (((Int.toNat (w64 (s.2 - (1:Int)))) < (List.length s.1)) ∧
 (((Int.toNat (w64 (s.2 - (1:Int)))) < (List.length s.1)) ∧
 ((((0:Int) ≤ s.2) ∧ (s.2 < (s.1.length:Int))) ∧
 (((Int.toNat s.2) < (List.length s.1)) ∧
 (((Int.toNat s.2) < (List.length s.1)) ∧
 (((Int.toNat s.2) < (List.length s.1)) ∧
 (((((List.getD s.1 (Int.toNat (w64 (s.2 - (1:Int)))) ((0:Int),((0:Int),[]))).1 == (List.getD s.1 (Int.toNat s.2) ((0:Int),((0:Int),[]))).1) = true) →
 ((((0:Int) ≤ (w64 (s.2 - (1:Int)))) ∧ ((w64 (s.2 - (1:Int))) < (s.1.length:Int))) ∧
 (((Int.toNat (w64 (s.2 - (1:Int)))) < (List.length s.1)) ∧
 (((Int.toNat (w64 (s.2 - (1:Int)))) < (List.length s.1)) ∧
 (((Int.toNat (w64 (s.2 - (1:Int)))) < (List.length s.1)) ∧
 ((((0:Int) ≤ s.2) ∧ (s.2 < (s.1.length:Int))) ∧
 (((Int.toNat s.2) < (List.length s.1)) ∧
 (((Int.toNat s.2) < (List.length s.1)) ∧
 (((Int.toNat s.2) < (List.length s.1)) ∧
 (¬ ((List.getD s.1 (Int.toNat (w64 (s.2 - (1:Int)))) ((0:Int),((0:Int),[]))).2.1 ≥ (List.getD s.1 (Int.toNat s.2) ((0:Int),((0:Int),[]))).2.1) →
 ((((0:Int) ≤ s.2) ∧ (s.2 < (s.1.length:Int))) ∧
 (((Int.toNat s.2) < (List.length s.1)) ∧
 (((Int.toNat s.2) < (List.length s.1)) ∧
 (((Int.toNat s.2) < (List.length s.1)) ∧
 ((((0:Int) ≤ s.2) ∧ (s.2 < (s.1.length:Int))) ∧
 (((Int.toNat s.2) < (List.length s.1)) ∧
 (((Int.toNat s.2) < (List.length s.1)) ∧
 (((Int.toNat s.2) < (List.length s.1)) ∧
 ((efind_pre (s.1,((List.getD s.1 (Int.toNat s.2) ((0:Int),((0:Int),[]))).2.1,(List.getD s.1 (Int.toNat s.2) ((0:Int),((0:Int),[]))).1))) ∧
 letP (efind (s.1,((List.getD s.1 (Int.toNat s.2) ((0:Int),((0:Int),[]))).2.1,(List.getD s.1 (Int.toNat s.2) ((0:Int),((0:Int),[]))).1))) fun y =>
 (¬ ((!y.2) = true) →
 ((((0:Int) ≤ s.2) ∧ (s.2 < (s.1.length:Int))) ∧
 (((Int.toNat s.2) < (List.length s.1)) ∧
 (((Int.toNat s.2) < (List.length s.1)) ∧
 (((Int.toNat s.2) < (List.length s.1)) ∧
 (same01_pre (y.1.2.2,(List.getD s.1 (Int.toNat s.2) ((0:Int),((0:Int),[]))).2.2)))))))))))))))))))))))))) ∧
 (¬ (((List.getD s.1 (Int.toNat (w64 (s.2 - (1:Int)))) ((0:Int),((0:Int),[]))).1 == (List.getD s.1 (Int.toNat s.2) ((0:Int),((0:Int),[]))).1) = true) →
 ((((0:Int) ≤ s.2) ∧ (s.2 < (s.1.length:Int))) ∧
 (((Int.toNat s.2) < (List.length s.1)) ∧
 (((Int.toNat s.2) < (List.length s.1)) ∧
 (((Int.toNat s.2) < (List.length s.1)) ∧
 ((((0:Int) ≤ s.2) ∧ (s.2 < (s.1.length:Int))) ∧
 (((Int.toNat s.2) < (List.length s.1)) ∧
 (((Int.toNat s.2) < (List.length s.1)) ∧
 (((Int.toNat s.2) < (List.length s.1)) ∧
 ((efind_pre (s.1,((List.getD s.1 (Int.toNat s.2) ((0:Int),((0:Int),[]))).2.1,(List.getD s.1 (Int.toNat s.2) ((0:Int),((0:Int),[]))).1))) ∧
 letP (efind (s.1,((List.getD s.1 (Int.toNat s.2) ((0:Int),((0:Int),[]))).2.1,(List.getD s.1 (Int.toNat s.2) ((0:Int),((0:Int),[]))).1))) fun y =>
 (¬ ((!y.2) = true) →
 ((((0:Int) ≤ s.2) ∧ (s.2 < (s.1.length:Int))) ∧
 (((Int.toNat s.2) < (List.length s.1)) ∧
 (((Int.toNat s.2) < (List.length s.1)) ∧
 (((Int.toNat s.2) < (List.length s.1)) ∧
 (same01_pre (y.1.2.2,(List.getD s.1 (Int.toNat s.2) ((0:Int),((0:Int),[]))).2.2)))))))))))))))))))))))))))))))))))) ∧
 (¬ (s.2 > (0:Int)) →
 ((((0:Int) ≤ s.2) ∧ (s.2 < (s.1.length:Int))) ∧
 (((Int.toNat s.2) < (List.length s.1)) ∧
 (((Int.toNat s.2) < (List.length s.1)) ∧
 (((Int.toNat s.2) < (List.length s.1)) ∧
 ((((0:Int) ≤ s.2) ∧ (s.2 < (s.1.length:Int))) ∧
 (((Int.toNat s.2) < (List.length s.1)) ∧
 (((Int.toNat s.2) < (List.length s.1)) ∧
 (((Int.toNat s.2) < (List.length s.1)) ∧
 ((efind_pre (s.1,((List.getD s.1 (Int.toNat s.2) ((0:Int),((0:Int),[]))).2.1,(List.getD s.1 (Int.toNat s.2) ((0:Int),((0:Int),[]))).1))) ∧
 letP (efind (s.1,((List.getD s.1 (Int.toNat s.2) ((0:Int),((0:Int),[]))).2.1,(List.getD s.1 (Int.toNat s.2) ((0:Int),((0:Int),[]))).1))) fun y =>
 (¬ ((!y.2) = true) →
 ((((0:Int) ≤ s.2) ∧ (s.2 < (s.1.length:Int))) ∧
 (((Int.toNat s.2) < (List.length s.1)) ∧
 (((Int.toNat s.2) < (List.length s.1)) ∧
 (((Int.toNat s.2) < (List.length s.1)) ∧
 (same01_pre (y.1.2.2,(List.getD s.1 (Int.toNat s.2) ((0:Int),((0:Int),[]))).2.2)))))))))))))))))))))))))))))))))))))))))))
def edgeThree_l0_t (x : ((List I3) × ((List I2) × ((List I3) × (List I9))))) (s : ((List (Int × (Int × (List Int)))) × Int)) : Tr (((List (Int × (Int × (List Int)))) × Int) ⊕ (Unit ⊕ (List (Int × (Int × (List Int)))))) true :=
 (.i10 (s.2 < (nL s.1))
 (.oI3 s.2 s.1
 (.oI3 s.2 s.1
 (.i01 ((gT s.1 s.2 (z0,(z0,[]))).1 ≥ (gT s.1 s.2 (z0,(z0,[]))).2.1)
 (.ret (.inr (Sum.inl ())))
 (.oI3 s.2 s.1
 (.i01 ((gT s.1 s.2 (z0,(z0,[]))).1 < z0)
 (.ret (.inr (Sum.inl ())))
 (.oI3 s.2 s.1
 (.i01 ((gT s.1 s.2 (z0,(z0,[]))).2.1 ≥ (nL x.1))
 (.ret (.inr (Sum.inl ())))
 (.oI3 s.2 s.1
 (.b01 ((nL (gT s.1 s.2 (z0,(z0,[]))).2.2) == z0)
 (.ret (.inr (Sum.inl ())))
 (.i11 (s.2 > z0)
 (.oI3 (wm s.2) s.1
 (.oI3 s.2 s.1
 (.i01 ((gT s.1 (wm s.2) (z0,(z0,[]))).1 > (gT s.1 s.2 (z0,(z0,[]))).1)
 (.ret (.inr (Sum.inl ())))
 (.oI3 (wm s.2) s.1
 (.oI3 s.2 s.1
 (.b11 ((gT s.1 (wm s.2) (z0,(z0,[]))).1 == (gT s.1 s.2 (z0,(z0,[]))).1)
 (.oI3 (wm s.2) s.1
 (.oI3 s.2 s.1
 (.i01 ((gT s.1 (wm s.2) (z0,(z0,[]))).2.1 ≥ (gT s.1 s.2 (z0,(z0,[]))).2.1)
 (.ret (.inr (Sum.inl ())))
 (.oI3 s.2 s.1
 (.oI3 s.2 s.1
 (.fn efind_S (s.1,((gT s.1 s.2 (z0,(z0,[]))).2.1,(gT s.1 s.2 (z0,(z0,[]))).1)) fun y =>
 (.b01 (!y.2)
 (.ret (.inr (Sum.inl ())))
 (.oI3 s.2 s.1
 (.fn same01_S (y.1.2.2,(gT s.1 s.2 (z0,(z0,[]))).2.2) fun y_1 =>
 (.b00 (!y_1)
 (.ret (.inr (Sum.inl ())))
 (.ret (.inl (s.1,(w1 s.2))))))))))))))
 (.oI3 s.2 s.1
 (.oI3 s.2 s.1
 (.fn efind_S (s.1,((gT s.1 s.2 (z0,(z0,[]))).2.1,(gT s.1 s.2 (z0,(z0,[]))).1)) fun y =>
 (.b01 (!y.2)
 (.ret (.inr (Sum.inl ())))
 (.oI3 s.2 s.1
 (.fn same01_S (y.1.2.2,(gT s.1 s.2 (z0,(z0,[]))).2.2) fun y_1 =>
 (.b00 (!y_1)
 (.ret (.inr (Sum.inl ())))
 (.ret (.inl (s.1,(w1 s.2)))))))))))))))))
 (.oI3 s.2 s.1
 (.oI3 s.2 s.1
 (.fn efind_S (s.1,((gT s.1 s.2 (z0,(z0,[]))).2.1,(gT s.1 s.2 (z0,(z0,[]))).1)) fun y =>
 (.b01 (!y.2)
 (.ret (.inr (Sum.inl ())))
 (.oI3 s.2 s.1
 (.fn same01_S (y.1.2.2,(gT s.1 s.2 (z0,(z0,[]))).2.2) fun y_1 =>
 (.b00 (!y_1)
 (.ret (.inr (Sum.inl ())))
 (.ret (.inl (s.1,(w1 s.2)))))))))))))))))))))
 (.ret (.inr (Sum.inr (s.1)))))
def edgeThree_l4 (x : ((List I3) × ((List I2) × ((List I3) × (List I9))))) : LoopD := ⟨[],⟨pvs 247 0 [(1,.v (.one (.ptr 0 0))),(3,.v (.one (.full 5))),(8,.v (.one (.i .i64))),(9,.v (.one (.i .i64))),(10,.v (.one (.i .i64)))],[.cells [.full 1,.full 2,.full 3,.full 4] 26,.row yy3 0,.row yy2 0,.row yy3 0,.row yy9 0,.row (Ty.prod yi (Ty.prod yi (Ty.sl yi))) 2],0,none,[],[3,4,5,6],[7,0,1,2],[(.l (Ty.prod yi (Ty.prod yi (Ty.sl yi)))),.i,.i,.i],[.l yy3 x.1,.l yy2 x.2.1,.l yy3 x.2.2.1,.l yy9 x.2.2.2]⟩,[⟨(.exit 4),.normal,⟨pvs 247 0 [(1,.v (.one (.ptr 0 0))),(3,.v (.one (.full 5))),(8,.v (.one (.i .i64))),(9,.v (.one (.i .i64)))],[.cells [.full 1,.full 2,.full 3,.full 4] 26,.row yy3 0,.row yy2 0,.row yy3 0,.row yy9 0,.row (Ty.prod yi (Ty.prod yi (Ty.sl yi))) 2],0,none,[],[2,3,4,5],[6,0,1],[(.l (Ty.prod yi (Ty.prod yi (Ty.sl yi)))),.i,.i],[.l yy3 x.1,.l yy2 x.2.1,.l yy3 x.2.2.1,.l yy9 x.2.2.2]⟩⟩]⟩
def edgeThree_l4_step (x : ((List I3) × ((List I2) × ((List I3) × (List I9))))) (s : ((List (Int × (Int × (List Int)))) × I3)) : ((List (Int × (Int × (List Int)))) × I3) ⊕ ((List (Int × (Int × (List Int)))) × I2) :=
 (if (s.2.2.2 < (s.1.length:Int)) then
 (letV (in14 ((List.getD s.1 (Int.toNat s.2.2.2) ((0:Int),((0:Int),[]))).2.2,s.2.1)) fun y =>
 (if (y = true) then
 (Sum.inl (s.1,(s.2.1,((w64 (s.2.2.1 + (1:Int))),(w64 (s.2.2.2 + (1:Int))))))) else
 (Sum.inl (s.1,(s.2.1,(s.2.2.1,(w64 (s.2.2.2 + (1:Int))))))))) else
 (Sum.inr ((s.1,(s.2.1,s.2.2.1)))))
def edgeThree_l4_pre (x : ((List I3) × ((List I2) × ((List I3) × (List I9))))) (s : ((List (Int × (Int × (List Int)))) × I3)) : Prop :=
 ((s.2.2.2 < (s.1.length:Int)) →
 ((((0:Int) ≤ s.2.2.2) ∧ (s.2.2.2 < (s.1.length:Int))) ∧
 (((Int.toNat s.2.2.2) < (List.length s.1)) ∧
 (((Int.toNat s.2.2.2) < (List.length s.1)) ∧
 (((Int.toNat s.2.2.2) < (List.length s.1)) ∧
 (in14_pre ((List.getD s.1 (Int.toNat s.2.2.2) ((0:Int),((0:Int),[]))).2.2,s.2.1)))))))
def edgeThree_l4_t (x : ((List I3) × ((List I2) × ((List I3) × (List I9))))) (s : ((List (Int × (Int × (List Int)))) × I3)) : Tr (((List (Int × (Int × (List Int)))) × I3) ⊕ ((List (Int × (Int × (List Int)))) × I2)) true :=
 (.i10 (s.2.2.2 < (nL s.1))
 (.oI3 s.2.2.2 s.1
 (.fn in14_S ((gT s.1 s.2.2.2 (z0,(z0,[]))).2.2,s.2.1) fun y =>
 (.b00 y
 (.ret (.inl (s.1,(s.2.1,((w1 s.2.2.1),(w1 s.2.2.2))))))
 (.ret (.inl (s.1,(s.2.1,(s.2.2.1,(w1 s.2.2.2)))))))))
 (.ret (.inr ((s.1,(s.2.1,s.2.2.1))))))
def edgeThree_l2 (x : ((List I3) × ((List I2) × ((List I3) × (List I9))))) : LoopD := ⟨[],⟨pvs 247 0 [(1,.v (.one (.ptr 0 0))),(3,.v (.one (.full 5))),(8,.v (.one (.i .i64)))],[.cells [.full 1,.full 2,.full 3,.full 4] 26,.row yy3 0,.row yy2 0,.row yy3 0,.row yy9 0,.row (Ty.prod yi (Ty.prod yi (Ty.sl yi))) 2],0,none,[],[1,2,3,4],[5,0],[(.l (Ty.prod yi (Ty.prod yi (Ty.sl yi)))),.i],[.l yy3 x.1,.l yy2 x.2.1,.l yy3 x.2.2.1,.l yy9 x.2.2.2]⟩,[⟨.ret,.ret,⟨pvs 247 0 [(2,.v (.one (.b)))],[],0,none,[],[0],[],[],[.b false]⟩⟩,⟨(.exit 2),.normal,⟨pvs 247 0 [],[],0,none,[],[],[],[],[]⟩⟩]⟩
def edgeThree_l2_step (x : ((List I3) × ((List I2) × ((List I3) × (List I9))))) (s : ((List (Int × (Int × (List Int)))) × Int)) : ((List (Int × (Int × (List Int)))) × Int) ⊕ (Unit ⊕ Unit) :=
 (if (s.2 < (x.2.2.2.length:Int)) then
 (letV (run (edgeThree_l4_step x) (s.1,(s.2,((0:Int),(0:Int))))) fun r =>
 (if (((List.getD x.2.2.2 (Int.toNat r.2.1) (((0:Int),((0:Int),(0:Int))),(((0:Int),((0:Int),(0:Int))),((0:Int),((0:Int),(0:Int)))))).1.1 != (List.getD x.2.2.2 (Int.toNat r.2.1) (((0:Int),((0:Int),(0:Int))),(((0:Int),((0:Int),(0:Int))),((0:Int),((0:Int),(0:Int)))))).2.1.1) = true) then
 (if (((List.getD x.2.2.2 (Int.toNat r.2.1) (((0:Int),((0:Int),(0:Int))),(((0:Int),((0:Int),(0:Int))),((0:Int),((0:Int),(0:Int)))))).2.1.1 != (List.getD x.2.2.2 (Int.toNat r.2.1) (((0:Int),((0:Int),(0:Int))),(((0:Int),((0:Int),(0:Int))),((0:Int),((0:Int),(0:Int)))))).2.2.1) = true) then
 (if (((List.getD x.2.2.2 (Int.toNat r.2.1) (((0:Int),((0:Int),(0:Int))),(((0:Int),((0:Int),(0:Int))),((0:Int),((0:Int),(0:Int)))))).1.1 == (List.getD x.2.2.2 (Int.toNat r.2.1) (((0:Int),((0:Int),(0:Int))),(((0:Int),((0:Int),(0:Int))),((0:Int),((0:Int),(0:Int)))))).2.1.1) = true) then
 (if (((List.getD x.2.2.2 (Int.toNat r.2.1) (((0:Int),((0:Int),(0:Int))),(((0:Int),((0:Int),(0:Int))),((0:Int),((0:Int),(0:Int)))))).1.1 != (List.getD x.2.2.2 (Int.toNat r.2.1) (((0:Int),((0:Int),(0:Int))),(((0:Int),((0:Int),(0:Int))),((0:Int),((0:Int),(0:Int)))))).2.2.1) = true) then
 (if ((r.2.2 != (3:Int)) = true) then
 (Sum.inr (Sum.inl ())) else
 (if (((List.getD x.2.2.2 (Int.toNat r.2.1) (((0:Int),((0:Int),(0:Int))),(((0:Int),((0:Int),(0:Int))),((0:Int),((0:Int),(0:Int)))))).2.1.1 == (List.getD x.2.2.2 (Int.toNat r.2.1) (((0:Int),((0:Int),(0:Int))),(((0:Int),((0:Int),(0:Int))),((0:Int),((0:Int),(0:Int)))))).2.2.1) = true) then
 (if ((r.2.2 != (0:Int)) = true) then
 (Sum.inr (Sum.inl ())) else
 (if ((!((List.getD x.2.2.2 (Int.toNat r.2.1) (((0:Int),((0:Int),(0:Int))),(((0:Int),((0:Int),(0:Int))),((0:Int),((0:Int),(0:Int)))))).1.1 != (List.getD x.2.2.2 (Int.toNat r.2.1) (((0:Int),((0:Int),(0:Int))),(((0:Int),((0:Int),(0:Int))),((0:Int),((0:Int),(0:Int)))))).2.2.1)) = true) then
 (if ((!((List.getD x.2.2.2 (Int.toNat r.2.1) (((0:Int),((0:Int),(0:Int))),(((0:Int),((0:Int),(0:Int))),((0:Int),((0:Int),(0:Int)))))).2.1.1 == (List.getD x.2.2.2 (Int.toNat r.2.1) (((0:Int),((0:Int),(0:Int))),(((0:Int),((0:Int),(0:Int))),((0:Int),((0:Int),(0:Int)))))).2.2.1)) = true) then
 (if ((r.2.2 != (1:Int)) = true) then
 (Sum.inr (Sum.inl ())) else
 (Sum.inl (r.1,(w64 (r.2.1 + (1:Int)))))) else
 (Sum.inl (r.1,(w64 (r.2.1 + (1:Int)))))) else
 (Sum.inl (r.1,(w64 (r.2.1 + (1:Int))))))) else
 (if ((!((List.getD x.2.2.2 (Int.toNat r.2.1) (((0:Int),((0:Int),(0:Int))),(((0:Int),((0:Int),(0:Int))),((0:Int),((0:Int),(0:Int)))))).1.1 != (List.getD x.2.2.2 (Int.toNat r.2.1) (((0:Int),((0:Int),(0:Int))),(((0:Int),((0:Int),(0:Int))),((0:Int),((0:Int),(0:Int)))))).2.2.1)) = true) then
 (if ((!((List.getD x.2.2.2 (Int.toNat r.2.1) (((0:Int),((0:Int),(0:Int))),(((0:Int),((0:Int),(0:Int))),((0:Int),((0:Int),(0:Int)))))).2.1.1 == (List.getD x.2.2.2 (Int.toNat r.2.1) (((0:Int),((0:Int),(0:Int))),(((0:Int),((0:Int),(0:Int))),((0:Int),((0:Int),(0:Int)))))).2.2.1)) = true) then
 (if ((r.2.2 != (1:Int)) = true) then
 (Sum.inr (Sum.inl ())) else
 (Sum.inl (r.1,(w64 (r.2.1 + (1:Int)))))) else
 (Sum.inl (r.1,(w64 (r.2.1 + (1:Int)))))) else
 (Sum.inl (r.1,(w64 (r.2.1 + (1:Int)))))))) else
 (if (((List.getD x.2.2.2 (Int.toNat r.2.1) (((0:Int),((0:Int),(0:Int))),(((0:Int),((0:Int),(0:Int))),((0:Int),((0:Int),(0:Int)))))).2.1.1 == (List.getD x.2.2.2 (Int.toNat r.2.1) (((0:Int),((0:Int),(0:Int))),(((0:Int),((0:Int),(0:Int))),((0:Int),((0:Int),(0:Int)))))).2.2.1) = true) then
 (if ((r.2.2 != (0:Int)) = true) then
 (Sum.inr (Sum.inl ())) else
 (if ((!((List.getD x.2.2.2 (Int.toNat r.2.1) (((0:Int),((0:Int),(0:Int))),(((0:Int),((0:Int),(0:Int))),((0:Int),((0:Int),(0:Int)))))).1.1 != (List.getD x.2.2.2 (Int.toNat r.2.1) (((0:Int),((0:Int),(0:Int))),(((0:Int),((0:Int),(0:Int))),((0:Int),((0:Int),(0:Int)))))).2.2.1)) = true) then
 (if ((!((List.getD x.2.2.2 (Int.toNat r.2.1) (((0:Int),((0:Int),(0:Int))),(((0:Int),((0:Int),(0:Int))),((0:Int),((0:Int),(0:Int)))))).2.1.1 == (List.getD x.2.2.2 (Int.toNat r.2.1) (((0:Int),((0:Int),(0:Int))),(((0:Int),((0:Int),(0:Int))),((0:Int),((0:Int),(0:Int)))))).2.2.1)) = true) then
 (if ((r.2.2 != (1:Int)) = true) then
 (Sum.inr (Sum.inl ())) else
 (Sum.inl (r.1,(w64 (r.2.1 + (1:Int)))))) else
 (Sum.inl (r.1,(w64 (r.2.1 + (1:Int)))))) else
 (Sum.inl (r.1,(w64 (r.2.1 + (1:Int))))))) else
 (if ((!((List.getD x.2.2.2 (Int.toNat r.2.1) (((0:Int),((0:Int),(0:Int))),(((0:Int),((0:Int),(0:Int))),((0:Int),((0:Int),(0:Int)))))).1.1 != (List.getD x.2.2.2 (Int.toNat r.2.1) (((0:Int),((0:Int),(0:Int))),(((0:Int),((0:Int),(0:Int))),((0:Int),((0:Int),(0:Int)))))).2.2.1)) = true) then
 (if ((!((List.getD x.2.2.2 (Int.toNat r.2.1) (((0:Int),((0:Int),(0:Int))),(((0:Int),((0:Int),(0:Int))),((0:Int),((0:Int),(0:Int)))))).2.1.1 == (List.getD x.2.2.2 (Int.toNat r.2.1) (((0:Int),((0:Int),(0:Int))),(((0:Int),((0:Int),(0:Int))),((0:Int),((0:Int),(0:Int)))))).2.2.1)) = true) then
 (if ((r.2.2 != (1:Int)) = true) then
 (Sum.inr (Sum.inl ())) else
 (Sum.inl (r.1,(w64 (r.2.1 + (1:Int)))))) else
 (Sum.inl (r.1,(w64 (r.2.1 + (1:Int)))))) else
 (Sum.inl (r.1,(w64 (r.2.1 + (1:Int)))))))) else
 (if (((List.getD x.2.2.2 (Int.toNat r.2.1) (((0:Int),((0:Int),(0:Int))),(((0:Int),((0:Int),(0:Int))),((0:Int),((0:Int),(0:Int)))))).1.1 != (List.getD x.2.2.2 (Int.toNat r.2.1) (((0:Int),((0:Int),(0:Int))),(((0:Int),((0:Int),(0:Int))),((0:Int),((0:Int),(0:Int)))))).2.2.1) = true) then
 (if ((r.2.2 != (3:Int)) = true) then
 (Sum.inr (Sum.inl ())) else
 (if ((!((List.getD x.2.2.2 (Int.toNat r.2.1) (((0:Int),((0:Int),(0:Int))),(((0:Int),((0:Int),(0:Int))),((0:Int),((0:Int),(0:Int)))))).1.1 != (List.getD x.2.2.2 (Int.toNat r.2.1) (((0:Int),((0:Int),(0:Int))),(((0:Int),((0:Int),(0:Int))),((0:Int),((0:Int),(0:Int)))))).2.2.1)) = true) then
 (if ((r.2.2 != (1:Int)) = true) then
 (Sum.inr (Sum.inl ())) else
 (Sum.inl (r.1,(w64 (r.2.1 + (1:Int)))))) else
 (Sum.inl (r.1,(w64 (r.2.1 + (1:Int))))))) else
 (if ((!((List.getD x.2.2.2 (Int.toNat r.2.1) (((0:Int),((0:Int),(0:Int))),(((0:Int),((0:Int),(0:Int))),((0:Int),((0:Int),(0:Int)))))).1.1 != (List.getD x.2.2.2 (Int.toNat r.2.1) (((0:Int),((0:Int),(0:Int))),(((0:Int),((0:Int),(0:Int))),((0:Int),((0:Int),(0:Int)))))).2.2.1)) = true) then
 (if ((r.2.2 != (1:Int)) = true) then
 (Sum.inr (Sum.inl ())) else
 (Sum.inl (r.1,(w64 (r.2.1 + (1:Int)))))) else
 (Sum.inl (r.1,(w64 (r.2.1 + (1:Int)))))))) else
 (if (((List.getD x.2.2.2 (Int.toNat r.2.1) (((0:Int),((0:Int),(0:Int))),(((0:Int),((0:Int),(0:Int))),((0:Int),((0:Int),(0:Int)))))).1.1 == (List.getD x.2.2.2 (Int.toNat r.2.1) (((0:Int),((0:Int),(0:Int))),(((0:Int),((0:Int),(0:Int))),((0:Int),((0:Int),(0:Int)))))).2.1.1) = true) then
 (if (((List.getD x.2.2.2 (Int.toNat r.2.1) (((0:Int),((0:Int),(0:Int))),(((0:Int),((0:Int),(0:Int))),((0:Int),((0:Int),(0:Int)))))).2.1.1 == (List.getD x.2.2.2 (Int.toNat r.2.1) (((0:Int),((0:Int),(0:Int))),(((0:Int),((0:Int),(0:Int))),((0:Int),((0:Int),(0:Int)))))).2.2.1) = true) then
 (if ((r.2.2 != (0:Int)) = true) then
 (Sum.inr (Sum.inl ())) else
 (if ((!((List.getD x.2.2.2 (Int.toNat r.2.1) (((0:Int),((0:Int),(0:Int))),(((0:Int),((0:Int),(0:Int))),((0:Int),((0:Int),(0:Int)))))).2.1.1 == (List.getD x.2.2.2 (Int.toNat r.2.1) (((0:Int),((0:Int),(0:Int))),(((0:Int),((0:Int),(0:Int))),((0:Int),((0:Int),(0:Int)))))).2.2.1)) = true) then
 (if ((r.2.2 != (1:Int)) = true) then
 (Sum.inr (Sum.inl ())) else
 (Sum.inl (r.1,(w64 (r.2.1 + (1:Int)))))) else
 (Sum.inl (r.1,(w64 (r.2.1 + (1:Int))))))) else
 (if ((!((List.getD x.2.2.2 (Int.toNat r.2.1) (((0:Int),((0:Int),(0:Int))),(((0:Int),((0:Int),(0:Int))),((0:Int),((0:Int),(0:Int)))))).2.1.1 == (List.getD x.2.2.2 (Int.toNat r.2.1) (((0:Int),((0:Int),(0:Int))),(((0:Int),((0:Int),(0:Int))),((0:Int),((0:Int),(0:Int)))))).2.2.1)) = true) then
 (if ((r.2.2 != (1:Int)) = true) then
 (Sum.inr (Sum.inl ())) else
 (Sum.inl (r.1,(w64 (r.2.1 + (1:Int)))))) else
 (Sum.inl (r.1,(w64 (r.2.1 + (1:Int))))))) else
 (if ((r.2.2 != (1:Int)) = true) then
 (Sum.inr (Sum.inl ())) else
 (Sum.inl (r.1,(w64 (r.2.1 + (1:Int)))))))) else
 (if (((List.getD x.2.2.2 (Int.toNat r.2.1) (((0:Int),((0:Int),(0:Int))),(((0:Int),((0:Int),(0:Int))),((0:Int),((0:Int),(0:Int)))))).1.1 == (List.getD x.2.2.2 (Int.toNat r.2.1) (((0:Int),((0:Int),(0:Int))),(((0:Int),((0:Int),(0:Int))),((0:Int),((0:Int),(0:Int)))))).2.1.1) = true) then
 (if (((List.getD x.2.2.2 (Int.toNat r.2.1) (((0:Int),((0:Int),(0:Int))),(((0:Int),((0:Int),(0:Int))),((0:Int),((0:Int),(0:Int)))))).2.1.1 == (List.getD x.2.2.2 (Int.toNat r.2.1) (((0:Int),((0:Int),(0:Int))),(((0:Int),((0:Int),(0:Int))),((0:Int),((0:Int),(0:Int)))))).2.2.1) = true) then
 (if ((r.2.2 != (0:Int)) = true) then
 (Sum.inr (Sum.inl ())) else
 (if ((!((List.getD x.2.2.2 (Int.toNat r.2.1) (((0:Int),((0:Int),(0:Int))),(((0:Int),((0:Int),(0:Int))),((0:Int),((0:Int),(0:Int)))))).2.1.1 == (List.getD x.2.2.2 (Int.toNat r.2.1) (((0:Int),((0:Int),(0:Int))),(((0:Int),((0:Int),(0:Int))),((0:Int),((0:Int),(0:Int)))))).2.2.1)) = true) then
 (if ((r.2.2 != (1:Int)) = true) then
 (Sum.inr (Sum.inl ())) else
 (Sum.inl (r.1,(w64 (r.2.1 + (1:Int)))))) else
 (Sum.inl (r.1,(w64 (r.2.1 + (1:Int))))))) else
 (if ((!((List.getD x.2.2.2 (Int.toNat r.2.1) (((0:Int),((0:Int),(0:Int))),(((0:Int),((0:Int),(0:Int))),((0:Int),((0:Int),(0:Int)))))).2.1.1 == (List.getD x.2.2.2 (Int.toNat r.2.1) (((0:Int),((0:Int),(0:Int))),(((0:Int),((0:Int),(0:Int))),((0:Int),((0:Int),(0:Int)))))).2.2.1)) = true) then
 (if ((r.2.2 != (1:Int)) = true) then
 (Sum.inr (Sum.inl ())) else
 (Sum.inl (r.1,(w64 (r.2.1 + (1:Int)))))) else
 (Sum.inl (r.1,(w64 (r.2.1 + (1:Int))))))) else
 (if ((r.2.2 != (1:Int)) = true) then
 (Sum.inr (Sum.inl ())) else
 (Sum.inl (r.1,(w64 (r.2.1 + (1:Int))))))))) else
 (Sum.inr (Sum.inr (()))))
def edgeThree_l2_pre (x : ((List I3) × ((List I2) × ((List I3) × (List I9))))) (s : ((List (Int × (Int × (List Int)))) × Int)) : Prop :=
 ((s.2 < (x.2.2.2.length:Int)) →
 (Term (edgeThree_l4_step x) (edgeThree_l4_pre x) (s.1,(s.2,((0:Int),(0:Int)))) ∧
 letP (run (edgeThree_l4_step x) (s.1,(s.2,((0:Int),(0:Int))))) fun r =>
 ((((0:Int) ≤ r.2.1) ∧ (r.2.1 < (x.2.2.2.length:Int))) ∧
 (((Int.toNat r.2.1) < (List.length x.2.2.2)) ∧
 ((Int.toNat r.2.1) < (List.length x.2.2.2))))))
def edgeThree_l2_t (x : ((List I3) × ((List I2) × ((List I3) × (List I9))))) (s : ((List (Int × (Int × (List Int)))) × Int)) : Tr (((List (Int × (Int × (List Int)))) × Int) ⊕ (Unit ⊕ Unit)) true :=
 (.i10 (s.2 < (nL x.2.2.2))
 (LoopD.lp (edgeThree_l4 x) (edgeThree_l4_t x) (s.1,(s.2,zz2)) fun r =>
 (.oI2 r.2.1 x.2.2.2
 (.b00 ((gT x.2.2.2 r.2.1 zz9).1.1 != (gT x.2.2.2 r.2.1 zz9).2.1.1)
 (.b00 ((gT x.2.2.2 r.2.1 zz9).2.1.1 != (gT x.2.2.2 r.2.1 zz9).2.2.1)
 (.b00 ((gT x.2.2.2 r.2.1 zz9).1.1 == (gT x.2.2.2 r.2.1 zz9).2.1.1)
 (.b00 ((gT x.2.2.2 r.2.1 zz9).1.1 != (gT x.2.2.2 r.2.1 zz9).2.2.1)
 (.b00 (r.2.2 != (3:Int))
 (.ret (.inr (Sum.inl ())))
 (.b00 ((gT x.2.2.2 r.2.1 zz9).2.1.1 == (gT x.2.2.2 r.2.1 zz9).2.2.1)
 (.b00 (r.2.2 != z0)
 (.ret (.inr (Sum.inl ())))
 (.b00 (!((gT x.2.2.2 r.2.1 zz9).1.1 != (gT x.2.2.2 r.2.1 zz9).2.2.1))
 (.b00 (!((gT x.2.2.2 r.2.1 zz9).2.1.1 == (gT x.2.2.2 r.2.1 zz9).2.2.1))
 (.b00 (r.2.2 != z1)
 (.ret (.inr (Sum.inl ())))
 (.ret (.inl (r.1,(w1 r.2.1)))))
 (.ret (.inl (r.1,(w1 r.2.1)))))
 (.ret (.inl (r.1,(w1 r.2.1))))))
 (.b00 (!((gT x.2.2.2 r.2.1 zz9).1.1 != (gT x.2.2.2 r.2.1 zz9).2.2.1))
 (.b00 (!((gT x.2.2.2 r.2.1 zz9).2.1.1 == (gT x.2.2.2 r.2.1 zz9).2.2.1))
 (.b00 (r.2.2 != z1)
 (.ret (.inr (Sum.inl ())))
 (.ret (.inl (r.1,(w1 r.2.1)))))
 (.ret (.inl (r.1,(w1 r.2.1)))))
 (.ret (.inl (r.1,(w1 r.2.1)))))))
 (.b00 ((gT x.2.2.2 r.2.1 zz9).2.1.1 == (gT x.2.2.2 r.2.1 zz9).2.2.1)
 (.b00 (r.2.2 != z0)
 (.ret (.inr (Sum.inl ())))
 (.b00 (!((gT x.2.2.2 r.2.1 zz9).1.1 != (gT x.2.2.2 r.2.1 zz9).2.2.1))
 (.b00 (!((gT x.2.2.2 r.2.1 zz9).2.1.1 == (gT x.2.2.2 r.2.1 zz9).2.2.1))
 (.b00 (r.2.2 != z1)
 (.ret (.inr (Sum.inl ())))
 (.ret (.inl (r.1,(w1 r.2.1)))))
 (.ret (.inl (r.1,(w1 r.2.1)))))
 (.ret (.inl (r.1,(w1 r.2.1))))))
 (.b00 (!((gT x.2.2.2 r.2.1 zz9).1.1 != (gT x.2.2.2 r.2.1 zz9).2.2.1))
 (.b00 (!((gT x.2.2.2 r.2.1 zz9).2.1.1 == (gT x.2.2.2 r.2.1 zz9).2.2.1))
 (.b00 (r.2.2 != z1)
 (.ret (.inr (Sum.inl ())))
 (.ret (.inl (r.1,(w1 r.2.1)))))
 (.ret (.inl (r.1,(w1 r.2.1)))))
 (.ret (.inl (r.1,(w1 r.2.1)))))))
 (.b00 ((gT x.2.2.2 r.2.1 zz9).1.1 != (gT x.2.2.2 r.2.1 zz9).2.2.1)
 (.b00 (r.2.2 != (3:Int))
 (.ret (.inr (Sum.inl ())))
 (.b00 (!((gT x.2.2.2 r.2.1 zz9).1.1 != (gT x.2.2.2 r.2.1 zz9).2.2.1))
 (.b00 (r.2.2 != z1)
 (.ret (.inr (Sum.inl ())))
 (.ret (.inl (r.1,(w1 r.2.1)))))
 (.ret (.inl (r.1,(w1 r.2.1))))))
 (.b00 (!((gT x.2.2.2 r.2.1 zz9).1.1 != (gT x.2.2.2 r.2.1 zz9).2.2.1))
 (.b00 (r.2.2 != z1)
 (.ret (.inr (Sum.inl ())))
 (.ret (.inl (r.1,(w1 r.2.1)))))
 (.ret (.inl (r.1,(w1 r.2.1)))))))
 (.b00 ((gT x.2.2.2 r.2.1 zz9).1.1 == (gT x.2.2.2 r.2.1 zz9).2.1.1)
 (.b00 ((gT x.2.2.2 r.2.1 zz9).2.1.1 == (gT x.2.2.2 r.2.1 zz9).2.2.1)
 (.b00 (r.2.2 != z0)
 (.ret (.inr (Sum.inl ())))
 (.b00 (!((gT x.2.2.2 r.2.1 zz9).2.1.1 == (gT x.2.2.2 r.2.1 zz9).2.2.1))
 (.b00 (r.2.2 != z1)
 (.ret (.inr (Sum.inl ())))
 (.ret (.inl (r.1,(w1 r.2.1)))))
 (.ret (.inl (r.1,(w1 r.2.1))))))
 (.b00 (!((gT x.2.2.2 r.2.1 zz9).2.1.1 == (gT x.2.2.2 r.2.1 zz9).2.2.1))
 (.b00 (r.2.2 != z1)
 (.ret (.inr (Sum.inl ())))
 (.ret (.inl (r.1,(w1 r.2.1)))))
 (.ret (.inl (r.1,(w1 r.2.1))))))
 (.b00 (r.2.2 != z1)
 (.ret (.inr (Sum.inl ())))
 (.ret (.inl (r.1,(w1 r.2.1)))))))
 (.b00 ((gT x.2.2.2 r.2.1 zz9).1.1 == (gT x.2.2.2 r.2.1 zz9).2.1.1)
 (.b00 ((gT x.2.2.2 r.2.1 zz9).2.1.1 == (gT x.2.2.2 r.2.1 zz9).2.2.1)
 (.b00 (r.2.2 != z0)
 (.ret (.inr (Sum.inl ())))
 (.b00 (!((gT x.2.2.2 r.2.1 zz9).2.1.1 == (gT x.2.2.2 r.2.1 zz9).2.2.1))
 (.b00 (r.2.2 != z1)
 (.ret (.inr (Sum.inl ())))
 (.ret (.inl (r.1,(w1 r.2.1)))))
 (.ret (.inl (r.1,(w1 r.2.1))))))
 (.b00 (!((gT x.2.2.2 r.2.1 zz9).2.1.1 == (gT x.2.2.2 r.2.1 zz9).2.2.1))
 (.b00 (r.2.2 != z1)
 (.ret (.inr (Sum.inl ())))
 (.ret (.inl (r.1,(w1 r.2.1)))))
 (.ret (.inl (r.1,(w1 r.2.1))))))
 (.b00 (r.2.2 != z1)
 (.ret (.inr (Sum.inl ())))
 (.ret (.inl (r.1,(w1 r.2.1)))))))))
 (.ret (.inr (Sum.inr (())))))
def edgeThree (x : ((List I3) × ((List I2) × ((List I3) × (List I9))))) : Bool :=
 (letV (few14 x) fun y =>
 (if ((!y) = true) then
 true else
 (letV (eedges x) fun y_1 =>
 (if ((y_1.2 != (0:Int)) = true) then
 (letV (edged false) fun y_2 =>
 (if (y_2 = true) then
 (letV (meshis x) fun y_3 =>
 (if ((!y_3) = true) then
 ((y_1.1.length:Int) == (0:Int)) else
 false)) else
 false)) else
 (letV (run (edgeThree_l0_step x) (y_1.1,(0:Int))) fun r =>
 (Sum.elim (fun a =>
 false) (fun b =>
 (letV (run (edgeThree_l2_step x) (b,(0:Int))) fun r_1 =>
 (Sum.elim (fun a =>
 false) (fun b_1 =>
 (letV (edged false) fun y_2 =>
 y_2)) r_1))) r))))))
def edgeThree_pre (x : ((List I3) × ((List I2) × ((List I3) × (List I9))))) : Prop :=
 (letP (few14 x) fun y =>
 (¬ ((!y) = true) →
 ((eedges_pre x) ∧
 letP (eedges x) fun y_1 =>
 ((((y_1.2 != (0:Int)) = true) →
 ((edged_pre false) ∧
 letP (edged false) fun y_2 =>
 ((y_2 = true) →
 (meshis_pre x)))) ∧
 (¬ ((y_1.2 != (0:Int)) = true) →
 (Term (edgeThree_l0_step x) (edgeThree_l0_pre x) (y_1.1,(0:Int)) ∧
 letP (run (edgeThree_l0_step x) (y_1.1,(0:Int))) fun r =>
 (cS r (fun a =>
 True) (fun b =>
 (Term (edgeThree_l2_step x) (edgeThree_l2_pre x) (b,(0:Int)) ∧
 letP (run (edgeThree_l2_step x) (b,(0:Int))) fun r_1 =>
 (cS r_1 (fun a =>
 True) (fun b_1 =>
 (edged_pre false))))))))))))
def edgeThree_t (x : ((List I3) × ((List I2) × ((List I3) × (List I9))))) : Tr Bool true :=
 (.fn0 few14_S x trivial fun y =>
 (.b01 (!y)
 (.ret true)
 (.fn eedges_S x fun y_1 =>
 (.b11 (y_1.2 != z0)
 (.fn edged_S false fun y_2 =>
 (.b10 y_2
 (.fn meshis_S x fun y_3 =>
 (.b00 (!y_3)
 (.ret ((nL y_1.1) == z0))
 (.ret false)))
 (.ret false)))
 (LoopD.lp (edgeThree_l0 x) (edgeThree_l0_t x) (y_1.1,z0) fun r =>
 (.s01 r (fun a =>
 (.ret false)) (fun b =>
 (LoopD.lp (edgeThree_l2 x) (edgeThree_l2_t x) (b,z0) fun r_1 =>
 (.s01 r_1 (fun a =>
 (.ret false)) (fun b_1 =>
 (.fn edged_S false fun y_2 =>
 (.ret y_2))))))))))))
abbrev edgeThree_S : FnS := ⟨(.agg (Ty.prod (Ty.sl yy3) (Ty.prod (Ty.sl yy2) (Ty.prod (Ty.sl yy3) (Ty.sl yy9))))),(.one Ty.bool),edgeThree_pre,edgeThree⟩
theorem edgeThree_h4 (x : ((List I3) × ((List I2) × ((List I3) × (List I9))))) : ∀ g s Q,codeE ⟨tt,sp_in14,noX,[],[],[]⟩ (cI (blk 4 (bodyOf Try.f5))) ((edgeThree_l4 x).inp.fill g s) ((edgeThree_l4 x).kb g Q) = (edgeThree_l4_t x s).wp ((edgeThree_l4 x).post g Q) (ofTT (edgeThree_l4 x).gt g) := fun g s Q => by kernel_rfl
theorem edgeThree_h2 (x : ((List I3) × ((List I2) × ((List I3) × (List I9))))) : ∀ g s Q,codeE ⟨tt,sp_in14,noX,[(4,(edgeThree_l4 x).sp (edgeThree_l4_t x))],[],[]⟩ (cI (blk 2 (bodyOf Try.f5))) ((edgeThree_l2 x).inp.fill g s) ((edgeThree_l2 x).kb g Q) = (edgeThree_l2_t x s).wp ((edgeThree_l2 x).post g Q) (ofTT (edgeThree_l2 x).gt g) := fun g s Q => by kernel_rfl
theorem edgeThree_h0 (x : ((List I3) × ((List I2) × ((List I3) × (List I9))))) : ∀ g s Q,codeE ⟨tt,sp_in14,noX,[(2,(edgeThree_l2 x).sp (edgeThree_l2_t x)),(4,(edgeThree_l4 x).sp (edgeThree_l4_t x))],[],[]⟩ (cI (blk 0 (bodyOf Try.f5))) ((edgeThree_l0 x).inp.fill g s) ((edgeThree_l0 x).kb g Q) = (edgeThree_l0_t x s).wp ((edgeThree_l0 x).post g Q) (ofTT (edgeThree_l0 x).gt g) := fun g s Q => by kernel_rfl
theorem edgeThree_ok : SpecOk Try.prog 5 (fnSpec edgeThree_S) := SpecOk.tr edgeThree_S edgeThree_t (fn := Try.f5) tt_ok sp_in14_ok mixed (by kernel_rfl) (ItsOk.nil _ _) (fun x => (LpsOk.tr tt_ok (SpecsOk.ctxI sp_in14_ok (ItsOk.nil _ _)) mixed 0 (edgeThree_l0 x) (edgeThree_l0_t x) (LpsOk.tr tt_ok (SpecsOk.ctxI sp_in14_ok (ItsOk.nil _ _)) mixed 2 (edgeThree_l2 x) (edgeThree_l2_t x) (LpsOk.tr tt_ok (SpecsOk.ctxI sp_in14_ok (ItsOk.nil _ _)) mixed 4 (edgeThree_l4 x) (edgeThree_l4_t x) LpsOk.nil (by kernel_rfl) (edgeThree_h4 x)) (by kernel_rfl) (edgeThree_h2 x)) (by kernel_rfl) (edgeThree_h0 x))) (fun x => (by kernel_rfl)) fun x Q => (by kernel_rfl)
end Go.Proofs.Ytleemdeodmdnkaa
