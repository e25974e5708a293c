/- Model of law 15's ChartWhole. -/
import Derived.Test.YtkbmjhabfjgoiaaCc
noncomputable section
set_option linter.unusedSectionVars false
set_option linter.unusedVariables false
set_option linter.unusedSimpArgs false
namespace Go.Proofs.Ytkbmjhabfjgoiaa
open Go Go.Ev Go.Proofs
def chartWhole_l2 (x : ((List I3) × ((List I2) × ((List I3) × (List I9))))) : LoopD := ⟨[],⟨pvs 175 0 [(1,.v (.one (.ptr 0 0))),(3,.v (.one (.full 5))),(5,.v (.one (.full 6))),(6,.v (.one (.i .i64))),(7,.v (.one (.i .i64))),(8,.v (.one (.i .i64)))],[.cells [.full 1,.full 2,.full 3,.full 4] 26,.row yy3 0,.row yy2 0,.row yy3 0,.row yy9 0,.row (Ty.prod yi (Ty.prod yi (Ty.sl yi))) 2,.row yi 2],0,none,[],[3,4,5,6],[7,8,0,1,2],[(.l (Ty.prod yi (Ty.prod yi (Ty.sl yi)))),(.l yi),.i,.i,.i],[.l yy3 x.1,.l yy2 x.2.1,.l yy3 x.2.2.1,.l yy9 x.2.2.2]⟩,[⟨.ret,.ret,⟨pvs 175 0 [(2,.v (.one (.b)))],[],0,none,[],[0],[],[],[.b false]⟩⟩,⟨(.exit 2),.normal,⟨pvs 175 0 [(1,.v (.one (.ptr 0 0))),(3,.v (.one (.full 5))),(5,.v (.one (.full 6))),(6,.v (.one (.i .i64))),(7,.v (.one (.i .i64)))],[.cells [.full 1,.full 2,.full 3,.full 4] 26,.row yy3 0,.row yy2 0,.row yy3 0,.row yy9 0,.row (Ty.prod yi (Ty.prod yi (Ty.sl yi))) 2,.row yi 2],0,none,[],[2,3,4,5],[6,7,0,1],[(.l (Ty.prod yi (Ty.prod yi (Ty.sl yi)))),(.l yi),.i,.i],[.l yy3 x.1,.l yy2 x.2.1,.l yy3 x.2.2.1,.l yy9 x.2.2.2]⟩⟩]⟩
def chartWhole_l2_step (x : ((List I3) × ((List I2) × ((List I3) × (List I9))))) (s : ((List (Int × (Int × (List Int)))) × ((List Int) × I3))) : ((List (Int × (Int × (List Int)))) × ((List Int) × I3)) ⊕ (Unit ⊕ ((List (Int × (Int × (List Int)))) × ((List Int) × I2))) :=
 (if (s.2.2.2.2 < ((List.getD s.1 (Int.toNat s.2.2.2.1) ((0:Int),((0:Int),[]))).2.2.length:Int)) then
 (if ((List.getD (List.getD s.1 (Int.toNat s.2.2.2.1) ((0:Int),((0:Int),[]))).2.2 (Int.toNat s.2.2.2.2) (0:Int)) < s.2.2.1) then
 (Sum.inr (Sum.inl ())) else
 (if ((List.getD (List.getD s.1 (Int.toNat s.2.2.2.1) ((0:Int),((0:Int),[]))).2.2 (Int.toNat s.2.2.2.2) (0:Int)) ≥ (x.2.2.2.length:Int)) then
 (Sum.inr (Sum.inl ())) else
 (letV (facing (x,(List.getD (List.getD s.1 (Int.toNat s.2.2.2.1) ((0:Int),((0:Int),[]))).2.2 (Int.toNat s.2.2.2.2) (0:Int)))) fun y =>
 (if ((!y.2.2) = true) then
 (Sum.inr (Sum.inl ())) else
 (if ((y.1 != (List.getD s.1 (Int.toNat s.2.2.2.1) ((0:Int),((0:Int),[]))).1) = true) then
 (Sum.inr (Sum.inl ())) else
 (if ((y.2.1 != (List.getD s.1 (Int.toNat s.2.2.2.1) ((0:Int),((0:Int),[]))).2.1) = true) then
 (Sum.inr (Sum.inl ())) else
 (letV (List.set s.2.1 (Int.toNat (List.getD (List.getD s.1 (Int.toNat s.2.2.2.1) ((0:Int),((0:Int),[]))).2.2 (Int.toNat s.2.2.2.2) (0:Int))) (w64 ((List.getD s.2.1 (Int.toNat (List.getD (List.getD s.1 (Int.toNat s.2.2.2.1) ((0:Int),((0:Int),[]))).2.2 (Int.toNat s.2.2.2.2) (0:Int))) (0:Int)) + (1:Int)))) fun y_1 =>
 (Sum.inl (s.1,(y_1,(s.2.2.1,(s.2.2.2.1,(w64 (s.2.2.2.2 + (1:Int))))))))))))))) else
 (Sum.inr (Sum.inr ((s.1,(s.2.1,(s.2.2.1,s.2.2.2.1)))))))
def chartWhole_l2_pre (x : ((List I3) × ((List I2) × ((List I3) × (List I9))))) (s : ((List (Int × (Int × (List Int)))) × ((List Int) × I3))) : Prop :=
 ((((0:Int) ≤ s.2.2.2.1) ∧ (s.2.2.2.1 < (s.1.length:Int))) ∧
 (((Int.toNat s.2.2.2.1) < (List.length s.1)) ∧
 (((Int.toNat s.2.2.2.1) < (List.length s.1)) ∧
 (((Int.toNat s.2.2.2.1) < (List.length s.1)) ∧
 ((s.2.2.2.2 < ((List.getD s.1 (Int.toNat s.2.2.2.1) ((0:Int),((0:Int),[]))).2.2.length:Int)) →
 ((((0:Int) ≤ s.2.2.2.1) ∧ (s.2.2.2.1 < (s.1.length:Int))) ∧
 (((Int.toNat s.2.2.2.1) < (List.length s.1)) ∧
 (((Int.toNat s.2.2.2.1) < (List.length s.1)) ∧
 (((Int.toNat s.2.2.2.1) < (List.length s.1)) ∧
 ((((0:Int) ≤ s.2.2.2.2) ∧ (s.2.2.2.2 < ((List.getD s.1 (Int.toNat s.2.2.2.1) ((0:Int),((0:Int),[]))).2.2.length:Int))) ∧
 (((Int.toNat s.2.2.2.2) < (List.length (List.getD s.1 (Int.toNat s.2.2.2.1) ((0:Int),((0:Int),[]))).2.2)) ∧
 (((Int.toNat s.2.2.2.2) < (List.length (List.getD s.1 (Int.toNat s.2.2.2.1) ((0:Int),((0:Int),[]))).2.2)) ∧
 (¬ ((List.getD (List.getD s.1 (Int.toNat s.2.2.2.1) ((0:Int),((0:Int),[]))).2.2 (Int.toNat s.2.2.2.2) (0:Int)) < s.2.2.1) →
 (¬ ((List.getD (List.getD s.1 (Int.toNat s.2.2.2.1) ((0:Int),((0:Int),[]))).2.2 (Int.toNat s.2.2.2.2) (0:Int)) ≥ (x.2.2.2.length:Int)) →
 ((facing_pre (x,(List.getD (List.getD s.1 (Int.toNat s.2.2.2.1) ((0:Int),((0:Int),[]))).2.2 (Int.toNat s.2.2.2.2) (0:Int)))) ∧
 letP (facing (x,(List.getD (List.getD s.1 (Int.toNat s.2.2.2.1) ((0:Int),((0:Int),[]))).2.2 (Int.toNat s.2.2.2.2) (0:Int)))) fun y =>
 (¬ ((!y.2.2) = true) →
 ((((0:Int) ≤ s.2.2.2.1) ∧ (s.2.2.2.1 < (s.1.length:Int))) ∧
 (((Int.toNat s.2.2.2.1) < (List.length s.1)) ∧
 (((Int.toNat s.2.2.2.1) < (List.length s.1)) ∧
 (((Int.toNat s.2.2.2.1) < (List.length s.1)) ∧
 (¬ ((y.1 != (List.getD s.1 (Int.toNat s.2.2.2.1) ((0:Int),((0:Int),[]))).1) = true) →
 ((((0:Int) ≤ s.2.2.2.1) ∧ (s.2.2.2.1 < (s.1.length:Int))) ∧
 (((Int.toNat s.2.2.2.1) < (List.length s.1)) ∧
 (((Int.toNat s.2.2.2.1) < (List.length s.1)) ∧
 (((Int.toNat s.2.2.2.1) < (List.length s.1)) ∧
 (¬ ((y.2.1 != (List.getD s.1 (Int.toNat s.2.2.2.1) ((0:Int),((0:Int),[]))).2.1) = true) →
 ((((0:Int) ≤ (List.getD (List.getD s.1 (Int.toNat s.2.2.2.1) ((0:Int),((0:Int),[]))).2.2 (Int.toNat s.2.2.2.2) (0:Int))) ∧ ((List.getD (List.getD s.1 (Int.toNat s.2.2.2.1) ((0:Int),((0:Int),[]))).2.2 (Int.toNat s.2.2.2.2) (0:Int)) < (s.2.1.length:Int))) ∧
 (((Int.toNat (List.getD (List.getD s.1 (Int.toNat s.2.2.2.1) ((0:Int),((0:Int),[]))).2.2 (Int.toNat s.2.2.2.2) (0:Int))) < (List.length s.2.1)) ∧
 (((Int.toNat (List.getD (List.getD s.1 (Int.toNat s.2.2.2.1) ((0:Int),((0:Int),[]))).2.2 (Int.toNat s.2.2.2.2) (0:Int))) < (List.length s.2.1)) ∧
 ((((0:Int) ≤ (List.getD (List.getD s.1 (Int.toNat s.2.2.2.1) ((0:Int),((0:Int),[]))).2.2 (Int.toNat s.2.2.2.2) (0:Int))) ∧ ((List.getD (List.getD s.1 (Int.toNat s.2.2.2.1) ((0:Int),((0:Int),[]))).2.2 (Int.toNat s.2.2.2.2) (0:Int)) < (s.2.1.length:Int))) ∧
 (((Int.toNat (List.getD (List.getD s.1 (Int.toNat s.2.2.2.1) ((0:Int),((0:Int),[]))).2.2 (Int.toNat s.2.2.2.2) (0:Int))) < (List.length s.2.1)) ∧
 ((Int.toNat (List.getD (List.getD s.1 (Int.toNat s.2.2.2.1) ((0:Int),((0:Int),[]))).2.2 (Int.toNat s.2.2.2.2) (0:Int))) < (List.length s.2.1)))))))))))))))))))))))))))))))))
def chartWhole_l2_t (x : ((List I3) × ((List I2) × ((List I3) × (List I9))))) (s : ((List (Int × (Int × (List Int)))) × ((List Int) × I3))) : Tr (((List (Int × (Int × (List Int)))) × ((List Int) × I3)) ⊕ (Unit ⊕ ((List (Int × (Int × (List Int)))) × ((List Int) × I2)))) true :=
 (.oI3 s.2.2.2.1 s.1
 (.i10 (s.2.2.2.2 < (nL (gT s.1 s.2.2.2.1 (z0,(z0,[]))).2.2))
 (.oI3 s.2.2.2.1 s.1
 (.oI2 s.2.2.2.2 (gT s.1 s.2.2.2.1 (z0,(z0,[]))).2.2
 (.i01 ((gI (gT s.1 s.2.2.2.1 (z0,(z0,[]))).2.2 s.2.2.2.2) < s.2.2.1)
 (.ret (.inr (Sum.inl ())))
 (.i01 ((gI (gT s.1 s.2.2.2.1 (z0,(z0,[]))).2.2 s.2.2.2.2) ≥ (nL x.2.2.2))
 (.ret (.inr (Sum.inl ())))
 (.fn facing_S (x,(gI (gT s.1 s.2.2.2.1 (z0,(z0,[]))).2.2 s.2.2.2.2)) fun y =>
 (.b01 (!y.2.2)
 (.ret (.inr (Sum.inl ())))
 (.oI3 s.2.2.2.1 s.1
 (.b01 (y.1 != (gT s.1 s.2.2.2.1 (z0,(z0,[]))).1)
 (.ret (.inr (Sum.inl ())))
 (.oI3 s.2.2.2.1 s.1
 (.b01 (y.2.1 != (gT s.1 s.2.2.2.1 (z0,(z0,[]))).2.1)
 (.ret (.inr (Sum.inl ())))
 (.oI2 (gI (gT s.1 s.2.2.2.1 (z0,(z0,[]))).2.2 s.2.2.2.2) s.2.1
 (.oI2 (gI (gT s.1 s.2.2.2.1 (z0,(z0,[]))).2.2 s.2.2.2.2) s.2.1
 (.lt (List.set s.2.1 (tN (gI (gT s.1 s.2.2.2.1 (z0,(z0,[]))).2.2 s.2.2.2.2)) (w1 (gI s.2.1 (gI (gT s.1 s.2.2.2.1 (z0,(z0,[]))).2.2 s.2.2.2.2)))) fun y_1 =>
 (.ret (.inl (s.1,(y_1,(s.2.2.1,(s.2.2.2.1,(w1 s.2.2.2.2))))))))))))))))))))
 (.ret (.inr (Sum.inr ((s.1,(s.2.1,(s.2.2.1,s.2.2.2.1)))))))))
def chartWhole_l0 (x : ((List I3) × ((List I2) × ((List I3) × (List I9))))) : LoopD := ⟨[],⟨pvs 175 0 [(1,.v (.one (.ptr 0 0))),(3,.v (.one (.full 5))),(5,.v (.one (.full 6))),(6,.v (.one (.i .i64))),(7,.v (.one (.i .i64)))],[.cells [.full 1,.full 2,.full 3,.full 4] 26,.row yy3 0,.row yy2 0,.row yy3 0,.row yy9 0,.row (Ty.prod yi (Ty.prod yi (Ty.sl yi))) 2,.row yi 2],0,none,[],[2,3,4,5],[6,7,0,1],[(.l (Ty.prod yi (Ty.prod yi (Ty.sl yi)))),(.l yi),.i,.i],[.l yy3 x.1,.l yy2 x.2.1,.l yy3 x.2.2.1,.l yy9 x.2.2.2]⟩,[⟨.ret,.ret,⟨pvs 175 0 [(2,.v (.one (.b)))],[],0,none,[],[0],[],[],[.b false]⟩⟩,⟨(.exit 0),.normal,⟨pvs 175 0 [(1,.v (.one (.ptr 0 0))),(3,.v (.one (.full 5))),(5,.v (.one (.full 6)))],[.cells [.full 1,.full 2,.full 3,.full 4] 26,.row yy3 0,.row yy2 0,.row yy3 0,.row yy9 0,.row (Ty.prod yi (Ty.prod yi (Ty.sl yi))) 2,.row yi 2],0,none,[],[0,1,2,3],[4,5],[(.l (Ty.prod yi (Ty.prod yi (Ty.sl yi)))),(.l yi)],[.l yy3 x.1,.l yy2 x.2.1,.l yy3 x.2.2.1,.l yy9 x.2.2.2]⟩⟩]⟩
def chartWhole_l0_step (x : ((List I3) × ((List I2) × ((List I3) × (List I9))))) (s : ((List (Int × (Int × (List Int)))) × ((List Int) × I2))) : ((List (Int × (Int × (List Int)))) × ((List Int) × I2)) ⊕ (Unit ⊕ ((List (Int × (Int × (List Int)))) × (List Int))) :=
 (if (s.2.2.2 < (s.1.length:Int)) then
 (if ((((List.getD s.1 (Int.toNat s.2.2.2) ((0:Int),((0:Int),[]))).2.2.length:Int) == (0:Int)) = true) then
 (Sum.inr (Sum.inl ())) else
 (if ((List.getD (List.getD s.1 (Int.toNat s.2.2.2) ((0:Int),((0:Int),[]))).2.2 0 (0:Int)) ≤ s.2.2.1) then
 (Sum.inr (Sum.inl ())) else
 (letV (run (chartWhole_l2_step x) (s.1,(s.2.1,((List.getD (List.getD s.1 (Int.toNat s.2.2.2) ((0:Int),((0:Int),[]))).2.2 0 (0:Int)),(s.2.2.2,(0:Int)))))) fun r =>
 (Sum.elim (fun a =>
 (Sum.inr (Sum.inl ()))) (fun b =>
 (Sum.inl (b.1,(b.2.1,(b.2.2.1,(w64 (b.2.2.2 + (1:Int)))))))) r)))) else
 (Sum.inr (Sum.inr ((s.1,s.2.1)))))
def chartWhole_l0_pre (x : ((List I3) × ((List I2) × ((List I3) × (List I9))))) (s : ((List (Int × (Int × (List Int)))) × ((List Int) × I2))) : Prop :=
 ((s.2.2.2 < (s.1.length:Int)) →
 ((((0:Int) ≤ s.2.2.2) ∧ (s.2.2.2 < (s.1.length:Int))) ∧
 (((Int.toNat s.2.2.2) < (List.length s.1)) ∧
 (((Int.toNat s.2.2.2) < (List.length s.1)) ∧
 (((Int.toNat s.2.2.2) < (List.length s.1)) ∧
 (¬ ((((List.getD s.1 (Int.toNat s.2.2.2) ((0:Int),((0:Int),[]))).2.2.length:Int) == (0:Int)) = true) →
 ((((0:Int) ≤ s.2.2.2) ∧ (s.2.2.2 < (s.1.length:Int))) ∧
 (((Int.toNat s.2.2.2) < (List.length s.1)) ∧
 (((Int.toNat s.2.2.2) < (List.length s.1)) ∧
 (((Int.toNat s.2.2.2) < (List.length s.1)) ∧
 (((0:Int) < ((List.getD s.1 (Int.toNat s.2.2.2) ((0:Int),((0:Int),[]))).2.2.length:Int)) ∧
 ((0 < (List.length (List.getD s.1 (Int.toNat s.2.2.2) ((0:Int),((0:Int),[]))).2.2)) ∧
 ((0 < (List.length (List.getD s.1 (Int.toNat s.2.2.2) ((0:Int),((0:Int),[]))).2.2)) ∧
 (¬ ((List.getD (List.getD s.1 (Int.toNat s.2.2.2) ((0:Int),((0:Int),[]))).2.2 0 (0:Int)) ≤ s.2.2.1) →
 ((((0:Int) ≤ s.2.2.2) ∧ (s.2.2.2 < (s.1.length:Int))) ∧
 (((Int.toNat s.2.2.2) < (List.length s.1)) ∧
 (((Int.toNat s.2.2.2) < (List.length s.1)) ∧
 (((Int.toNat s.2.2.2) < (List.length s.1)) ∧
 (((0:Int) < ((List.getD s.1 (Int.toNat s.2.2.2) ((0:Int),((0:Int),[]))).2.2.length:Int)) ∧
 ((0 < (List.length (List.getD s.1 (Int.toNat s.2.2.2) ((0:Int),((0:Int),[]))).2.2)) ∧
 ((0 < (List.length (List.getD s.1 (Int.toNat s.2.2.2) ((0:Int),((0:Int),[]))).2.2)) ∧
 (Term (chartWhole_l2_step x) (chartWhole_l2_pre x) (s.1,(s.2.1,((List.getD (List.getD s.1 (Int.toNat s.2.2.2) ((0:Int),((0:Int),[]))).2.2 0 (0:Int)),(s.2.2.2,(0:Int)))))))))))))))))))))))))))
def chartWhole_l0_t (x : ((List I3) × ((List I2) × ((List I3) × (List I9))))) (s : ((List (Int × (Int × (List Int)))) × ((List Int) × I2))) : Tr (((List (Int × (Int × (List Int)))) × ((List Int) × I2)) ⊕ (Unit ⊕ ((List (Int × (Int × (List Int)))) × (List Int)))) true :=
 (.i10 (s.2.2.2 < (nL s.1))
 (.oI3 s.2.2.2 s.1
 (.b01 ((nL (gT s.1 s.2.2.2 (z0,(z0,[]))).2.2) == z0)
 (.ret (.inr (Sum.inl ())))
 (.oI3 s.2.2.2 s.1
 (.og (true && (decide (z0 < (nL (gT s.1 s.2.2.2 (z0,(z0,[]))).2.2)))) (z0 < (nL (gT s.1 s.2.2.2 (z0,(z0,[]))).2.2)) (fun h => (and_t rfl (decide_eq_true h)))
 (.od (0 < (List.length (gT s.1 s.2.2.2 (z0,(z0,[]))).2.2))
 (.od (0 < (List.length (gT s.1 s.2.2.2 (z0,(z0,[]))).2.2))
 (.i01 ((List.getD (gT s.1 s.2.2.2 (z0,(z0,[]))).2.2 0 z0) ≤ s.2.2.1)
 (.ret (.inr (Sum.inl ())))
 (.oI3 s.2.2.2 s.1
 (.og (true && (decide (z0 < (nL (gT s.1 s.2.2.2 (z0,(z0,[]))).2.2)))) (z0 < (nL (gT s.1 s.2.2.2 (z0,(z0,[]))).2.2)) (fun h => (and_t rfl (decide_eq_true h)))
 (.od (0 < (List.length (gT s.1 s.2.2.2 (z0,(z0,[]))).2.2))
 (.od (0 < (List.length (gT s.1 s.2.2.2 (z0,(z0,[]))).2.2))
 (LoopD.lp (chartWhole_l2 x) (chartWhole_l2_t x) (s.1,(s.2.1,((List.getD (gT s.1 s.2.2.2 (z0,(z0,[]))).2.2 0 z0),(s.2.2.2,z0)))) fun r =>
 (.s00 r (fun a =>
 (.ret (.inr (Sum.inl ())))) (fun b =>
 (.ret (.inl (b.1,(b.2.1,(b.2.2.1,(w1 b.2.2.2))))))))))))))))))))
 (.ret (.inr (Sum.inr ((s.1,s.2.1))))))
def chartWhole_l4 (x : ((List I3) × ((List I2) × ((List I3) × (List I9))))) : LoopD := ⟨[],⟨pvs 175 0 [(1,.v (.one (.ptr 0 0))),(3,.v (.one (.full 5))),(5,.v (.one (.full 6))),(13,.v (.one (.i .i64)))],[.cells [.full 1,.full 2,.full 3,.full 4] 26,.row yy3 0,.row yy2 0,.row yy3 0,.row yy9 0,.row (Ty.prod yi (Ty.prod yi (Ty.sl yi))) 2,.row yi 2],0,none,[],[1,2,3,4],[5,6,0],[(.l (Ty.prod yi (Ty.prod yi (Ty.sl yi)))),(.l yi),.i],[.l yy3 x.1,.l yy2 x.2.1,.l yy3 x.2.2.1,.l yy9 x.2.2.2]⟩,[⟨.ret,.ret,⟨pvs 175 0 [(2,.v (.one (.b)))],[],0,none,[],[0],[],[],[.b false]⟩⟩,⟨(.exit 4),.normal,⟨pvs 175 0 [(1,.v (.one (.ptr 0 0))),(3,.v (.one (.full 5)))],[.cells [.full 1,.full 2,.full 3,.full 4] 26,.row yy3 0,.row yy2 0,.row yy3 0,.row yy9 0,.row (Ty.prod yi (Ty.prod yi (Ty.sl yi))) 2],0,none,[],[0,1,2,3],[4],[(.l (Ty.prod yi (Ty.prod yi (Ty.sl yi))))],[.l yy3 x.1,.l yy2 x.2.1,.l yy3 x.2.2.1,.l yy9 x.2.2.2]⟩⟩]⟩
def chartWhole_l4_step (x : ((List I3) × ((List I2) × ((List I3) × (List I9))))) (s : ((List (Int × (Int × (List Int)))) × ((List Int) × Int))) : ((List (Int × (Int × (List Int)))) × ((List Int) × Int)) ⊕ (Unit ⊕ (List (Int × (Int × (List Int))))) :=
 (if (s.2.2 < (x.2.2.2.length:Int)) then
 (letV (facing (x,s.2.2)) fun y =>
 (if (y.2.2 = true) then
 (if (((List.getD s.2.1 (Int.toNat s.2.2) (0:Int)) != (1:Int)) = true) then
 (Sum.inr (Sum.inl ())) else
 (if ((!y.2.2) = true) then
 (if (((List.getD s.2.1 (Int.toNat s.2.2) (0:Int)) != (0:Int)) = true) then
 (Sum.inr (Sum.inl ())) else
 (Sum.inl (s.1,(s.2.1,(w64 (s.2.2 + (1:Int))))))) else
 (Sum.inl (s.1,(s.2.1,(w64 (s.2.2 + (1:Int)))))))) else
 (if ((!y.2.2) = true) then
 (if (((List.getD s.2.1 (Int.toNat s.2.2) (0:Int)) != (0:Int)) = true) then
 (Sum.inr (Sum.inl ())) else
 (Sum.inl (s.1,(s.2.1,(w64 (s.2.2 + (1:Int))))))) else
 (Sum.inl (s.1,(s.2.1,(w64 (s.2.2 + (1:Int))))))))) else
 (Sum.inr (Sum.inr (s.1))))
def chartWhole_l4_pre (x : ((List I3) × ((List I2) × ((List I3) × (List I9))))) (s : ((List (Int × (Int × (List Int)))) × ((List Int) × Int))) : Prop :=
 ((s.2.2 < (x.2.2.2.length:Int)) →
 ((facing_pre (x,s.2.2)) ∧
 letP (facing (x,s.2.2)) fun y =>
 (((y.2.2 = true) →
 ((((0:Int) ≤ s.2.2) ∧ (s.2.2 < (s.2.1.length:Int))) ∧
 (((Int.toNat s.2.2) < (List.length s.2.1)) ∧
 (((Int.toNat s.2.2) < (List.length s.2.1)) ∧
 (¬ (((List.getD s.2.1 (Int.toNat s.2.2) (0:Int)) != (1:Int)) = true) →
 (((!y.2.2) = true) →
 ((((0:Int) ≤ s.2.2) ∧ (s.2.2 < (s.2.1.length:Int))) ∧
 (((Int.toNat s.2.2) < (List.length s.2.1)) ∧
 ((Int.toNat s.2.2) < (List.length s.2.1)))))))))) ∧
 (¬ (y.2.2 = true) →
 (((!y.2.2) = true) →
 ((((0:Int) ≤ s.2.2) ∧ (s.2.2 < (s.2.1.length:Int))) ∧
 (((Int.toNat s.2.2) < (List.length s.2.1)) ∧
 ((Int.toNat s.2.2) < (List.length s.2.1)))))))))
def chartWhole_l4_t (x : ((List I3) × ((List I2) × ((List I3) × (List I9))))) (s : ((List (Int × (Int × (List Int)))) × ((List Int) × Int))) : Tr (((List (Int × (Int × (List Int)))) × ((List Int) × Int)) ⊕ (Unit ⊕ (List (Int × (Int × (List Int)))))) true :=
 (.i10 (s.2.2 < (nL x.2.2.2))
 (.fn facing_S (x,s.2.2) fun y =>
 (.b11 y.2.2
 (.oI2 s.2.2 s.2.1
 (.b01 ((gI s.2.1 s.2.2) != z1)
 (.ret (.inr (Sum.inl ())))
 (.b10 (!y.2.2)
 (.oI2 s.2.2 s.2.1
 (.b00 ((gI s.2.1 s.2.2) != z0)
 (.ret (.inr (Sum.inl ())))
 (.ret (.inl (s.1,(s.2.1,(w1 s.2.2)))))))
 (.ret (.inl (s.1,(s.2.1,(w1 s.2.2))))))))
 (.b10 (!y.2.2)
 (.oI2 s.2.2 s.2.1
 (.b00 ((gI s.2.1 s.2.2) != z0)
 (.ret (.inr (Sum.inl ())))
 (.ret (.inl (s.1,(s.2.1,(w1 s.2.2)))))))
 (.ret (.inl (s.1,(s.2.1,(w1 s.2.2))))))))
 (.ret (.inr (Sum.inr (s.1)))))
def chartWhole (x : ((List I3) × ((List I2) × ((List I3) × (List I9))))) : Bool :=
 (letV (few15 (x,[])) fun y =>
 (if ((!y) = true) then
 true else
 (letV (cgrow x) fun y_1 =>
 (if ((y_1.2 != (0:Int)) = true) then
 (letV (charted false) fun y_2 =>
 (if (y_2 = true) then
 (letV (tame x) fun y_3 =>
 (if ((!y_3) = true) then
 ((y_1.1.length:Int) == (0:Int)) else
 false)) else
 false)) else
 (letV (run (chartWhole_l0_step x) (y_1.1,((List.replicate (List.length x.2.2.2) (0:Int)),((-1:Int),(0:Int))))) fun r =>
 (Sum.elim (fun a =>
 false) (fun b =>
 (letV (run (chartWhole_l4_step x) (b.1,(b.2,(0:Int)))) fun r_1 =>
 (Sum.elim (fun a =>
 false) (fun b_1 =>
 (letV (charted false) fun y_2 =>
 (if (y_2 = true) then
 (letV (cis (x,b_1)) fun y_3 =>
 y_3) else
 false))) r_1))) r))))))
def chartWhole_pre (x : ((List I3) × ((List I2) × ((List I3) × (List I9))))) : Prop :=
 ((few15_pre (x,[])) ∧
 letP (few15 (x,[])) fun y =>
 (¬ ((!y) = true) →
 ((cgrow_pre x) ∧
 letP (cgrow x) fun y_1 =>
 ((((y_1.2 != (0:Int)) = true) →
 ((charted_pre false) ∧
 letP (charted false) fun y_2 =>
 ((y_2 = true) →
 (tame_pre x)))) ∧
 (¬ ((y_1.2 != (0:Int)) = true) →
 ((((x.2.2.2.length:Int) ≤ (x.2.2.2.length:Int)) ∧ ((List.length x.2.2.2) < 1099511627776)) ∧
 (Term (chartWhole_l0_step x) (chartWhole_l0_pre x) (y_1.1,((List.replicate (List.length x.2.2.2) (0:Int)),((-1:Int),(0:Int)))) ∧
 letP (run (chartWhole_l0_step x) (y_1.1,((List.replicate (List.length x.2.2.2) (0:Int)),((-1:Int),(0:Int))))) fun r =>
 (cS r (fun a =>
 True) (fun b =>
 (Term (chartWhole_l4_step x) (chartWhole_l4_pre x) (b.1,(b.2,(0:Int))) ∧
 letP (run (chartWhole_l4_step x) (b.1,(b.2,(0:Int)))) fun r_1 =>
 (cS r_1 (fun a =>
 True) (fun b_1 =>
 ((charted_pre false) ∧
 letP (charted false) fun y_2 =>
 ((y_2 = true) →
 (cis_pre (x,b_1))))))))))))))))
def chartWhole_t (x : ((List I3) × ((List I2) × ((List I3) × (List I9))))) : Tr Bool true :=
 (.fn few15_S (x,[]) fun y =>
 (.b01 (!y)
 (.ret true)
 (.fn cgrow_S x fun y_1 =>
 (.b11 (y_1.2 != z0)
 (.fn charted_S false fun y_2 =>
 (.b10 y_2
 (.fn tame_S x fun y_3 =>
 (.b00 (!y_3)
 (.ret ((nL y_1.1) == z0))
 (.ret false)))
 (.ret false)))
 (.og (((decide (z0 ≤ (nL x.2.2.2))) && (decide ((nL x.2.2.2) ≤ (nL x.2.2.2)))) && (decide ((List.length x.2.2.2) < 1099511627776))) (((nL x.2.2.2) ≤ (nL x.2.2.2)) ∧ ((List.length x.2.2.2) < 1099511627776)) (fun h => (and_t (and_t rfl (decide_eq_true h.1)) (decide_eq_true h.2)))
 (LoopD.lp (chartWhole_l0 x) (chartWhole_l0_t x) (y_1.1,((List.replicate (List.length x.2.2.2) z0),((-1:Int),z0))) fun r =>
 (.s01 r (fun a =>
 (.ret false)) (fun b =>
 (LoopD.lp (chartWhole_l4 x) (chartWhole_l4_t x) (b.1,(b.2,z0)) fun r_1 =>
 (.s01 r_1 (fun a =>
 (.ret false)) (fun b_1 =>
 (.fn charted_S false fun y_2 =>
 (.b10 y_2
 (.fn cis_S (x,b_1) fun y_3 =>
 (.ret y_3))
 (.ret false))))))))))))))
abbrev chartWhole_S : FnS := ⟨(.agg (Ty.prod (Ty.sl yy3) (Ty.prod (Ty.sl yy2) (Ty.prod (Ty.sl yy3) (Ty.sl yy9))))),(.one Ty.bool),chartWhole_pre,chartWhole⟩
theorem chartWhole_ok : SpecOk Try.prog 3 (fnSpec chartWhole_S) := SpecOk.tr chartWhole_S chartWhole_t (fn := Try.f3) tt_ok sp_same15_ok mixed (by kernel_rfl) (ItsOk.nil _ _) (fun x => (LpsOk.tr tt_ok (SpecsOk.ctxI sp_same15_ok (ItsOk.nil _ _)) mixed 0 (chartWhole_l0 x) (chartWhole_l0_t x) (LpsOk.tr tt_ok (SpecsOk.ctxI sp_same15_ok (ItsOk.nil _ _)) mixed 2 (chartWhole_l2 x) (chartWhole_l2_t x) (LpsOk.tr tt_ok (SpecsOk.ctxI sp_same15_ok (ItsOk.nil _ _)) mixed 4 (chartWhole_l4 x) (chartWhole_l4_t x) LpsOk.nil (by kernel_rfl) fun g s Q => (by kernel_rfl)) (by kernel_rfl) fun g s Q => (by kernel_rfl)) (by kernel_rfl) fun g s Q => (by kernel_rfl))) (fun x => (by kernel_rfl)) fun x Q => (by kernel_rfl)
end Go.Proofs.Ytkbmjhabfjgoiaa
