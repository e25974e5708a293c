/- Model of law 15's ChartFull. -/
import Derived.Test.YtkbmjhabfjgoiaaCc
noncomputable section
set_option linter.unusedSectionVars false
set_option linter.unusedVariables false
set_option linter.unusedSimpArgs false
namespace Go.Proofs.Ytkbmjhabfjgoiaa
open Go Go.Ev Go.Proofs
def chartFull_l2 (x : ((List I3) × ((List I2) × ((List I3) × (List I9))))) : LoopD := ⟨[],⟨pvs 106 0 [(1,.v (.one (.ptr 0 0))),(3,.v (.one (.full 5))),(5,.v (.one (.i .i64))),(6,.v (.one (.ptr 6 0))),(7,.v (.one (.i .i64)))],[.cells [.full 1,.full 2,.full 3,.full 4] 26,.row yy3 0,.row yy2 0,.row yy3 0,.row yy9 0,.row (Ty.prod yi (Ty.prod yi (Ty.sl yi))) 2,.cells [.i .i64,.i .i64,.full 7] 36,.row yi 2],0,none,[],[2,3,4,5],[6,0,7,8,9,1],[(.l (Ty.prod yi (Ty.prod yi (Ty.sl yi)))),.i,.i,.i,(.l yi),.i],[.l yy3 x.1,.l yy2 x.2.1,.l yy3 x.2.2.1,.l yy9 x.2.2.2]⟩,[⟨.ret,.ret,⟨pvs 106 0 [(2,.v (.one (.b)))],[],0,none,[],[0],[],[],[.b false]⟩⟩,⟨(.exit 2),.normal,⟨pvs 106 0 [(1,.v (.one (.ptr 0 0))),(3,.v (.one (.full 5))),(5,.v (.one (.i .i64)))],[.cells [.full 1,.full 2,.full 3,.full 4] 26,.row yy3 0,.row yy2 0,.row yy3 0,.row yy9 0,.row (Ty.prod yi (Ty.prod yi (Ty.sl yi))) 2],0,none,[],[1,2,3,4],[5,0],[(.l (Ty.prod yi (Ty.prod yi (Ty.sl yi)))),.i],[.l yy3 x.1,.l yy2 x.2.1,.l yy3 x.2.2.1,.l yy9 x.2.2.2]⟩⟩]⟩
def chartFull_l2_step (x : ((List I3) × ((List I2) × ((List I3) × (List I9))))) (s : ((List (Int × (Int × (List Int)))) × (Int × (Int × (Int × ((List Int) × Int)))))) : ((List (Int × (Int × (List Int)))) × (Int × (Int × (Int × ((List Int) × Int))))) ⊕ (Unit ⊕ ((List (Int × (Int × (List Int)))) × Int)) :=
 (if (s.2.2.2.2.2 < ((List.getD s.1 (Int.toNat s.2.1) ((0:Int),((0:Int),[]))).2.2.length:Int)) then
 (letV (cfits (x,((s.2.2.1,(s.2.2.2.1,s.2.2.2.2.1)),(List.getD (List.getD s.1 (Int.toNat s.2.1) ((0:Int),((0:Int),[]))).2.2 (Int.toNat s.2.2.2.2.2) (0:Int))))) fun y =>
 (if ((!y) = true) then
 (Sum.inr (Sum.inl ())) else
 (Sum.inl (s.1,(s.2.1,(s.2.2.1,(s.2.2.2.1,((s.2.2.2.2.1 ++ [(List.getD (List.getD s.1 (Int.toNat s.2.1) ((0:Int),((0:Int),[]))).2.2 (Int.toNat s.2.2.2.2.2) (0:Int))]),(w64 (s.2.2.2.2.2 + (1:Int))))))))))) else
 (Sum.inr (Sum.inr ((s.1,s.2.1)))))
def chartFull_l2_pre (x : ((List I3) × ((List I2) × ((List I3) × (List I9))))) (s : ((List (Int × (Int × (List Int)))) × (Int × (Int × (Int × ((List Int) × Int)))))) : Prop :=
 ((((0:Int) ≤ s.2.1) ∧ (s.2.1 < (s.1.length:Int))) ∧
 (((Int.toNat s.2.1) < (List.length s.1)) ∧
 (((Int.toNat s.2.1) < (List.length s.1)) ∧
 (((Int.toNat s.2.1) < (List.length s.1)) ∧
 ((s.2.2.2.2.2 < ((List.getD s.1 (Int.toNat s.2.1) ((0:Int),((0:Int),[]))).2.2.length:Int)) →
 ((((0:Int) ≤ s.2.1) ∧ (s.2.1 < (s.1.length:Int))) ∧
 (((Int.toNat s.2.1) < (List.length s.1)) ∧
 (((Int.toNat s.2.1) < (List.length s.1)) ∧
 (((Int.toNat s.2.1) < (List.length s.1)) ∧
 ((((0:Int) ≤ s.2.2.2.2.2) ∧ (s.2.2.2.2.2 < ((List.getD s.1 (Int.toNat s.2.1) ((0:Int),((0:Int),[]))).2.2.length:Int))) ∧
 (((Int.toNat s.2.2.2.2.2) < (List.length (List.getD s.1 (Int.toNat s.2.1) ((0:Int),((0:Int),[]))).2.2)) ∧
 (((Int.toNat s.2.2.2.2.2) < (List.length (List.getD s.1 (Int.toNat s.2.1) ((0:Int),((0:Int),[]))).2.2)) ∧
 ((cfits_pre (x,((s.2.2.1,(s.2.2.2.1,s.2.2.2.2.1)),(List.getD (List.getD s.1 (Int.toNat s.2.1) ((0:Int),((0:Int),[]))).2.2 (Int.toNat s.2.2.2.2.2) (0:Int))))) ∧
 letP (cfits (x,((s.2.2.1,(s.2.2.2.1,s.2.2.2.2.1)),(List.getD (List.getD s.1 (Int.toNat s.2.1) ((0:Int),((0:Int),[]))).2.2 (Int.toNat s.2.2.2.2.2) (0:Int))))) fun y =>
 (¬ ((!y) = true) →
 ((((0:Int) ≤ s.2.1) ∧ (s.2.1 < (s.1.length:Int))) ∧
 (((Int.toNat s.2.1) < (List.length s.1)) ∧
 (((Int.toNat s.2.1) < (List.length s.1)) ∧
 (((Int.toNat s.2.1) < (List.length s.1)) ∧
 ((((0:Int) ≤ s.2.2.2.2.2) ∧ (s.2.2.2.2.2 < ((List.getD s.1 (Int.toNat s.2.1) ((0:Int),((0:Int),[]))).2.2.length:Int))) ∧
 (((Int.toNat s.2.2.2.2.2) < (List.length (List.getD s.1 (Int.toNat s.2.1) ((0:Int),((0:Int),[]))).2.2)) ∧
 (((Int.toNat s.2.2.2.2.2) < (List.length (List.getD s.1 (Int.toNat s.2.1) ((0:Int),((0:Int),[]))).2.2)) ∧
 (((List.length s.2.2.2.2.1) + 1) < 1099511627776))))))))))))))))))))))
def chartFull_l2_t (x : ((List I3) × ((List I2) × ((List I3) × (List I9))))) (s : ((List (Int × (Int × (List Int)))) × (Int × (Int × (Int × ((List Int) × Int)))))) : Tr (((List (Int × (Int × (List Int)))) × (Int × (Int × (Int × ((List Int) × Int))))) ⊕ (Unit ⊕ ((List (Int × (Int × (List Int)))) × Int))) true :=
 (.oI3 s.2.1 s.1
 (.i10 (s.2.2.2.2.2 < (nL (gT s.1 s.2.1 (z0,(z0,[]))).2.2))
 (.oI3 s.2.1 s.1
 (.oI2 s.2.2.2.2.2 (gT s.1 s.2.1 (z0,(z0,[]))).2.2
 (.fn cfits_S (x,((s.2.2.1,(s.2.2.2.1,s.2.2.2.2.1)),(gI (gT s.1 s.2.1 (z0,(z0,[]))).2.2 s.2.2.2.2.2))) fun y =>
 (.b01 (!y)
 (.ret (.inr (Sum.inl ())))
 (.oI3 s.2.1 s.1
 (.oI2 s.2.2.2.2.2 (gT s.1 s.2.1 (z0,(z0,[]))).2.2
 (.od (((List.length s.2.2.2.2.1) + 1) < 1099511627776)
 (.ret (.inl (s.1,(s.2.1,(s.2.2.1,(s.2.2.2.1,((s.2.2.2.2.1 ++ [(gI (gT s.1 s.2.1 (z0,(z0,[]))).2.2 s.2.2.2.2.2)]),(w1 s.2.2.2.2.2)))))))))))))))
 (.ret (.inr (Sum.inr ((s.1,s.2.1)))))))
def chartFull_l6 (x : ((List I3) × ((List I2) × ((List I3) × (List I9))))) : LoopD := ⟨[],⟨pvs 106 0 [(1,.v (.one (.ptr 0 0))),(3,.v (.one (.full 5))),(5,.v (.one (.i .i64))),(8,.v (.one (.i .i64))),(9,.v (.one (.i .i64)))],[.cells [.full 1,.full 2,.full 3,.full 4] 26,.row yy3 0,.row yy2 0,.row yy3 0,.row yy9 0,.row (Ty.prod yi (Ty.prod yi (Ty.sl yi))) 2],0,none,[],[3,4,5,6],[7,0,1,2],[(.l (Ty.prod yi (Ty.prod yi (Ty.sl yi)))),.i,.i,.i],[.l yy3 x.1,.l yy2 x.2.1,.l yy3 x.2.2.1,.l yy9 x.2.2.2]⟩,[⟨.ret,.ret,⟨pvs 106 0 [(2,.v (.one (.b)))],[],0,none,[],[0],[],[],[.b false]⟩⟩,⟨(.exit 6),.normal,⟨pvs 106 0 [(1,.v (.one (.ptr 0 0))),(3,.v (.one (.full 5))),(5,.v (.one (.i .i64))),(8,.v (.one (.i .i64)))],[.cells [.full 1,.full 2,.full 3,.full 4] 26,.row yy3 0,.row yy2 0,.row yy3 0,.row yy9 0,.row (Ty.prod yi (Ty.prod yi (Ty.sl yi))) 2],0,none,[],[2,3,4,5],[6,0,1],[(.l (Ty.prod yi (Ty.prod yi (Ty.sl yi)))),.i,.i],[.l yy3 x.1,.l yy2 x.2.1,.l yy3 x.2.2.1,.l yy9 x.2.2.2]⟩⟩]⟩
def chartFull_l6_step (x : ((List I3) × ((List I2) × ((List I3) × (List I9))))) (s : ((List (Int × (Int × (List Int)))) × I3)) : ((List (Int × (Int × (List Int)))) × I3) ⊕ (Unit ⊕ ((List (Int × (Int × (List Int)))) × I2)) :=
 (if (s.2.2.2 < ((List.getD s.1 (Int.toNat s.2.2.1) ((0:Int),((0:Int),[]))).2.2.length:Int)) then
 (letV (cfits (x,((List.getD s.1 (Int.toNat s.2.1) ((0:Int),((0:Int),[]))),(List.getD (List.getD s.1 (Int.toNat s.2.2.1) ((0:Int),((0:Int),[]))).2.2 (Int.toNat s.2.2.2) (0:Int))))) fun y =>
 (if (y = true) then
 (Sum.inr (Sum.inl ())) else
 (Sum.inl (s.1,(s.2.1,(s.2.2.1,(w64 (s.2.2.2 + (1:Int))))))))) else
 (Sum.inr (Sum.inr ((s.1,(s.2.1,s.2.2.1))))))
def chartFull_l6_pre (x : ((List I3) × ((List I2) × ((List I3) × (List I9))))) (s : ((List (Int × (Int × (List Int)))) × I3)) : Prop :=
 ((((0:Int) ≤ s.2.2.1) ∧ (s.2.2.1 < (s.1.length:Int))) ∧
 (((Int.toNat s.2.2.1) < (List.length s.1)) ∧
 (((Int.toNat s.2.2.1) < (List.length s.1)) ∧
 (((Int.toNat s.2.2.1) < (List.length s.1)) ∧
 ((s.2.2.2 < ((List.getD s.1 (Int.toNat s.2.2.1) ((0:Int),((0:Int),[]))).2.2.length:Int)) →
 ((((0:Int) ≤ s.2.1) ∧ (s.2.1 < (s.1.length:Int))) ∧
 (((Int.toNat s.2.1) < (List.length s.1)) ∧
 (((Int.toNat s.2.1) < (List.length s.1)) ∧
 ((((0:Int) ≤ s.2.2.1) ∧ (s.2.2.1 < (s.1.length:Int))) ∧
 (((Int.toNat s.2.2.1) < (List.length s.1)) ∧
 (((Int.toNat s.2.2.1) < (List.length s.1)) ∧
 (((Int.toNat s.2.2.1) < (List.length s.1)) ∧
 ((((0:Int) ≤ s.2.2.2) ∧ (s.2.2.2 < ((List.getD s.1 (Int.toNat s.2.2.1) ((0:Int),((0:Int),[]))).2.2.length:Int))) ∧
 (((Int.toNat s.2.2.2) < (List.length (List.getD s.1 (Int.toNat s.2.2.1) ((0:Int),((0:Int),[]))).2.2)) ∧
 (((Int.toNat s.2.2.2) < (List.length (List.getD s.1 (Int.toNat s.2.2.1) ((0:Int),((0:Int),[]))).2.2)) ∧
 (cfits_pre (x,((List.getD s.1 (Int.toNat s.2.1) ((0:Int),((0:Int),[]))),(List.getD (List.getD s.1 (Int.toNat s.2.2.1) ((0:Int),((0:Int),[]))).2.2 (Int.toNat s.2.2.2) (0:Int))))))))))))))))))))
def chartFull_l6_t (x : ((List I3) × ((List I2) × ((List I3) × (List I9))))) (s : ((List (Int × (Int × (List Int)))) × I3)) : Tr (((List (Int × (Int × (List Int)))) × I3) ⊕ (Unit ⊕ ((List (Int × (Int × (List Int)))) × I2))) true :=
 (.oI3 s.2.2.1 s.1
 (.i10 (s.2.2.2 < (nL (gT s.1 s.2.2.1 (z0,(z0,[]))).2.2))
 (.oI2 s.2.1 s.1
 (.oI3 s.2.2.1 s.1
 (.oI2 s.2.2.2 (gT s.1 s.2.2.1 (z0,(z0,[]))).2.2
 (.fn cfits_S (x,((gT s.1 s.2.1 (z0,(z0,[]))),(gI (gT s.1 s.2.2.1 (z0,(z0,[]))).2.2 s.2.2.2))) fun y =>
 (.b00 y
 (.ret (.inr (Sum.inl ())))
 (.ret (.inl (s.1,(s.2.1,(s.2.2.1,(w1 s.2.2.2)))))))))))
 (.ret (.inr (Sum.inr ((s.1,(s.2.1,s.2.2.1))))))))
def chartFull_l4 (x : ((List I3) × ((List I2) × ((List I3) × (List I9))))) : LoopD := ⟨[],⟨pvs 106 0 [(1,.v (.one (.ptr 0 0))),(3,.v (.one (.full 5))),(5,.v (.one (.i .i64))),(8,.v (.one (.i .i64)))],[.cells [.full 1,.full 2,.full 3,.full 4] 26,.row yy3 0,.row yy2 0,.row yy3 0,.row yy9 0,.row (Ty.prod yi (Ty.prod yi (Ty.sl yi))) 2],0,none,[],[2,3,4,5],[6,0,1],[(.l (Ty.prod yi (Ty.prod yi (Ty.sl yi)))),.i,.i],[.l yy3 x.1,.l yy2 x.2.1,.l yy3 x.2.2.1,.l yy9 x.2.2.2]⟩,[⟨.ret,.ret,⟨pvs 106 0 [(2,.v (.one (.b)))],[],0,none,[],[0],[],[],[.b false]⟩⟩,⟨(.exit 4),.normal,⟨pvs 106 0 [(1,.v (.one (.ptr 0 0))),(3,.v (.one (.full 5))),(5,.v (.one (.i .i64)))],[.cells [.full 1,.full 2,.full 3,.full 4] 26,.row yy3 0,.row yy2 0,.row yy3 0,.row yy9 0,.row (Ty.prod yi (Ty.prod yi (Ty.sl yi))) 2],0,none,[],[1,2,3,4],[5,0],[(.l (Ty.prod yi (Ty.prod yi (Ty.sl yi)))),.i],[.l yy3 x.1,.l yy2 x.2.1,.l yy3 x.2.2.1,.l yy9 x.2.2.2]⟩⟩]⟩
def chartFull_l4_step (x : ((List I3) × ((List I2) × ((List I3) × (List I9))))) (s : ((List (Int × (Int × (List Int)))) × I2)) : ((List (Int × (Int × (List Int)))) × I2) ⊕ (Unit ⊕ ((List (Int × (Int × (List Int)))) × Int)) :=
 (if (s.2.2 < (s.1.length:Int)) then
 (letV (run (chartFull_l6_step x) (s.1,(s.2.1,(s.2.2,(0:Int))))) fun r =>
 (Sum.elim (fun a =>
 (Sum.inr (Sum.inl ()))) (fun b =>
 (Sum.inl (b.1,(b.2.1,(w64 (b.2.2 + (1:Int))))))) r)) else
 (Sum.inr (Sum.inr ((s.1,s.2.1)))))
def chartFull_l4_pre (x : ((List I3) × ((List I2) × ((List I3) × (List I9))))) (s : ((List (Int × (Int × (List Int)))) × I2)) : Prop :=
 ((s.2.2 < (s.1.length:Int)) →
 (Term (chartFull_l6_step x) (chartFull_l6_pre x) (s.1,(s.2.1,(s.2.2,(0:Int))))))
def chartFull_l4_t (x : ((List I3) × ((List I2) × ((List I3) × (List I9))))) (s : ((List (Int × (Int × (List Int)))) × I2)) : Tr (((List (Int × (Int × (List Int)))) × I2) ⊕ (Unit ⊕ ((List (Int × (Int × (List Int)))) × Int))) true :=
 (.i10 (s.2.2 < (nL s.1))
 (LoopD.lp (chartFull_l6 x) (chartFull_l6_t x) (s.1,(s.2.1,(s.2.2,z0))) fun r =>
 (.s00 r (fun a =>
 (.ret (.inr (Sum.inl ())))) (fun b =>
 (.ret (.inl (b.1,(b.2.1,(w1 b.2.2))))))))
 (.ret (.inr (Sum.inr ((s.1,s.2.1))))))
def chartFull_l0 (x : ((List I3) × ((List I2) × ((List I3) × (List I9))))) : LoopD := ⟨[],⟨pvs 106 0 [(1,.v (.one (.ptr 0 0))),(3,.v (.one (.full 5))),(5,.v (.one (.i .i64)))],[.cells [.full 1,.full 2,.full 3,.full 4] 26,.row yy3 0,.row yy2 0,.row yy3 0,.row yy9 0,.row (Ty.prod yi (Ty.prod yi (Ty.sl yi))) 2],0,none,[],[1,2,3,4],[5,0],[(.l (Ty.prod yi (Ty.prod yi (Ty.sl yi)))),.i],[.l yy3 x.1,.l yy2 x.2.1,.l yy3 x.2.2.1,.l yy9 x.2.2.2]⟩,[⟨.ret,.ret,⟨pvs 106 0 [(2,.v (.one (.b)))],[],0,none,[],[0],[],[],[.b false]⟩⟩,⟨(.exit 0),.normal,⟨pvs 106 0 [],[],0,none,[],[],[],[],[]⟩⟩]⟩
def chartFull_l0_step (x : ((List I3) × ((List I2) × ((List I3) × (List I9))))) (s : ((List (Int × (Int × (List Int)))) × Int)) : ((List (Int × (Int × (List Int)))) × Int) ⊕ (Unit ⊕ Unit) :=
 (if (s.2 < (s.1.length:Int)) then
 (letV (run (chartFull_l2_step x) (s.1,(s.2,((List.getD s.1 (Int.toNat s.2) ((0:Int),((0:Int),[]))).1,((List.getD s.1 (Int.toNat s.2) ((0:Int),((0:Int),[]))).2.1,([],(0:Int))))))) fun r =>
 (Sum.elim (fun a =>
 (Sum.inr (Sum.inl ()))) (fun b =>
 (letV (run (chartFull_l4_step x) (b.1,(b.2,(w64 (b.2 + (1:Int)))))) fun r_1 =>
 (Sum.elim (fun a =>
 (Sum.inr (Sum.inl ()))) (fun b_1 =>
 (Sum.inl (b_1.1,(w64 (b_1.2 + (1:Int)))))) r_1))) r)) else
 (Sum.inr (Sum.inr (()))))
def chartFull_l0_pre (x : ((List I3) × ((List I2) × ((List I3) × (List I9))))) (s : ((List (Int × (Int × (List Int)))) × Int)) : Prop :=
 ((s.2 < (s.1.length:Int)) →
 ((((0:Int) ≤ s.2) ∧ (s.2 < (s.1.length:Int))) ∧
 (((Int.toNat s.2) < (List.length s.1)) ∧
 (((Int.toNat s.2) < (List.length s.1)) ∧
 (((Int.toNat s.2) < (List.length s.1)) ∧
 ((((0:Int) ≤ s.2) ∧ (s.2 < (s.1.length:Int))) ∧
 (((Int.toNat s.2) < (List.length s.1)) ∧
 (((Int.toNat s.2) < (List.length s.1)) ∧
 (((Int.toNat s.2) < (List.length s.1)) ∧
 (Term (chartFull_l2_step x) (chartFull_l2_pre x) (s.1,(s.2,((List.getD s.1 (Int.toNat s.2) ((0:Int),((0:Int),[]))).1,((List.getD s.1 (Int.toNat s.2) ((0:Int),((0:Int),[]))).2.1,([],(0:Int)))))) ∧
 letP (run (chartFull_l2_step x) (s.1,(s.2,((List.getD s.1 (Int.toNat s.2) ((0:Int),((0:Int),[]))).1,((List.getD s.1 (Int.toNat s.2) ((0:Int),((0:Int),[]))).2.1,([],(0:Int))))))) fun r =>
 (cS r (fun a =>
 True) (fun b =>
 (Term (chartFull_l4_step x) (chartFull_l4_pre x) (b.1,(b.2,(w64 (b.2 + (1:Int))))))))))))))))))
def chartFull_l0_t (x : ((List I3) × ((List I2) × ((List I3) × (List I9))))) (s : ((List (Int × (Int × (List Int)))) × Int)) : Tr (((List (Int × (Int × (List Int)))) × Int) ⊕ (Unit ⊕ Unit)) true :=
 (.i10 (s.2 < (nL s.1))
 (.oI3 s.2 s.1
 (.oI3 s.2 s.1
 (LoopD.lp (chartFull_l2 x) (chartFull_l2_t x) (s.1,(s.2,((gT s.1 s.2 (z0,(z0,[]))).1,((gT s.1 s.2 (z0,(z0,[]))).2.1,([],z0))))) fun r =>
 (.s01 r (fun a =>
 (.ret (.inr (Sum.inl ())))) (fun b =>
 (LoopD.lp (chartFull_l4 x) (chartFull_l4_t x) (b.1,(b.2,(w1 b.2))) fun r_1 =>
 (.s00 r_1 (fun a =>
 (.ret (.inr (Sum.inl ())))) (fun b_1 =>
 (.ret (.inl (b_1.1,(w1 b_1.2))))))))))))
 (.ret (.inr (Sum.inr (())))))
def chartFull (x : ((List I3) × ((List I2) × ((List I3) × (List I9))))) : Bool :=
 (letV (few15 (x,[])) fun y =>
 (if ((!y) = true) then
 true else
 (letV (cgrow x) fun y_1 =>
 (if ((y_1.2 != (0:Int)) = true) then
 (letV (charted false) fun y_2 =>
 y_2) else
 (letV (run (chartFull_l0_step x) (y_1.1,(0:Int))) fun r =>
 (Sum.elim (fun a =>
 false) (fun b =>
 (letV (charted false) fun y_2 =>
 y_2)) r))))))
def chartFull_pre (x : ((List I3) × ((List I2) × ((List I3) × (List I9))))) : Prop :=
 ((few15_pre (x,[])) ∧
 letP (few15 (x,[])) fun y =>
 (¬ ((!y) = true) →
 ((cgrow_pre x) ∧
 letP (cgrow x) fun y_1 =>
 ((((y_1.2 != (0:Int)) = true) →
 (charted_pre false)) ∧
 (¬ ((y_1.2 != (0:Int)) = true) →
 (Term (chartFull_l0_step x) (chartFull_l0_pre x) (y_1.1,(0:Int)) ∧
 letP (run (chartFull_l0_step x) (y_1.1,(0:Int))) fun r =>
 (cS r (fun a =>
 True) (fun b =>
 (charted_pre false)))))))))
def chartFull_t (x : ((List I3) × ((List I2) × ((List I3) × (List I9))))) : Tr Bool true :=
 (.fn few15_S (x,[]) fun y =>
 (.b01 (!y)
 (.ret true)
 (.fn cgrow_S x fun y_1 =>
 (.b11 (y_1.2 != z0)
 (.fn charted_S false fun y_2 =>
 (.ret y_2))
 (LoopD.lp (chartFull_l0 x) (chartFull_l0_t x) (y_1.1,z0) fun r =>
 (.s01 r (fun a =>
 (.ret false)) (fun b =>
 (.fn charted_S false fun y_2 =>
 (.ret y_2)))))))))
abbrev chartFull_S : FnS := ⟨(.agg (Ty.prod (Ty.sl yy3) (Ty.prod (Ty.sl yy2) (Ty.prod (Ty.sl yy3) (Ty.sl yy9))))),(.one Ty.bool),chartFull_pre,chartFull⟩
theorem chartFull_ok : SpecOk Try.prog 6 (fnSpec chartFull_S) := SpecOk.tr chartFull_S chartFull_t (fn := Try.f6) tt_ok sp_same15_ok mixed (by kernel_rfl) (ItsOk.nil _ _) (fun x => (LpsOk.tr tt_ok (SpecsOk.ctxI sp_same15_ok (ItsOk.nil _ _)) mixed 0 (chartFull_l0 x) (chartFull_l0_t x) (LpsOk.tr tt_ok (SpecsOk.ctxI sp_same15_ok (ItsOk.nil _ _)) mixed 2 (chartFull_l2 x) (chartFull_l2_t x) (LpsOk.tr tt_ok (SpecsOk.ctxI sp_same15_ok (ItsOk.nil _ _)) mixed 4 (chartFull_l4 x) (chartFull_l4_t x) (LpsOk.tr tt_ok (SpecsOk.ctxI sp_same15_ok (ItsOk.nil _ _)) mixed 6 (chartFull_l6 x) (chartFull_l6_t x) LpsOk.nil (by kernel_rfl) fun g s Q => (by kernel_rfl)) (by kernel_rfl) fun g s Q => (by kernel_rfl)) (by kernel_rfl) fun g s Q => (by kernel_rfl)) (by kernel_rfl) fun g s Q => (by kernel_rfl))) (fun x => (by kernel_rfl)) fun x Q => (by kernel_rfl)
end Go.Proofs.Ytkbmjhabfjgoiaa
