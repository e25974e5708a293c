/- Model of TreeSplit. -/
import Derived.Test.YtaipcbdilkcdbaaUd
noncomputable section
set_option linter.unusedSectionVars false
set_option linter.unusedVariables false
set_option linter.unusedSimpArgs false
namespace Go.Proofs.Ytaipcbdilkcdbaa
open Go Go.Ev Go.Proofs
set_option maxRecDepth 100000
def lawSplit_l2 (x : ((List I9) × (List Int))) : LoopD := ⟨[],⟨pvs 273 0 [(0,.v (.one (.full 0))),(1,.v (.one (.full 1))),(5,.v (.one (.full 2))),(6,.v (.one (.full 3))),(8,.v (.one (.i .i64))),(9,.v (.one (.i .i64))),(10,.v (.one (.i .i64)))],[.row yy9 0,.row yi 0,.row yi 0,.row yi 0],0,none,[],[3,4],[5,6,0,1,2],[(.l yi),(.l yi),.i,.i,.i],[.l yy9 x.1,.l yi x.2]⟩,[⟨(.exit 2),.normal,⟨pvs 273 0 [(0,.v (.one (.full 0))),(1,.v (.one (.full 1))),(5,.v (.one (.full 2))),(6,.v (.one (.full 3))),(8,.v (.one (.i .i64))),(9,.v (.one (.i .i64)))],[.row yy9 0,.row yi 0,.row yi 0,.row yi 0],0,none,[],[2,3],[4,5,0,1],[(.l yi),(.l yi),.i,.i],[.l yy9 x.1,.l yi x.2]⟩⟩]⟩
def lawSplit_l2_step (x : ((List I9) × (List Int))) (s : ((List Int) × ((List Int) × I3))) : ((List Int) × ((List Int) × I3)) ⊕ ((List Int) × ((List Int) × I2)) :=
 (if (s.2.2.2.2 < (x.2.length:Int)) then
 (if (((List.getD x.2 (Int.toNat s.2.2.2.2) (0:Int)) == (List.getD x.2 (Int.toNat s.2.2.1) (0:Int))) = true) then
 (Sum.inl (s.1,(s.2.1,(s.2.2.1,((w64 (s.2.2.2.1 + (1:Int))),(w64 (s.2.2.2.2 + (1:Int)))))))) else
 (Sum.inl (s.1,(s.2.1,(s.2.2.1,(s.2.2.2.1,(w64 (s.2.2.2.2 + (1:Int))))))))) else
 (Sum.inr ((s.1,(s.2.1,(s.2.2.1,s.2.2.2.1))))))
def lawSplit_l2_pre (x : ((List I9) × (List Int))) (s : ((List Int) × ((List Int) × I3))) : Prop :=
 ((s.2.2.2.2 < (x.2.length:Int)) →
 ((((0:Int) ≤ s.2.2.2.2) ∧ (s.2.2.2.2 < (x.2.length:Int))) ∧
 (((Int.toNat s.2.2.2.2) < (List.length x.2)) ∧
 (((Int.toNat s.2.2.2.2) < (List.length x.2)) ∧
 ((((0:Int) ≤ s.2.2.1) ∧ (s.2.2.1 < (x.2.length:Int))) ∧
 (((Int.toNat s.2.2.1) < (List.length x.2)) ∧
 ((Int.toNat s.2.2.1) < (List.length x.2))))))))
def lawSplit_l2_t (x : ((List I9) × (List Int))) (s : ((List Int) × ((List Int) × I3))) : Tr (((List Int) × ((List Int) × I3)) ⊕ ((List Int) × ((List Int) × I2))) true :=
 (.i10 (s.2.2.2.2 < (nL x.2))
 (.oI2 s.2.2.2.2 x.2
 (.oI2 s.2.2.1 x.2
 (.b00 ((gI x.2 s.2.2.2.2) == (gI x.2 s.2.2.1))
 (.ret (.inl (s.1,(s.2.1,(s.2.2.1,((w1 s.2.2.2.1),(w1 s.2.2.2.2)))))))
 (.ret (.inl (s.1,(s.2.1,(s.2.2.1,(s.2.2.2.1,(w1 s.2.2.2.2))))))))))
 (.ret (.inr ((s.1,(s.2.1,(s.2.2.1,s.2.2.2.1)))))))
def lawSplit_l4 (x : ((List I9) × (List Int))) : LoopD := ⟨[],⟨pvs 273 0 [(0,.v (.one (.full 0))),(1,.v (.one (.full 1))),(5,.v (.one (.full 2))),(6,.v (.one (.full 3))),(8,.v (.one (.i .i64))),(9,.v (.one (.i .i64))),(11,.v (.one (.i .i64)))],[.row yy9 0,.row yi 0,.row yi 0,.row yi 0],0,none,[],[3,4],[5,6,0,1,2],[(.l yi),(.l yi),.i,.i,.i],[.l yy9 x.1,.l yi x.2]⟩,[⟨(.exit 4),.normal,⟨pvs 273 0 [(0,.v (.one (.full 0))),(1,.v (.one (.full 1))),(5,.v (.one (.full 2))),(6,.v (.one (.full 3))),(8,.v (.one (.i .i64))),(9,.v (.one (.i .i64)))],[.row yy9 0,.row yi 0,.row yi 0,.row yi 0],0,none,[],[2,3],[4,5,0,1],[(.l yi),(.l yi),.i,.i],[.l yy9 x.1,.l yi x.2]⟩⟩]⟩
def lawSplit_l4_step (x : ((List I9) × (List Int))) (s : ((List Int) × ((List Int) × I3))) : ((List Int) × ((List Int) × I3)) ⊕ ((List Int) × ((List Int) × I2)) :=
 (if (s.2.2.2.2 < (s.1.length:Int)) then
 (if (((List.getD s.1 (Int.toNat s.2.2.2.2) (0:Int)) == (List.getD x.2 (Int.toNat s.2.2.1) (0:Int))) = true) then
 (Sum.inl (s.1,(s.2.1,(s.2.2.1,((w64 (s.2.2.2.1 - (1:Int))),(w64 (s.2.2.2.2 + (1:Int)))))))) else
 (Sum.inl (s.1,(s.2.1,(s.2.2.1,(s.2.2.2.1,(w64 (s.2.2.2.2 + (1:Int))))))))) else
 (Sum.inr ((s.1,(s.2.1,(s.2.2.1,s.2.2.2.1))))))
def lawSplit_l4_pre (x : ((List I9) × (List Int))) (s : ((List Int) × ((List Int) × I3))) : Prop :=
 ((s.2.2.2.2 < (s.1.length:Int)) →
 ((((0:Int) ≤ s.2.2.2.2) ∧ (s.2.2.2.2 < (s.1.length:Int))) ∧
 (((Int.toNat s.2.2.2.2) < (List.length s.1)) ∧
 (((Int.toNat s.2.2.2.2) < (List.length s.1)) ∧
 ((((0:Int) ≤ s.2.2.1) ∧ (s.2.2.1 < (x.2.length:Int))) ∧
 (((Int.toNat s.2.2.1) < (List.length x.2)) ∧
 ((Int.toNat s.2.2.1) < (List.length x.2))))))))
def lawSplit_l4_t (x : ((List I9) × (List Int))) (s : ((List Int) × ((List Int) × I3))) : Tr (((List Int) × ((List Int) × I3)) ⊕ ((List Int) × ((List Int) × I2))) true :=
 (.i10 (s.2.2.2.2 < (nL s.1))
 (.oI2 s.2.2.2.2 s.1
 (.oI2 s.2.2.1 x.2
 (.b00 ((gI s.1 s.2.2.2.2) == (gI x.2 s.2.2.1))
 (.ret (.inl (s.1,(s.2.1,(s.2.2.1,((wm s.2.2.2.1),(w1 s.2.2.2.2)))))))
 (.ret (.inl (s.1,(s.2.1,(s.2.2.1,(s.2.2.2.1,(w1 s.2.2.2.2))))))))))
 (.ret (.inr ((s.1,(s.2.1,(s.2.2.1,s.2.2.2.1)))))))
def lawSplit_l6 (x : ((List I9) × (List Int))) : LoopD := ⟨[],⟨pvs 273 0 [(0,.v (.one (.full 0))),(1,.v (.one (.full 1))),(5,.v (.one (.full 2))),(6,.v (.one (.full 3))),(8,.v (.one (.i .i64))),(9,.v (.one (.i .i64))),(12,.v (.one (.i .i64)))],[.row yy9 0,.row yi 0,.row yi 0,.row yi 0],0,none,[],[3,4],[5,6,0,1,2],[(.l yi),(.l yi),.i,.i,.i],[.l yy9 x.1,.l yi x.2]⟩,[⟨(.exit 6),.normal,⟨pvs 273 0 [(0,.v (.one (.full 0))),(1,.v (.one (.full 1))),(5,.v (.one (.full 2))),(6,.v (.one (.full 3))),(8,.v (.one (.i .i64))),(9,.v (.one (.i .i64)))],[.row yy9 0,.row yi 0,.row yi 0,.row yi 0],0,none,[],[2,3],[4,5,0,1],[(.l yi),(.l yi),.i,.i],[.l yy9 x.1,.l yi x.2]⟩⟩]⟩
def lawSplit_l6_step (x : ((List I9) × (List Int))) (s : ((List Int) × ((List Int) × I3))) : ((List Int) × ((List Int) × I3)) ⊕ ((List Int) × ((List Int) × I2)) :=
 (if (s.2.2.2.2 < (s.2.1.length:Int)) then
 (if (((List.getD s.2.1 (Int.toNat s.2.2.2.2) (0:Int)) == (List.getD x.2 (Int.toNat s.2.2.1) (0:Int))) = true) then
 (Sum.inl (s.1,(s.2.1,(s.2.2.1,((w64 (s.2.2.2.1 - (1:Int))),(w64 (s.2.2.2.2 + (1:Int)))))))) else
 (Sum.inl (s.1,(s.2.1,(s.2.2.1,(s.2.2.2.1,(w64 (s.2.2.2.2 + (1:Int))))))))) else
 (Sum.inr ((s.1,(s.2.1,(s.2.2.1,s.2.2.2.1))))))
def lawSplit_l6_pre (x : ((List I9) × (List Int))) (s : ((List Int) × ((List Int) × I3))) : Prop :=
 ((s.2.2.2.2 < (s.2.1.length:Int)) →
 ((((0:Int) ≤ s.2.2.2.2) ∧ (s.2.2.2.2 < (s.2.1.length:Int))) ∧
 (((Int.toNat s.2.2.2.2) < (List.length s.2.1)) ∧
 (((Int.toNat s.2.2.2.2) < (List.length s.2.1)) ∧
 ((((0:Int) ≤ s.2.2.1) ∧ (s.2.2.1 < (x.2.length:Int))) ∧
 (((Int.toNat s.2.2.1) < (List.length x.2)) ∧
 ((Int.toNat s.2.2.1) < (List.length x.2))))))))
def lawSplit_l6_t (x : ((List I9) × (List Int))) (s : ((List Int) × ((List Int) × I3))) : Tr (((List Int) × ((List Int) × I3)) ⊕ ((List Int) × ((List Int) × I2))) true :=
 (.i10 (s.2.2.2.2 < (nL s.2.1))
 (.oI2 s.2.2.2.2 s.2.1
 (.oI2 s.2.2.1 x.2
 (.b00 ((gI s.2.1 s.2.2.2.2) == (gI x.2 s.2.2.1))
 (.ret (.inl (s.1,(s.2.1,(s.2.2.1,((wm s.2.2.2.1),(w1 s.2.2.2.2)))))))
 (.ret (.inl (s.1,(s.2.1,(s.2.2.1,(s.2.2.2.1,(w1 s.2.2.2.2))))))))))
 (.ret (.inr ((s.1,(s.2.1,(s.2.2.1,s.2.2.2.1)))))))
def lawSplit_l0 (x : ((List I9) × (List Int))) : LoopD := ⟨[],⟨pvs 273 0 [(0,.v (.one (.full 0))),(1,.v (.one (.full 1))),(5,.v (.one (.full 2))),(6,.v (.one (.full 3))),(8,.v (.one (.i .i64)))],[.row yy9 0,.row yi 0,.row yi 0,.row yi 0],0,none,[],[1,2],[3,4,0],[(.l yi),(.l yi),.i],[.l yy9 x.1,.l yi x.2]⟩,[⟨.ret,.ret,⟨pvs 273 0 [(4,.v (.one (.b)))],[],0,none,[],[0],[],[],[.b false]⟩⟩,⟨(.exit 0),.normal,⟨pvs 273 0 [(0,.v (.one (.full 0))),(5,.v (.one (.full 1))),(6,.v (.one (.full 2)))],[.row yy9 0,.row yi 0,.row yi 0],0,none,[],[0],[1,2],[(.l yi),(.l yi)],[.l yy9 x.1]⟩⟩]⟩
def lawSplit_l0_step (x : ((List I9) × (List Int))) (s : ((List Int) × ((List Int) × Int))) : ((List Int) × ((List Int) × Int)) ⊕ (Unit ⊕ ((List Int) × (List Int))) :=
 (if (s.2.2 < (x.2.length:Int)) then
 (letV (run (lawSplit_l2_step x) (s.1,(s.2.1,(s.2.2,((0:Int),(0:Int)))))) fun r =>
 (letV (run (lawSplit_l4_step x) (r.1,(r.2.1,(r.2.2.1,(r.2.2.2,(0:Int)))))) fun r_1 =>
 (letV (run (lawSplit_l6_step x) (r_1.1,(r_1.2.1,(r_1.2.2.1,(r_1.2.2.2,(0:Int)))))) fun r_2 =>
 (if ((r_2.2.2.2 != (0:Int)) = true) then
 (Sum.inr (Sum.inl ())) else
 (Sum.inl (r_2.1,(r_2.2.1,(w64 (r_2.2.2.1 + (1:Int)))))))))) else
 (Sum.inr (Sum.inr ((s.1,s.2.1)))))
def lawSplit_l0_pre (x : ((List I9) × (List Int))) (s : ((List Int) × ((List Int) × Int))) : Prop :=
 ((s.2.2 < (x.2.length:Int)) →
 (Term (lawSplit_l2_step x) (lawSplit_l2_pre x) (s.1,(s.2.1,(s.2.2,((0:Int),(0:Int))))) ∧
 letP (run (lawSplit_l2_step x) (s.1,(s.2.1,(s.2.2,((0:Int),(0:Int)))))) fun r =>
 (Term (lawSplit_l4_step x) (lawSplit_l4_pre x) (r.1,(r.2.1,(r.2.2.1,(r.2.2.2,(0:Int))))) ∧
 letP (run (lawSplit_l4_step x) (r.1,(r.2.1,(r.2.2.1,(r.2.2.2,(0:Int)))))) fun r_1 =>
 (Term (lawSplit_l6_step x) (lawSplit_l6_pre x) (r_1.1,(r_1.2.1,(r_1.2.2.1,(r_1.2.2.2,(0:Int)))))))))
def lawSplit_l0_t (x : ((List I9) × (List Int))) (s : ((List Int) × ((List Int) × Int))) : Tr (((List Int) × ((List Int) × Int)) ⊕ (Unit ⊕ ((List Int) × (List Int)))) true :=
 (.i10 (s.2.2 < (nL x.2))
 (LoopD.lp (lawSplit_l2 x) (lawSplit_l2_t x) (s.1,(s.2.1,(s.2.2,zz2))) fun r =>
 (LoopD.lp (lawSplit_l4 x) (lawSplit_l4_t x) (r.1,(r.2.1,(r.2.2.1,(r.2.2.2,z0)))) fun r_1 =>
 (LoopD.lp (lawSplit_l6 x) (lawSplit_l6_t x) (r_1.1,(r_1.2.1,(r_1.2.2.1,(r_1.2.2.2,z0)))) fun r_2 =>
 (.b00 (r_2.2.2.2 != z0)
 (.ret (.inr (Sum.inl ())))
 (.ret (.inl (r_2.1,(r_2.2.1,(w1 r_2.2.2.1)))))))))
 (.ret (.inr (Sum.inr ((s.1,s.2.1))))))
def lawSplit_l10 (x : ((List I9) × (List Int))) : LoopD := ⟨[],⟨pvs 273 0 [(0,.v (.one (.full 0))),(5,.v (.one (.full 1))),(6,.v (.one (.full 2))),(13,.v (.one (.b))),(14,.v (.one (.b))),(15,.v (.one (.b))),(16,.v (.one (.i .i64))),(17,.v (.one (.i .i64)))],[.row yy9 0,.row yi 0,.row yi 0],0,none,[],[5],[6,7,0,1,2,3,4],[(.l yi),(.l yi),.b,.b,.b,.i,.i],[.l yy9 x.1]⟩,[⟨.ret,.ret,⟨pvs 273 0 [(4,.v (.one (.b)))],[],0,none,[],[0],[],[],[.b false]⟩⟩,⟨(.exit 10),.normal,⟨pvs 273 0 [(0,.v (.one (.full 0))),(5,.v (.one (.full 1))),(6,.v (.one (.full 2))),(13,.v (.one (.b))),(14,.v (.one (.b))),(15,.v (.one (.b))),(16,.v (.one (.i .i64)))],[.row yy9 0,.row yi 0,.row yi 0],0,none,[],[4],[5,6,0,1,2,3],[(.l yi),(.l yi),.b,.b,.b,.i],[.l yy9 x.1]⟩⟩]⟩
def lawSplit_l10_step (x : ((List I9) × (List Int))) (s : ((List Int) × ((List Int) × (Bool × (Bool × (Bool × I2)))))) : ((List Int) × ((List Int) × (Bool × (Bool × (Bool × I2))))) ⊕ (Unit ⊕ ((List Int) × ((List Int) × (Bool × (Bool × (Bool × Int)))))) :=
 (if (s.2.2.2.2.2.2 < (s.2.1.length:Int)) then
 (if ((List.getD s.1 (Int.toNat s.2.2.2.2.2.1) (0:Int)) < (0:Int)) then
 (Sum.inr (Sum.inl ())) else
 (if ((List.getD s.1 (Int.toNat s.2.2.2.2.2.1) (0:Int)) ≥ (x.1.length:Int)) then
 (Sum.inr (Sum.inl ())) else
 (if ((List.getD s.2.1 (Int.toNat s.2.2.2.2.2.2) (0:Int)) < (0:Int)) then
 (Sum.inr (Sum.inl ())) else
 (if ((List.getD s.2.1 (Int.toNat s.2.2.2.2.2.2) (0:Int)) ≥ (x.1.length:Int)) then
 (Sum.inr (Sum.inl ())) else
 (if (s.2.2.1 = true) then
 (if (s.2.2.2.1 = true) then
 (if (s.2.2.2.2.1 = true) then
 (Sum.inl (s.1,(s.2.1,((decide ((w64 ((w64 ((List.getD x.1 (Int.toNat (List.getD s.1 (Int.toNat s.2.2.2.2.2.1) (0:Int))) (((0:Int),((0:Int),(0:Int))),(((0:Int),((0:Int),(0:Int))),((0:Int),((0:Int),(0:Int)))))).1.1 + (List.getD x.1 (Int.toNat (List.getD s.1 (Int.toNat s.2.2.2.2.2.1) (0:Int))) (((0:Int),((0:Int),(0:Int))),(((0:Int),((0:Int),(0:Int))),((0:Int),((0:Int),(0:Int)))))).2.1.1)) + (List.getD x.1 (Int.toNat (List.getD s.1 (Int.toNat s.2.2.2.2.2.1) (0:Int))) (((0:Int),((0:Int),(0:Int))),(((0:Int),((0:Int),(0:Int))),((0:Int),((0:Int),(0:Int)))))).2.2.1)) ≤ (w64 ((w64 ((List.getD x.1 (Int.toNat (List.getD s.2.1 (Int.toNat s.2.2.2.2.2.2) (0:Int))) (((0:Int),((0:Int),(0:Int))),(((0:Int),((0:Int),(0:Int))),((0:Int),((0:Int),(0:Int)))))).1.1 + (List.getD x.1 (Int.toNat (List.getD s.2.1 (Int.toNat s.2.2.2.2.2.2) (0:Int))) (((0:Int),((0:Int),(0:Int))),(((0:Int),((0:Int),(0:Int))),((0:Int),((0:Int),(0:Int)))))).2.1.1)) + (List.getD x.1 (Int.toNat (List.getD s.2.1 (Int.toNat s.2.2.2.2.2.2) (0:Int))) (((0:Int),((0:Int),(0:Int))),(((0:Int),((0:Int),(0:Int))),((0:Int),((0:Int),(0:Int)))))).2.2.1)))),((decide ((w64 ((w64 ((List.getD x.1 (Int.toNat (List.getD s.1 (Int.toNat s.2.2.2.2.2.1) (0:Int))) (((0:Int),((0:Int),(0:Int))),(((0:Int),((0:Int),(0:Int))),((0:Int),((0:Int),(0:Int)))))).1.2.1 + (List.getD x.1 (Int.toNat (List.getD s.1 (Int.toNat s.2.2.2.2.2.1) (0:Int))) (((0:Int),((0:Int),(0:Int))),(((0:Int),((0:Int),(0:Int))),((0:Int),((0:Int),(0:Int)))))).2.1.2.1)) + (List.getD x.1 (Int.toNat (List.getD s.1 (Int.toNat s.2.2.2.2.2.1) (0:Int))) (((0:Int),((0:Int),(0:Int))),(((0:Int),((0:Int),(0:Int))),((0:Int),((0:Int),(0:Int)))))).2.2.2.1)) ≤ (w64 ((w64 ((List.getD x.1 (Int.toNat (List.getD s.2.1 (Int.toNat s.2.2.2.2.2.2) (0:Int))) (((0:Int),((0:Int),(0:Int))),(((0:Int),((0:Int),(0:Int))),((0:Int),((0:Int),(0:Int)))))).1.2.1 + (List.getD x.1 (Int.toNat (List.getD s.2.1 (Int.toNat s.2.2.2.2.2.2) (0:Int))) (((0:Int),((0:Int),(0:Int))),(((0:Int),((0:Int),(0:Int))),((0:Int),((0:Int),(0:Int)))))).2.1.2.1)) + (List.getD x.1 (Int.toNat (List.getD s.2.1 (Int.toNat s.2.2.2.2.2.2) (0:Int))) (((0:Int),((0:Int),(0:Int))),(((0:Int),((0:Int),(0:Int))),((0:Int),((0:Int),(0:Int)))))).2.2.2.1)))),((decide ((w64 ((w64 ((List.getD x.1 (Int.toNat (List.getD s.1 (Int.toNat s.2.2.2.2.2.1) (0:Int))) (((0:Int),((0:Int),(0:Int))),(((0:Int),((0:Int),(0:Int))),((0:Int),((0:Int),(0:Int)))))).1.2.2 + (List.getD x.1 (Int.toNat (List.getD s.1 (Int.toNat s.2.2.2.2.2.1) (0:Int))) (((0:Int),((0:Int),(0:Int))),(((0:Int),((0:Int),(0:Int))),((0:Int),((0:Int),(0:Int)))))).2.1.2.2)) + (List.getD x.1 (Int.toNat (List.getD s.1 (Int.toNat s.2.2.2.2.2.1) (0:Int))) (((0:Int),((0:Int),(0:Int))),(((0:Int),((0:Int),(0:Int))),((0:Int),((0:Int),(0:Int)))))).2.2.2.2)) ≤ (w64 ((w64 ((List.getD x.1 (Int.toNat (List.getD s.2.1 (Int.toNat s.2.2.2.2.2.2) (0:Int))) (((0:Int),((0:Int),(0:Int))),(((0:Int),((0:Int),(0:Int))),((0:Int),((0:Int),(0:Int)))))).1.2.2 + (List.getD x.1 (Int.toNat (List.getD s.2.1 (Int.toNat s.2.2.2.2.2.2) (0:Int))) (((0:Int),((0:Int),(0:Int))),(((0:Int),((0:Int),(0:Int))),((0:Int),((0:Int),(0:Int)))))).2.1.2.2)) + (List.getD x.1 (Int.toNat (List.getD s.2.1 (Int.toNat s.2.2.2.2.2.2) (0:Int))) (((0:Int),((0:Int),(0:Int))),(((0:Int),((0:Int),(0:Int))),((0:Int),((0:Int),(0:Int)))))).2.2.2.2)))),(s.2.2.2.2.2.1,(w64 (s.2.2.2.2.2.2 + (1:Int)))))))))) else
 (Sum.inl (s.1,(s.2.1,((decide ((w64 ((w64 ((List.getD x.1 (Int.toNat (List.getD s.1 (Int.toNat s.2.2.2.2.2.1) (0:Int))) (((0:Int),((0:Int),(0:Int))),(((0:Int),((0:Int),(0:Int))),((0:Int),((0:Int),(0:Int)))))).1.1 + (List.getD x.1 (Int.toNat (List.getD s.1 (Int.toNat s.2.2.2.2.2.1) (0:Int))) (((0:Int),((0:Int),(0:Int))),(((0:Int),((0:Int),(0:Int))),((0:Int),((0:Int),(0:Int)))))).2.1.1)) + (List.getD x.1 (Int.toNat (List.getD s.1 (Int.toNat s.2.2.2.2.2.1) (0:Int))) (((0:Int),((0:Int),(0:Int))),(((0:Int),((0:Int),(0:Int))),((0:Int),((0:Int),(0:Int)))))).2.2.1)) ≤ (w64 ((w64 ((List.getD x.1 (Int.toNat (List.getD s.2.1 (Int.toNat s.2.2.2.2.2.2) (0:Int))) (((0:Int),((0:Int),(0:Int))),(((0:Int),((0:Int),(0:Int))),((0:Int),((0:Int),(0:Int)))))).1.1 + (List.getD x.1 (Int.toNat (List.getD s.2.1 (Int.toNat s.2.2.2.2.2.2) (0:Int))) (((0:Int),((0:Int),(0:Int))),(((0:Int),((0:Int),(0:Int))),((0:Int),((0:Int),(0:Int)))))).2.1.1)) + (List.getD x.1 (Int.toNat (List.getD s.2.1 (Int.toNat s.2.2.2.2.2.2) (0:Int))) (((0:Int),((0:Int),(0:Int))),(((0:Int),((0:Int),(0:Int))),((0:Int),((0:Int),(0:Int)))))).2.2.1)))),((decide ((w64 ((w64 ((List.getD x.1 (Int.toNat (List.getD s.1 (Int.toNat s.2.2.2.2.2.1) (0:Int))) (((0:Int),((0:Int),(0:Int))),(((0:Int),((0:Int),(0:Int))),((0:Int),((0:Int),(0:Int)))))).1.2.1 + (List.getD x.1 (Int.toNat (List.getD s.1 (Int.toNat s.2.2.2.2.2.1) (0:Int))) (((0:Int),((0:Int),(0:Int))),(((0:Int),((0:Int),(0:Int))),((0:Int),((0:Int),(0:Int)))))).2.1.2.1)) + (List.getD x.1 (Int.toNat (List.getD s.1 (Int.toNat s.2.2.2.2.2.1) (0:Int))) (((0:Int),((0:Int),(0:Int))),(((0:Int),((0:Int),(0:Int))),((0:Int),((0:Int),(0:Int)))))).2.2.2.1)) ≤ (w64 ((w64 ((List.getD x.1 (Int.toNat (List.getD s.2.1 (Int.toNat s.2.2.2.2.2.2) (0:Int))) (((0:Int),((0:Int),(0:Int))),(((0:Int),((0:Int),(0:Int))),((0:Int),((0:Int),(0:Int)))))).1.2.1 + (List.getD x.1 (Int.toNat (List.getD s.2.1 (Int.toNat s.2.2.2.2.2.2) (0:Int))) (((0:Int),((0:Int),(0:Int))),(((0:Int),((0:Int),(0:Int))),((0:Int),((0:Int),(0:Int)))))).2.1.2.1)) + (List.getD x.1 (Int.toNat (List.getD s.2.1 (Int.toNat s.2.2.2.2.2.2) (0:Int))) (((0:Int),((0:Int),(0:Int))),(((0:Int),((0:Int),(0:Int))),((0:Int),((0:Int),(0:Int)))))).2.2.2.1)))),(false,(s.2.2.2.2.2.1,(w64 (s.2.2.2.2.2.2 + (1:Int))))))))))) else
 (if (s.2.2.2.2.1 = true) then
 (Sum.inl (s.1,(s.2.1,((decide ((w64 ((w64 ((List.getD x.1 (Int.toNat (List.getD s.1 (Int.toNat s.2.2.2.2.2.1) (0:Int))) (((0:Int),((0:Int),(0:Int))),(((0:Int),((0:Int),(0:Int))),((0:Int),((0:Int),(0:Int)))))).1.1 + (List.getD x.1 (Int.toNat (List.getD s.1 (Int.toNat s.2.2.2.2.2.1) (0:Int))) (((0:Int),((0:Int),(0:Int))),(((0:Int),((0:Int),(0:Int))),((0:Int),((0:Int),(0:Int)))))).2.1.1)) + (List.getD x.1 (Int.toNat (List.getD s.1 (Int.toNat s.2.2.2.2.2.1) (0:Int))) (((0:Int),((0:Int),(0:Int))),(((0:Int),((0:Int),(0:Int))),((0:Int),((0:Int),(0:Int)))))).2.2.1)) ≤ (w64 ((w64 ((List.getD x.1 (Int.toNat (List.getD s.2.1 (Int.toNat s.2.2.2.2.2.2) (0:Int))) (((0:Int),((0:Int),(0:Int))),(((0:Int),((0:Int),(0:Int))),((0:Int),((0:Int),(0:Int)))))).1.1 + (List.getD x.1 (Int.toNat (List.getD s.2.1 (Int.toNat s.2.2.2.2.2.2) (0:Int))) (((0:Int),((0:Int),(0:Int))),(((0:Int),((0:Int),(0:Int))),((0:Int),((0:Int),(0:Int)))))).2.1.1)) + (List.getD x.1 (Int.toNat (List.getD s.2.1 (Int.toNat s.2.2.2.2.2.2) (0:Int))) (((0:Int),((0:Int),(0:Int))),(((0:Int),((0:Int),(0:Int))),((0:Int),((0:Int),(0:Int)))))).2.2.1)))),(false,((decide ((w64 ((w64 ((List.getD x.1 (Int.toNat (List.getD s.1 (Int.toNat s.2.2.2.2.2.1) (0:Int))) (((0:Int),((0:Int),(0:Int))),(((0:Int),((0:Int),(0:Int))),((0:Int),((0:Int),(0:Int)))))).1.2.2 + (List.getD x.1 (Int.toNat (List.getD s.1 (Int.toNat s.2.2.2.2.2.1) (0:Int))) (((0:Int),((0:Int),(0:Int))),(((0:Int),((0:Int),(0:Int))),((0:Int),((0:Int),(0:Int)))))).2.1.2.2)) + (List.getD x.1 (Int.toNat (List.getD s.1 (Int.toNat s.2.2.2.2.2.1) (0:Int))) (((0:Int),((0:Int),(0:Int))),(((0:Int),((0:Int),(0:Int))),((0:Int),((0:Int),(0:Int)))))).2.2.2.2)) ≤ (w64 ((w64 ((List.getD x.1 (Int.toNat (List.getD s.2.1 (Int.toNat s.2.2.2.2.2.2) (0:Int))) (((0:Int),((0:Int),(0:Int))),(((0:Int),((0:Int),(0:Int))),((0:Int),((0:Int),(0:Int)))))).1.2.2 + (List.getD x.1 (Int.toNat (List.getD s.2.1 (Int.toNat s.2.2.2.2.2.2) (0:Int))) (((0:Int),((0:Int),(0:Int))),(((0:Int),((0:Int),(0:Int))),((0:Int),((0:Int),(0:Int)))))).2.1.2.2)) + (List.getD x.1 (Int.toNat (List.getD s.2.1 (Int.toNat s.2.2.2.2.2.2) (0:Int))) (((0:Int),((0:Int),(0:Int))),(((0:Int),((0:Int),(0:Int))),((0:Int),((0:Int),(0:Int)))))).2.2.2.2)))),(s.2.2.2.2.2.1,(w64 (s.2.2.2.2.2.2 + (1:Int)))))))))) else
 (Sum.inl (s.1,(s.2.1,((decide ((w64 ((w64 ((List.getD x.1 (Int.toNat (List.getD s.1 (Int.toNat s.2.2.2.2.2.1) (0:Int))) (((0:Int),((0:Int),(0:Int))),(((0:Int),((0:Int),(0:Int))),((0:Int),((0:Int),(0:Int)))))).1.1 + (List.getD x.1 (Int.toNat (List.getD s.1 (Int.toNat s.2.2.2.2.2.1) (0:Int))) (((0:Int),((0:Int),(0:Int))),(((0:Int),((0:Int),(0:Int))),((0:Int),((0:Int),(0:Int)))))).2.1.1)) + (List.getD x.1 (Int.toNat (List.getD s.1 (Int.toNat s.2.2.2.2.2.1) (0:Int))) (((0:Int),((0:Int),(0:Int))),(((0:Int),((0:Int),(0:Int))),((0:Int),((0:Int),(0:Int)))))).2.2.1)) ≤ (w64 ((w64 ((List.getD x.1 (Int.toNat (List.getD s.2.1 (Int.toNat s.2.2.2.2.2.2) (0:Int))) (((0:Int),((0:Int),(0:Int))),(((0:Int),((0:Int),(0:Int))),((0:Int),((0:Int),(0:Int)))))).1.1 + (List.getD x.1 (Int.toNat (List.getD s.2.1 (Int.toNat s.2.2.2.2.2.2) (0:Int))) (((0:Int),((0:Int),(0:Int))),(((0:Int),((0:Int),(0:Int))),((0:Int),((0:Int),(0:Int)))))).2.1.1)) + (List.getD x.1 (Int.toNat (List.getD s.2.1 (Int.toNat s.2.2.2.2.2.2) (0:Int))) (((0:Int),((0:Int),(0:Int))),(((0:Int),((0:Int),(0:Int))),((0:Int),((0:Int),(0:Int)))))).2.2.1)))),(false,(false,(s.2.2.2.2.2.1,(w64 (s.2.2.2.2.2.2 + (1:Int)))))))))))) else
 (if (s.2.2.2.1 = true) then
 (if (s.2.2.2.2.1 = true) then
 (Sum.inl (s.1,(s.2.1,(false,((decide ((w64 ((w64 ((List.getD x.1 (Int.toNat (List.getD s.1 (Int.toNat s.2.2.2.2.2.1) (0:Int))) (((0:Int),((0:Int),(0:Int))),(((0:Int),((0:Int),(0:Int))),((0:Int),((0:Int),(0:Int)))))).1.2.1 + (List.getD x.1 (Int.toNat (List.getD s.1 (Int.toNat s.2.2.2.2.2.1) (0:Int))) (((0:Int),((0:Int),(0:Int))),(((0:Int),((0:Int),(0:Int))),((0:Int),((0:Int),(0:Int)))))).2.1.2.1)) + (List.getD x.1 (Int.toNat (List.getD s.1 (Int.toNat s.2.2.2.2.2.1) (0:Int))) (((0:Int),((0:Int),(0:Int))),(((0:Int),((0:Int),(0:Int))),((0:Int),((0:Int),(0:Int)))))).2.2.2.1)) ≤ (w64 ((w64 ((List.getD x.1 (Int.toNat (List.getD s.2.1 (Int.toNat s.2.2.2.2.2.2) (0:Int))) (((0:Int),((0:Int),(0:Int))),(((0:Int),((0:Int),(0:Int))),((0:Int),((0:Int),(0:Int)))))).1.2.1 + (List.getD x.1 (Int.toNat (List.getD s.2.1 (Int.toNat s.2.2.2.2.2.2) (0:Int))) (((0:Int),((0:Int),(0:Int))),(((0:Int),((0:Int),(0:Int))),((0:Int),((0:Int),(0:Int)))))).2.1.2.1)) + (List.getD x.1 (Int.toNat (List.getD s.2.1 (Int.toNat s.2.2.2.2.2.2) (0:Int))) (((0:Int),((0:Int),(0:Int))),(((0:Int),((0:Int),(0:Int))),((0:Int),((0:Int),(0:Int)))))).2.2.2.1)))),((decide ((w64 ((w64 ((List.getD x.1 (Int.toNat (List.getD s.1 (Int.toNat s.2.2.2.2.2.1) (0:Int))) (((0:Int),((0:Int),(0:Int))),(((0:Int),((0:Int),(0:Int))),((0:Int),((0:Int),(0:Int)))))).1.2.2 + (List.getD x.1 (Int.toNat (List.getD s.1 (Int.toNat s.2.2.2.2.2.1) (0:Int))) (((0:Int),((0:Int),(0:Int))),(((0:Int),((0:Int),(0:Int))),((0:Int),((0:Int),(0:Int)))))).2.1.2.2)) + (List.getD x.1 (Int.toNat (List.getD s.1 (Int.toNat s.2.2.2.2.2.1) (0:Int))) (((0:Int),((0:Int),(0:Int))),(((0:Int),((0:Int),(0:Int))),((0:Int),((0:Int),(0:Int)))))).2.2.2.2)) ≤ (w64 ((w64 ((List.getD x.1 (Int.toNat (List.getD s.2.1 (Int.toNat s.2.2.2.2.2.2) (0:Int))) (((0:Int),((0:Int),(0:Int))),(((0:Int),((0:Int),(0:Int))),((0:Int),((0:Int),(0:Int)))))).1.2.2 + (List.getD x.1 (Int.toNat (List.getD s.2.1 (Int.toNat s.2.2.2.2.2.2) (0:Int))) (((0:Int),((0:Int),(0:Int))),(((0:Int),((0:Int),(0:Int))),((0:Int),((0:Int),(0:Int)))))).2.1.2.2)) + (List.getD x.1 (Int.toNat (List.getD s.2.1 (Int.toNat s.2.2.2.2.2.2) (0:Int))) (((0:Int),((0:Int),(0:Int))),(((0:Int),((0:Int),(0:Int))),((0:Int),((0:Int),(0:Int)))))).2.2.2.2)))),(s.2.2.2.2.2.1,(w64 (s.2.2.2.2.2.2 + (1:Int)))))))))) else
 (Sum.inl (s.1,(s.2.1,(false,((decide ((w64 ((w64 ((List.getD x.1 (Int.toNat (List.getD s.1 (Int.toNat s.2.2.2.2.2.1) (0:Int))) (((0:Int),((0:Int),(0:Int))),(((0:Int),((0:Int),(0:Int))),((0:Int),((0:Int),(0:Int)))))).1.2.1 + (List.getD x.1 (Int.toNat (List.getD s.1 (Int.toNat s.2.2.2.2.2.1) (0:Int))) (((0:Int),((0:Int),(0:Int))),(((0:Int),((0:Int),(0:Int))),((0:Int),((0:Int),(0:Int)))))).2.1.2.1)) + (List.getD x.1 (Int.toNat (List.getD s.1 (Int.toNat s.2.2.2.2.2.1) (0:Int))) (((0:Int),((0:Int),(0:Int))),(((0:Int),((0:Int),(0:Int))),((0:Int),((0:Int),(0:Int)))))).2.2.2.1)) ≤ (w64 ((w64 ((List.getD x.1 (Int.toNat (List.getD s.2.1 (Int.toNat s.2.2.2.2.2.2) (0:Int))) (((0:Int),((0:Int),(0:Int))),(((0:Int),((0:Int),(0:Int))),((0:Int),((0:Int),(0:Int)))))).1.2.1 + (List.getD x.1 (Int.toNat (List.getD s.2.1 (Int.toNat s.2.2.2.2.2.2) (0:Int))) (((0:Int),((0:Int),(0:Int))),(((0:Int),((0:Int),(0:Int))),((0:Int),((0:Int),(0:Int)))))).2.1.2.1)) + (List.getD x.1 (Int.toNat (List.getD s.2.1 (Int.toNat s.2.2.2.2.2.2) (0:Int))) (((0:Int),((0:Int),(0:Int))),(((0:Int),((0:Int),(0:Int))),((0:Int),((0:Int),(0:Int)))))).2.2.2.1)))),(false,(s.2.2.2.2.2.1,(w64 (s.2.2.2.2.2.2 + (1:Int))))))))))) else
 (if (s.2.2.2.2.1 = true) then
 (Sum.inl (s.1,(s.2.1,(false,(false,((decide ((w64 ((w64 ((List.getD x.1 (Int.toNat (List.getD s.1 (Int.toNat s.2.2.2.2.2.1) (0:Int))) (((0:Int),((0:Int),(0:Int))),(((0:Int),((0:Int),(0:Int))),((0:Int),((0:Int),(0:Int)))))).1.2.2 + (List.getD x.1 (Int.toNat (List.getD s.1 (Int.toNat s.2.2.2.2.2.1) (0:Int))) (((0:Int),((0:Int),(0:Int))),(((0:Int),((0:Int),(0:Int))),((0:Int),((0:Int),(0:Int)))))).2.1.2.2)) + (List.getD x.1 (Int.toNat (List.getD s.1 (Int.toNat s.2.2.2.2.2.1) (0:Int))) (((0:Int),((0:Int),(0:Int))),(((0:Int),((0:Int),(0:Int))),((0:Int),((0:Int),(0:Int)))))).2.2.2.2)) ≤ (w64 ((w64 ((List.getD x.1 (Int.toNat (List.getD s.2.1 (Int.toNat s.2.2.2.2.2.2) (0:Int))) (((0:Int),((0:Int),(0:Int))),(((0:Int),((0:Int),(0:Int))),((0:Int),((0:Int),(0:Int)))))).1.2.2 + (List.getD x.1 (Int.toNat (List.getD s.2.1 (Int.toNat s.2.2.2.2.2.2) (0:Int))) (((0:Int),((0:Int),(0:Int))),(((0:Int),((0:Int),(0:Int))),((0:Int),((0:Int),(0:Int)))))).2.1.2.2)) + (List.getD x.1 (Int.toNat (List.getD s.2.1 (Int.toNat s.2.2.2.2.2.2) (0:Int))) (((0:Int),((0:Int),(0:Int))),(((0:Int),((0:Int),(0:Int))),((0:Int),((0:Int),(0:Int)))))).2.2.2.2)))),(s.2.2.2.2.2.1,(w64 (s.2.2.2.2.2.2 + (1:Int)))))))))) else
 (Sum.inl (s.1,(s.2.1,(false,(false,(false,(s.2.2.2.2.2.1,(w64 (s.2.2.2.2.2.2 + (1:Int))))))))))))))))) else
 (Sum.inr (Sum.inr ((s.1,(s.2.1,(s.2.2.1,(s.2.2.2.1,(s.2.2.2.2.1,s.2.2.2.2.2.1)))))))))
def lawSplit_l10_pre (x : ((List I9) × (List Int))) (s : ((List Int) × ((List Int) × (Bool × (Bool × (Bool × I2)))))) : Prop :=
 ((s.2.2.2.2.2.2 < (s.2.1.length:Int)) →
 ((((0:Int) ≤ s.2.2.2.2.2.1) ∧ (s.2.2.2.2.2.1 < (s.1.length:Int))) ∧
 (((Int.toNat s.2.2.2.2.2.1) < (List.length s.1)) ∧
 (((Int.toNat s.2.2.2.2.2.1) < (List.length s.1)) ∧
 (¬ ((List.getD s.1 (Int.toNat s.2.2.2.2.2.1) (0:Int)) < (0:Int)) →
 ((((0:Int) ≤ s.2.2.2.2.2.1) ∧ (s.2.2.2.2.2.1 < (s.1.length:Int))) ∧
 (((Int.toNat s.2.2.2.2.2.1) < (List.length s.1)) ∧
 (((Int.toNat s.2.2.2.2.2.1) < (List.length s.1)) ∧
 (¬ ((List.getD s.1 (Int.toNat s.2.2.2.2.2.1) (0:Int)) ≥ (x.1.length:Int)) →
 ((((0:Int) ≤ s.2.2.2.2.2.2) ∧ (s.2.2.2.2.2.2 < (s.2.1.length:Int))) ∧
 (((Int.toNat s.2.2.2.2.2.2) < (List.length s.2.1)) ∧
 (((Int.toNat s.2.2.2.2.2.2) < (List.length s.2.1)) ∧
 (¬ ((List.getD s.2.1 (Int.toNat s.2.2.2.2.2.2) (0:Int)) < (0:Int)) →
 ((((0:Int) ≤ s.2.2.2.2.2.2) ∧ (s.2.2.2.2.2.2 < (s.2.1.length:Int))) ∧
 (((Int.toNat s.2.2.2.2.2.2) < (List.length s.2.1)) ∧
 (((Int.toNat s.2.2.2.2.2.2) < (List.length s.2.1)) ∧
 (¬ ((List.getD s.2.1 (Int.toNat s.2.2.2.2.2.2) (0:Int)) ≥ (x.1.length:Int)) →
 ((((0:Int) ≤ s.2.2.2.2.2.1) ∧ (s.2.2.2.2.2.1 < (s.1.length:Int))) ∧
 (((Int.toNat s.2.2.2.2.2.1) < (List.length s.1)) ∧
 (((Int.toNat s.2.2.2.2.2.1) < (List.length s.1)) ∧
 ((((0:Int) ≤ (List.getD s.1 (Int.toNat s.2.2.2.2.2.1) (0:Int))) ∧ ((List.getD s.1 (Int.toNat s.2.2.2.2.2.1) (0:Int)) < (x.1.length:Int))) ∧
 (((Int.toNat (List.getD s.1 (Int.toNat s.2.2.2.2.2.1) (0:Int))) < (List.length x.1)) ∧
 (((Int.toNat (List.getD s.1 (Int.toNat s.2.2.2.2.2.1) (0:Int))) < (List.length x.1)) ∧
 ((((0:Int) ≤ s.2.2.2.2.2.2) ∧ (s.2.2.2.2.2.2 < (s.2.1.length:Int))) ∧
 (((Int.toNat s.2.2.2.2.2.2) < (List.length s.2.1)) ∧
 (((Int.toNat s.2.2.2.2.2.2) < (List.length s.2.1)) ∧
 ((((0:Int) ≤ (List.getD s.2.1 (Int.toNat s.2.2.2.2.2.2) (0:Int))) ∧ ((List.getD s.2.1 (Int.toNat s.2.2.2.2.2.2) (0:Int)) < (x.1.length:Int))) ∧
 (((Int.toNat (List.getD s.2.1 (Int.toNat s.2.2.2.2.2.2) (0:Int))) < (List.length x.1)) ∧
 ((Int.toNat (List.getD s.2.1 (Int.toNat s.2.2.2.2.2.2) (0:Int))) < (List.length x.1))))))))))))))))))))))))))))))
def lawSplit_l10_t (x : ((List I9) × (List Int))) (s : ((List Int) × ((List Int) × (Bool × (Bool × (Bool × I2)))))) : Tr (((List Int) × ((List Int) × (Bool × (Bool × (Bool × I2))))) ⊕ (Unit ⊕ ((List Int) × ((List Int) × (Bool × (Bool × (Bool × Int))))))) true :=
 (.i10 (s.2.2.2.2.2.2 < (nL s.2.1))
 (.oI2 s.2.2.2.2.2.1 s.1
 (.i01 ((gI s.1 s.2.2.2.2.2.1) < z0)
 (.ret (.inr (Sum.inl ())))
 (.oI2 s.2.2.2.2.2.1 s.1
 (.i01 ((gI s.1 s.2.2.2.2.2.1) ≥ (nL x.1))
 (.ret (.inr (Sum.inl ())))
 (.oI2 s.2.2.2.2.2.2 s.2.1
 (.i01 ((gI s.2.1 s.2.2.2.2.2.2) < z0)
 (.ret (.inr (Sum.inl ())))
 (.oI2 s.2.2.2.2.2.2 s.2.1
 (.i01 ((gI s.2.1 s.2.2.2.2.2.2) ≥ (nL x.1))
 (.ret (.inr (Sum.inl ())))
 (.oI2 s.2.2.2.2.2.1 s.1
 (.oI2 (gI s.1 s.2.2.2.2.2.1) x.1
 (.oI2 s.2.2.2.2.2.2 s.2.1
 (.oI2 (gI s.2.1 s.2.2.2.2.2.2) x.1
 (.b00 s.2.2.1
 (.b00 s.2.2.2.1
 (.b00 s.2.2.2.2.1
 (.ret (.inl (s.1,(s.2.1,((decide ((w64 ((w64 ((gT x.1 (gI s.1 s.2.2.2.2.2.1) zz9).1.1 + (gT x.1 (gI s.1 s.2.2.2.2.2.1) zz9).2.1.1)) + (gT x.1 (gI s.1 s.2.2.2.2.2.1) zz9).2.2.1)) ≤ (w64 ((w64 ((gT x.1 (gI s.2.1 s.2.2.2.2.2.2) zz9).1.1 + (gT x.1 (gI s.2.1 s.2.2.2.2.2.2) zz9).2.1.1)) + (gT x.1 (gI s.2.1 s.2.2.2.2.2.2) zz9).2.2.1)))),((decide ((w64 ((w64 ((gT x.1 (gI s.1 s.2.2.2.2.2.1) zz9).1.2.1 + (gT x.1 (gI s.1 s.2.2.2.2.2.1) zz9).2.1.2.1)) + (gT x.1 (gI s.1 s.2.2.2.2.2.1) zz9).2.2.2.1)) ≤ (w64 ((w64 ((gT x.1 (gI s.2.1 s.2.2.2.2.2.2) zz9).1.2.1 + (gT x.1 (gI s.2.1 s.2.2.2.2.2.2) zz9).2.1.2.1)) + (gT x.1 (gI s.2.1 s.2.2.2.2.2.2) zz9).2.2.2.1)))),((decide ((w64 ((w64 ((gT x.1 (gI s.1 s.2.2.2.2.2.1) zz9).1.2.2 + (gT x.1 (gI s.1 s.2.2.2.2.2.1) zz9).2.1.2.2)) + (gT x.1 (gI s.1 s.2.2.2.2.2.1) zz9).2.2.2.2)) ≤ (w64 ((w64 ((gT x.1 (gI s.2.1 s.2.2.2.2.2.2) zz9).1.2.2 + (gT x.1 (gI s.2.1 s.2.2.2.2.2.2) zz9).2.1.2.2)) + (gT x.1 (gI s.2.1 s.2.2.2.2.2.2) zz9).2.2.2.2)))),(s.2.2.2.2.2.1,(w1 s.2.2.2.2.2.2)))))))))
 (.ret (.inl (s.1,(s.2.1,((decide ((w64 ((w64 ((gT x.1 (gI s.1 s.2.2.2.2.2.1) zz9).1.1 + (gT x.1 (gI s.1 s.2.2.2.2.2.1) zz9).2.1.1)) + (gT x.1 (gI s.1 s.2.2.2.2.2.1) zz9).2.2.1)) ≤ (w64 ((w64 ((gT x.1 (gI s.2.1 s.2.2.2.2.2.2) zz9).1.1 + (gT x.1 (gI s.2.1 s.2.2.2.2.2.2) zz9).2.1.1)) + (gT x.1 (gI s.2.1 s.2.2.2.2.2.2) zz9).2.2.1)))),((decide ((w64 ((w64 ((gT x.1 (gI s.1 s.2.2.2.2.2.1) zz9).1.2.1 + (gT x.1 (gI s.1 s.2.2.2.2.2.1) zz9).2.1.2.1)) + (gT x.1 (gI s.1 s.2.2.2.2.2.1) zz9).2.2.2.1)) ≤ (w64 ((w64 ((gT x.1 (gI s.2.1 s.2.2.2.2.2.2) zz9).1.2.1 + (gT x.1 (gI s.2.1 s.2.2.2.2.2.2) zz9).2.1.2.1)) + (gT x.1 (gI s.2.1 s.2.2.2.2.2.2) zz9).2.2.2.1)))),(false,(s.2.2.2.2.2.1,(w1 s.2.2.2.2.2.2))))))))))
 (.b00 s.2.2.2.2.1
 (.ret (.inl (s.1,(s.2.1,((decide ((w64 ((w64 ((gT x.1 (gI s.1 s.2.2.2.2.2.1) zz9).1.1 + (gT x.1 (gI s.1 s.2.2.2.2.2.1) zz9).2.1.1)) + (gT x.1 (gI s.1 s.2.2.2.2.2.1) zz9).2.2.1)) ≤ (w64 ((w64 ((gT x.1 (gI s.2.1 s.2.2.2.2.2.2) zz9).1.1 + (gT x.1 (gI s.2.1 s.2.2.2.2.2.2) zz9).2.1.1)) + (gT x.1 (gI s.2.1 s.2.2.2.2.2.2) zz9).2.2.1)))),(false,((decide ((w64 ((w64 ((gT x.1 (gI s.1 s.2.2.2.2.2.1) zz9).1.2.2 + (gT x.1 (gI s.1 s.2.2.2.2.2.1) zz9).2.1.2.2)) + (gT x.1 (gI s.1 s.2.2.2.2.2.1) zz9).2.2.2.2)) ≤ (w64 ((w64 ((gT x.1 (gI s.2.1 s.2.2.2.2.2.2) zz9).1.2.2 + (gT x.1 (gI s.2.1 s.2.2.2.2.2.2) zz9).2.1.2.2)) + (gT x.1 (gI s.2.1 s.2.2.2.2.2.2) zz9).2.2.2.2)))),(s.2.2.2.2.2.1,(w1 s.2.2.2.2.2.2)))))))))
 (.ret (.inl (s.1,(s.2.1,((decide ((w64 ((w64 ((gT x.1 (gI s.1 s.2.2.2.2.2.1) zz9).1.1 + (gT x.1 (gI s.1 s.2.2.2.2.2.1) zz9).2.1.1)) + (gT x.1 (gI s.1 s.2.2.2.2.2.1) zz9).2.2.1)) ≤ (w64 ((w64 ((gT x.1 (gI s.2.1 s.2.2.2.2.2.2) zz9).1.1 + (gT x.1 (gI s.2.1 s.2.2.2.2.2.2) zz9).2.1.1)) + (gT x.1 (gI s.2.1 s.2.2.2.2.2.2) zz9).2.2.1)))),(false,(false,(s.2.2.2.2.2.1,(w1 s.2.2.2.2.2.2)))))))))))
 (.b00 s.2.2.2.1
 (.b00 s.2.2.2.2.1
 (.ret (.inl (s.1,(s.2.1,(false,((decide ((w64 ((w64 ((gT x.1 (gI s.1 s.2.2.2.2.2.1) zz9).1.2.1 + (gT x.1 (gI s.1 s.2.2.2.2.2.1) zz9).2.1.2.1)) + (gT x.1 (gI s.1 s.2.2.2.2.2.1) zz9).2.2.2.1)) ≤ (w64 ((w64 ((gT x.1 (gI s.2.1 s.2.2.2.2.2.2) zz9).1.2.1 + (gT x.1 (gI s.2.1 s.2.2.2.2.2.2) zz9).2.1.2.1)) + (gT x.1 (gI s.2.1 s.2.2.2.2.2.2) zz9).2.2.2.1)))),((decide ((w64 ((w64 ((gT x.1 (gI s.1 s.2.2.2.2.2.1) zz9).1.2.2 + (gT x.1 (gI s.1 s.2.2.2.2.2.1) zz9).2.1.2.2)) + (gT x.1 (gI s.1 s.2.2.2.2.2.1) zz9).2.2.2.2)) ≤ (w64 ((w64 ((gT x.1 (gI s.2.1 s.2.2.2.2.2.2) zz9).1.2.2 + (gT x.1 (gI s.2.1 s.2.2.2.2.2.2) zz9).2.1.2.2)) + (gT x.1 (gI s.2.1 s.2.2.2.2.2.2) zz9).2.2.2.2)))),(s.2.2.2.2.2.1,(w1 s.2.2.2.2.2.2)))))))))
 (.ret (.inl (s.1,(s.2.1,(false,((decide ((w64 ((w64 ((gT x.1 (gI s.1 s.2.2.2.2.2.1) zz9).1.2.1 + (gT x.1 (gI s.1 s.2.2.2.2.2.1) zz9).2.1.2.1)) + (gT x.1 (gI s.1 s.2.2.2.2.2.1) zz9).2.2.2.1)) ≤ (w64 ((w64 ((gT x.1 (gI s.2.1 s.2.2.2.2.2.2) zz9).1.2.1 + (gT x.1 (gI s.2.1 s.2.2.2.2.2.2) zz9).2.1.2.1)) + (gT x.1 (gI s.2.1 s.2.2.2.2.2.2) zz9).2.2.2.1)))),(false,(s.2.2.2.2.2.1,(w1 s.2.2.2.2.2.2))))))))))
 (.b00 s.2.2.2.2.1
 (.ret (.inl (s.1,(s.2.1,(false,(false,((decide ((w64 ((w64 ((gT x.1 (gI s.1 s.2.2.2.2.2.1) zz9).1.2.2 + (gT x.1 (gI s.1 s.2.2.2.2.2.1) zz9).2.1.2.2)) + (gT x.1 (gI s.1 s.2.2.2.2.2.1) zz9).2.2.2.2)) ≤ (w64 ((w64 ((gT x.1 (gI s.2.1 s.2.2.2.2.2.2) zz9).1.2.2 + (gT x.1 (gI s.2.1 s.2.2.2.2.2.2) zz9).2.1.2.2)) + (gT x.1 (gI s.2.1 s.2.2.2.2.2.2) zz9).2.2.2.2)))),(s.2.2.2.2.2.1,(w1 s.2.2.2.2.2.2)))))))))
 (.ret (.inl (s.1,(s.2.1,(false,(false,(false,(s.2.2.2.2.2.1,(w1 s.2.2.2.2.2.2))))))))))))))))))))))))
 (.ret (.inr (Sum.inr ((s.1,(s.2.1,(s.2.2.1,(s.2.2.2.1,(s.2.2.2.2.1,s.2.2.2.2.2.1))))))))))
def lawSplit_l8 (x : ((List I9) × (List Int))) : LoopD := ⟨[],⟨pvs 273 0 [(0,.v (.one (.full 0))),(5,.v (.one (.full 1))),(6,.v (.one (.full 2))),(13,.v (.one (.b))),(14,.v (.one (.b))),(15,.v (.one (.b))),(16,.v (.one (.i .i64)))],[.row yy9 0,.row yi 0,.row yi 0],0,none,[],[4],[5,6,0,1,2,3],[(.l yi),(.l yi),.b,.b,.b,.i],[.l yy9 x.1]⟩,[⟨.ret,.ret,⟨pvs 273 0 [(4,.v (.one (.b)))],[],0,none,[],[0],[],[],[.b false]⟩⟩,⟨(.exit 8),.normal,⟨pvs 273 0 [(13,.v (.one (.b))),(14,.v (.one (.b))),(15,.v (.one (.b)))],[],0,none,[],[],[0,1,2],[.b,.b,.b],[]⟩⟩]⟩
def lawSplit_l8_step (x : ((List I9) × (List Int))) (s : ((List Int) × ((List Int) × (Bool × (Bool × (Bool × Int)))))) : ((List Int) × ((List Int) × (Bool × (Bool × (Bool × Int))))) ⊕ (Unit ⊕ (Bool × (Bool × Bool))) :=
 (if (s.2.2.2.2.2 < (s.1.length:Int)) then
 (letV (run (lawSplit_l10_step x) (s.1,(s.2.1,(s.2.2.1,(s.2.2.2.1,(s.2.2.2.2.1,(s.2.2.2.2.2,(0:Int)))))))) fun r =>
 (Sum.elim (fun a =>
 (Sum.inr (Sum.inl ()))) (fun b =>
 (Sum.inl (b.1,(b.2.1,(b.2.2.1,(b.2.2.2.1,(b.2.2.2.2.1,(w64 (b.2.2.2.2.2 + (1:Int)))))))))) r)) else
 (Sum.inr (Sum.inr ((s.2.2.1,(s.2.2.2.1,s.2.2.2.2.1))))))
def lawSplit_l8_pre (x : ((List I9) × (List Int))) (s : ((List Int) × ((List Int) × (Bool × (Bool × (Bool × Int)))))) : Prop :=
 ((s.2.2.2.2.2 < (s.1.length:Int)) →
 (Term (lawSplit_l10_step x) (lawSplit_l10_pre x) (s.1,(s.2.1,(s.2.2.1,(s.2.2.2.1,(s.2.2.2.2.1,(s.2.2.2.2.2,(0:Int)))))))))
def lawSplit_l8_t (x : ((List I9) × (List Int))) (s : ((List Int) × ((List Int) × (Bool × (Bool × (Bool × Int)))))) : Tr (((List Int) × ((List Int) × (Bool × (Bool × (Bool × Int))))) ⊕ (Unit ⊕ (Bool × (Bool × Bool)))) true :=
 (.i10 (s.2.2.2.2.2 < (nL s.1))
 (LoopD.lp (lawSplit_l10 x) (lawSplit_l10_t x) (s.1,(s.2.1,(s.2.2.1,(s.2.2.2.1,(s.2.2.2.2.1,(s.2.2.2.2.2,z0)))))) fun r =>
 (.s00 r (fun a =>
 (.ret (.inr (Sum.inl ())))) (fun b =>
 (.ret (.inl (b.1,(b.2.1,(b.2.2.1,(b.2.2.2.1,(b.2.2.2.2.1,(w1 b.2.2.2.2.2)))))))))))
 (.ret (.inr (Sum.inr ((s.2.2.1,(s.2.2.2.1,s.2.2.2.2.1)))))))
def lawSplit (x : ((List I9) × (List Int))) : Bool :=
 (if ((x.1.length:Int) > (20:Int)) then
 true else
 (if ((x.2.length:Int) > (20:Int)) then
 true else
 (letV (splitN x) fun y =>
 (if ((y.2.2 != (0:Int)) = true) then
 (letV (grownM false) fun y_1 =>
 (if (y_1 = true) then
 ((w64 ((y.1.length:Int) + (y.2.1.length:Int))) == (0:Int)) else
 false)) else
 (if (((w64 ((y.1.length:Int) + (y.2.1.length:Int))) != (x.2.length:Int)) = true) then
 false else
 (if ((w64 ((y.2.1.length:Int) - (y.1.length:Int))) < (0:Int)) then
 false else
 (if ((w64 ((y.2.1.length:Int) - (y.1.length:Int))) > (1:Int)) then
 false else
 (letV (run (lawSplit_l0_step x) (y.1,(y.2.1,(0:Int)))) fun r =>
 (Sum.elim (fun a =>
 false) (fun b =>
 (letV (run (lawSplit_l8_step x) (b.1,(b.2,(true,(true,(true,(0:Int))))))) fun r_1 =>
 (Sum.elim (fun a =>
 false) (fun b_1 =>
 (letV (grownM false) fun y_1 =>
 (if (y_1 = true) then
 (if (b_1.1 = true) then
 true else
 (if (b_1.2.1 = true) then
 true else
 b_1.2.2)) else
 false))) r_1))) r)))))))))
def lawSplit_pre (x : ((List I9) × (List Int))) : Prop :=
 (¬ ((x.1.length:Int) > (20:Int)) →
 (¬ ((x.2.length:Int) > (20:Int)) →
 ((splitN_pre x) ∧
 letP (splitN x) fun y =>
 ((((y.2.2 != (0:Int)) = true) →
 (grownM_pre false)) ∧
 (¬ ((y.2.2 != (0:Int)) = true) →
 (¬ (((w64 ((y.1.length:Int) + (y.2.1.length:Int))) != (x.2.length:Int)) = true) →
 (¬ ((w64 ((y.2.1.length:Int) - (y.1.length:Int))) < (0:Int)) →
 (¬ ((w64 ((y.2.1.length:Int) - (y.1.length:Int))) > (1:Int)) →
 (Term (lawSplit_l0_step x) (lawSplit_l0_pre x) (y.1,(y.2.1,(0:Int))) ∧
 letP (run (lawSplit_l0_step x) (y.1,(y.2.1,(0:Int)))) fun r =>
 (cS r (fun a =>
 True) (fun b =>
 (Term (lawSplit_l8_step x) (lawSplit_l8_pre x) (b.1,(b.2,(true,(true,(true,(0:Int)))))) ∧
 letP (run (lawSplit_l8_step x) (b.1,(b.2,(true,(true,(true,(0:Int))))))) fun r_1 =>
 (cS r_1 (fun a =>
 True) (fun b_1 =>
 (grownM_pre false)))))))))))))))
def lawSplit_t (x : ((List I9) × (List Int))) : Tr Bool true :=
 (.i01 ((nL x.1) > (20:Int))
 (.ret true)
 (.i01 ((nL x.2) > (20:Int))
 (.ret true)
 (.fn splitN_S x fun y =>
 (.b11 (y.2.2 != z0)
 (.fn grownM_S false fun y_1 =>
 (.b00 y_1
 (.ret ((w64 ((nL y.1) + (nL y.2.1))) == z0))
 (.ret false)))
 (.b01 ((w64 ((nL y.1) + (nL y.2.1))) != (nL x.2))
 (.ret false)
 (.i01 ((w64 ((nL y.2.1) - (nL y.1))) < z0)
 (.ret false)
 (.i01 ((w64 ((nL y.2.1) - (nL y.1))) > z1)
 (.ret false)
 (LoopD.lp (lawSplit_l0 x) (lawSplit_l0_t x) (y.1,(y.2.1,z0)) fun r =>
 (.s01 r (fun a =>
 (.ret false)) (fun b =>
 (LoopD.lp (lawSplit_l8 x) (lawSplit_l8_t x) (b.1,(b.2,(true,(true,(true,z0))))) fun r_1 =>
 (.s01 r_1 (fun a =>
 (.ret false)) (fun b_1 =>
 (.fn grownM_S false fun y_1 =>
 (.b00 y_1
 (.b00 b_1.1
 (.ret true)
 (.b00 b_1.2.1
 (.ret true)
 (.ret b_1.2.2)))
 (.ret false))))))))))))))))
abbrev lawSplit_S : FnS := ⟨(.pair (.one (Ty.sl yy9)) (.one (Ty.sl yi))),(.one Ty.bool),lawSplit_pre,lawSplit⟩
theorem lawSplit_ok : SpecOk Try.prog 4 (fnSpec lawSplit_S) := SpecOk.tr lawSplit_S lawSplit_t (fn := Try.f4) tt_ok sp_grownM_ok mixed (by kernel_rfl) (ItsOk.nil _ _) (fun x => (LpsOk.tr tt_ok (SpecsOk.ctxI sp_grownM_ok (ItsOk.nil _ _)) mixed 0 (lawSplit_l0 x) (lawSplit_l0_t x) (LpsOk.tr tt_ok (SpecsOk.ctxI sp_grownM_ok (ItsOk.nil _ _)) mixed 2 (lawSplit_l2 x) (lawSplit_l2_t x) (LpsOk.tr tt_ok (SpecsOk.ctxI sp_grownM_ok (ItsOk.nil _ _)) mixed 4 (lawSplit_l4 x) (lawSplit_l4_t x) (LpsOk.tr tt_ok (SpecsOk.ctxI sp_grownM_ok (ItsOk.nil _ _)) mixed 6 (lawSplit_l6 x) (lawSplit_l6_t x) (LpsOk.tr tt_ok (SpecsOk.ctxI sp_grownM_ok (ItsOk.nil _ _)) mixed 8 (lawSplit_l8 x) (lawSplit_l8_t x) (LpsOk.tr tt_ok (SpecsOk.ctxI sp_grownM_ok (ItsOk.nil _ _)) mixed 10 (lawSplit_l10 x) (lawSplit_l10_t x) LpsOk.nil (by kernel_rfl) fun g s Q => (by kernel_rfl)) (by kernel_rfl) fun g s Q => (by kernel_rfl)) (by kernel_rfl) fun g s Q => (by kernel_rfl)) (by kernel_rfl) fun g s Q => (by kernel_rfl)) (by kernel_rfl) fun g s Q => (by kernel_rfl)) (by kernel_rfl) fun g s Q => (by kernel_rfl))) (fun x => (by kernel_rfl)) fun x Q => (by kernel_rfl)
end Go.Proofs.Ytaipcbdilkcdbaa
