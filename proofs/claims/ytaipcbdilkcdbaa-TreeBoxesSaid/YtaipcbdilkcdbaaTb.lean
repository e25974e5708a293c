/- Sorting: the function that calls itself. -/
import Derived.Test.YtaipcbdilkcdbaaTa
noncomputable section
set_option linter.unusedSectionVars false
set_option linter.unusedVariables false
set_option linter.unusedSimpArgs false
namespace Go.Proofs.Ytaipcbdilkcdbaa
open Go Go.Ev Go.Proofs
abbrev pdqP : WPar := .pair (.row (.int .i64)) (.pair (.val (.one (.int .i64))) (.pair (.val (.one (.int .i64))) (.pair (.val (.one (.int .i64))) (.val cmpP))))
class PdqSelf where
 pre : List Int × Int × Int × Int × RT → Prop
 f : List Int × Int × Int × Int × RT → Bool × List Int × Bool × Bool × Bool × Bool
 ok : SpecOk Try.prog 51 (fnSpecW ⟨pdqP,.none,pre,f⟩)
section
variable [PdqSelf]
def pdqR (x : List Int × Int × Int × Int × RT) : Bool × List Int × Bool × Bool × Bool × Bool := PdqSelf.f x
def pdqR_pre (x : List Int × Int × Int × Int × RT) : Prop := PdqSelf.pre x
abbrev pdqR_S : FnW := ⟨pdqP,.none,pdqR_pre,pdqR⟩
theorem pdqR_ok : SpecOk Try.prog 51 (fnSpecW pdqR_S) := PdqSelf.ok
def sp_pdqR : List (Nat × Ev.Spec) := (51,fnSpecW pdqR_S) :: sp_pInsM
theorem sp_pdqR_ok : SpecsOk Try.prog sp_pdqR := SpecsOk.add (fn := Try.f51) (by kernel_rfl) pdqR_ok sp_pInsM_ok
def pdqM_l0_3 (x : ((List Int) × (Int × (Int × (Int × ((List I9) × Int)))))) : LoopD := ⟨[.env],⟨pvs 148 0 [(0,.v (.one (.full 0))),(1,.v (.one (.i .i64))),(2,.v (.one (.i .i64))),(3,.v (.one (.i .i64))),(4,.v (.one (.mv 37 true [.full 1,.ext]))),(10,.v (.one (.b))),(11,.v (.one (.b)))],[.row yi 1,.row yy9 0,.pin 2],3,none,[8],[3,7],[6,0,1,2,4,5],[(.l yi),.i,.i,.i,.b,.b],[.v (.int .i64 x.2.2.2.2.2),.l yy9 x.2.2.2.2.1]⟩,[⟨.ret,.ret,⟨pvs 148 0 [],[.row yi 1,.row yy9 0,.pin 2],3,none,[2],[1],[0],[(.l yi)],[.l yy9 x.2.2.2.2.1]⟩⟩]⟩
def pdqM_l0_3_step (x : ((List Int) × (Int × (Int × (Int × ((List I9) × Int)))))) (s : ((List Int) × (Int × (Int × (Int × (Bool × Bool)))))) : ((List Int) × (Int × (Int × (Int × (Bool × Bool))))) ⊕ (List Int) :=
 (if ((w64 (s.2.2.1 - s.2.1)) ≤ (12:Int)) then
 (letV (insM (s.1,(s.2.1,(s.2.2.1,x.2.2.2.2)))) fun y =>
 (Sum.inr (y.2.1))) else
 (if ((s.2.2.2.1 == (0:Int)) = true) then
 (letV (heapM (s.1,(s.2.1,(s.2.2.1,x.2.2.2.2)))) fun y =>
 (Sum.inr (y.2.1))) else
 (if ((!s.2.2.2.2.1) = true) then
 (letV (brkM (s.1,(s.2.1,(s.2.2.1,x.2.2.2.2)))) fun y =>
 (letV (pivM (y.2.1,(s.2.1,(s.2.2.1,x.2.2.2.2)))) fun y_1 =>
 (if ((y_1.2 == (2:Int)) = true) then
 (letV (revM (y.2.1,(s.2.1,(s.2.2.1,x.2.2.2.2)))) fun y_2 =>
 (if (s.2.2.2.2.1 = true) then
 (if (s.2.2.2.2.2 = true) then
 (letV (pInsM (y_2.2.1,(s.2.1,(s.2.2.1,x.2.2.2.2)))) fun y_3 =>
 (if (y_3.1 = true) then
 (Sum.inr (y_3.2.1)) else
 (if (s.2.1 > (0:Int)) then
 (letV (byM (x.2.2.2.2,((List.getD y_3.2.1 (Int.toNat (w64 (s.2.1 - (1:Int)))) (0:Int)),(List.getD y_3.2.1 (Int.toNat (w64 ((w64 (s.2.2.1 - (1:Int))) - (w64 (y_1.1 - s.2.1))))) (0:Int))))) fun y_4 =>
 (if ((!(decide (y_4 < (0:Int)))) = true) then
 (letV (partEM (y_3.2.1,(s.2.1,(s.2.2.1,((w64 ((w64 (s.2.2.1 - (1:Int))) - (w64 (y_1.1 - s.2.1)))),x.2.2.2.2))))) fun y_5 =>
 (Sum.inl (y_5.2.1,(y_5.1,(s.2.2.1,((w64 (s.2.2.2.1 - (1:Int))),(s.2.2.2.2.1,s.2.2.2.2.2))))))) else
 (letV (partM (y_3.2.1,(s.2.1,(s.2.2.1,((w64 ((w64 (s.2.2.1 - (1:Int))) - (w64 (y_1.1 - s.2.1)))),x.2.2.2.2))))) fun y_5 =>
 (if ((w64 (y_5.1.1 - s.2.1)) < (w64 (s.2.2.1 - y_5.1.1))) then
 (letV (pdqR (y_5.2.1,(s.2.1,(y_5.1.1,((w64 (s.2.2.2.1 - (1:Int))),x.2.2.2.2))))) fun y_6 =>
 (Sum.inl (y_6.2.1,((w64 (y_5.1.1 + (1:Int))),(s.2.2.1,((w64 (s.2.2.2.1 - (1:Int))),((decide ((w64 (y_5.1.1 - s.2.1)) ≥ (w64 (Int.tdiv (w64 (s.2.2.1 - s.2.1)) (8:Int))))),y_5.1.2))))))) else
 (letV (pdqR (y_5.2.1,((w64 (y_5.1.1 + (1:Int))),(s.2.2.1,((w64 (s.2.2.2.1 - (1:Int))),x.2.2.2.2))))) fun y_6 =>
 (Sum.inl (y_6.2.1,(s.2.1,(y_5.1.1,((w64 (s.2.2.2.1 - (1:Int))),((decide ((w64 (s.2.2.1 - y_5.1.1)) ≥ (w64 (Int.tdiv (w64 (s.2.2.1 - s.2.1)) (8:Int))))),y_5.1.2))))))))))) else
 (letV (partM (y_3.2.1,(s.2.1,(s.2.2.1,((w64 ((w64 (s.2.2.1 - (1:Int))) - (w64 (y_1.1 - s.2.1)))),x.2.2.2.2))))) fun y_4 =>
 (if ((w64 (y_4.1.1 - s.2.1)) < (w64 (s.2.2.1 - y_4.1.1))) then
 (letV (pdqR (y_4.2.1,(s.2.1,(y_4.1.1,((w64 (s.2.2.2.1 - (1:Int))),x.2.2.2.2))))) fun y_5 =>
 (Sum.inl (y_5.2.1,((w64 (y_4.1.1 + (1:Int))),(s.2.2.1,((w64 (s.2.2.2.1 - (1:Int))),((decide ((w64 (y_4.1.1 - s.2.1)) ≥ (w64 (Int.tdiv (w64 (s.2.2.1 - s.2.1)) (8:Int))))),y_4.1.2))))))) else
 (letV (pdqR (y_4.2.1,((w64 (y_4.1.1 + (1:Int))),(s.2.2.1,((w64 (s.2.2.2.1 - (1:Int))),x.2.2.2.2))))) fun y_5 =>
 (Sum.inl (y_5.2.1,(s.2.1,(y_4.1.1,((w64 (s.2.2.2.1 - (1:Int))),((decide ((w64 (s.2.2.1 - y_4.1.1)) ≥ (w64 (Int.tdiv (w64 (s.2.2.1 - s.2.1)) (8:Int))))),y_4.1.2)))))))))))) else
 (if (s.2.1 > (0:Int)) then
 (letV (byM (x.2.2.2.2,((List.getD y_2.2.1 (Int.toNat (w64 (s.2.1 - (1:Int)))) (0:Int)),(List.getD y_2.2.1 (Int.toNat (w64 ((w64 (s.2.2.1 - (1:Int))) - (w64 (y_1.1 - s.2.1))))) (0:Int))))) fun y_3 =>
 (if ((!(decide (y_3 < (0:Int)))) = true) then
 (letV (partEM (y_2.2.1,(s.2.1,(s.2.2.1,((w64 ((w64 (s.2.2.1 - (1:Int))) - (w64 (y_1.1 - s.2.1)))),x.2.2.2.2))))) fun y_4 =>
 (Sum.inl (y_4.2.1,(y_4.1,(s.2.2.1,((w64 (s.2.2.2.1 - (1:Int))),(s.2.2.2.2.1,s.2.2.2.2.2))))))) else
 (letV (partM (y_2.2.1,(s.2.1,(s.2.2.1,((w64 ((w64 (s.2.2.1 - (1:Int))) - (w64 (y_1.1 - s.2.1)))),x.2.2.2.2))))) fun y_4 =>
 (if ((w64 (y_4.1.1 - s.2.1)) < (w64 (s.2.2.1 - y_4.1.1))) then
 (letV (pdqR (y_4.2.1,(s.2.1,(y_4.1.1,((w64 (s.2.2.2.1 - (1:Int))),x.2.2.2.2))))) fun y_5 =>
 (Sum.inl (y_5.2.1,((w64 (y_4.1.1 + (1:Int))),(s.2.2.1,((w64 (s.2.2.2.1 - (1:Int))),((decide ((w64 (y_4.1.1 - s.2.1)) ≥ (w64 (Int.tdiv (w64 (s.2.2.1 - s.2.1)) (8:Int))))),y_4.1.2))))))) else
 (letV (pdqR (y_4.2.1,((w64 (y_4.1.1 + (1:Int))),(s.2.2.1,((w64 (s.2.2.2.1 - (1:Int))),x.2.2.2.2))))) fun y_5 =>
 (Sum.inl (y_5.2.1,(s.2.1,(y_4.1.1,((w64 (s.2.2.2.1 - (1:Int))),((decide ((w64 (s.2.2.1 - y_4.1.1)) ≥ (w64 (Int.tdiv (w64 (s.2.2.1 - s.2.1)) (8:Int))))),y_4.1.2))))))))))) else
 (letV (partM (y_2.2.1,(s.2.1,(s.2.2.1,((w64 ((w64 (s.2.2.1 - (1:Int))) - (w64 (y_1.1 - s.2.1)))),x.2.2.2.2))))) fun y_3 =>
 (if ((w64 (y_3.1.1 - s.2.1)) < (w64 (s.2.2.1 - y_3.1.1))) then
 (letV (pdqR (y_3.2.1,(s.2.1,(y_3.1.1,((w64 (s.2.2.2.1 - (1:Int))),x.2.2.2.2))))) fun y_4 =>
 (Sum.inl (y_4.2.1,((w64 (y_3.1.1 + (1:Int))),(s.2.2.1,((w64 (s.2.2.2.1 - (1:Int))),((decide ((w64 (y_3.1.1 - s.2.1)) ≥ (w64 (Int.tdiv (w64 (s.2.2.1 - s.2.1)) (8:Int))))),y_3.1.2))))))) else
 (letV (pdqR (y_3.2.1,((w64 (y_3.1.1 + (1:Int))),(s.2.2.1,((w64 (s.2.2.2.1 - (1:Int))),x.2.2.2.2))))) fun y_4 =>
 (Sum.inl (y_4.2.1,(s.2.1,(y_3.1.1,((w64 (s.2.2.2.1 - (1:Int))),((decide ((w64 (s.2.2.1 - y_3.1.1)) ≥ (w64 (Int.tdiv (w64 (s.2.2.1 - s.2.1)) (8:Int))))),y_3.1.2))))))))))) else
 (if (s.2.1 > (0:Int)) then
 (letV (byM (x.2.2.2.2,((List.getD y_2.2.1 (Int.toNat (w64 (s.2.1 - (1:Int)))) (0:Int)),(List.getD y_2.2.1 (Int.toNat (w64 ((w64 (s.2.2.1 - (1:Int))) - (w64 (y_1.1 - s.2.1))))) (0:Int))))) fun y_3 =>
 (if ((!(decide (y_3 < (0:Int)))) = true) then
 (letV (partEM (y_2.2.1,(s.2.1,(s.2.2.1,((w64 ((w64 (s.2.2.1 - (1:Int))) - (w64 (y_1.1 - s.2.1)))),x.2.2.2.2))))) fun y_4 =>
 (Sum.inl (y_4.2.1,(y_4.1,(s.2.2.1,((w64 (s.2.2.2.1 - (1:Int))),(s.2.2.2.2.1,s.2.2.2.2.2))))))) else
 (letV (partM (y_2.2.1,(s.2.1,(s.2.2.1,((w64 ((w64 (s.2.2.1 - (1:Int))) - (w64 (y_1.1 - s.2.1)))),x.2.2.2.2))))) fun y_4 =>
 (if ((w64 (y_4.1.1 - s.2.1)) < (w64 (s.2.2.1 - y_4.1.1))) then
 (letV (pdqR (y_4.2.1,(s.2.1,(y_4.1.1,((w64 (s.2.2.2.1 - (1:Int))),x.2.2.2.2))))) fun y_5 =>
 (Sum.inl (y_5.2.1,((w64 (y_4.1.1 + (1:Int))),(s.2.2.1,((w64 (s.2.2.2.1 - (1:Int))),((decide ((w64 (y_4.1.1 - s.2.1)) ≥ (w64 (Int.tdiv (w64 (s.2.2.1 - s.2.1)) (8:Int))))),y_4.1.2))))))) else
 (letV (pdqR (y_4.2.1,((w64 (y_4.1.1 + (1:Int))),(s.2.2.1,((w64 (s.2.2.2.1 - (1:Int))),x.2.2.2.2))))) fun y_5 =>
 (Sum.inl (y_5.2.1,(s.2.1,(y_4.1.1,((w64 (s.2.2.2.1 - (1:Int))),((decide ((w64 (s.2.2.1 - y_4.1.1)) ≥ (w64 (Int.tdiv (w64 (s.2.2.1 - s.2.1)) (8:Int))))),y_4.1.2))))))))))) else
 (letV (partM (y_2.2.1,(s.2.1,(s.2.2.1,((w64 ((w64 (s.2.2.1 - (1:Int))) - (w64 (y_1.1 - s.2.1)))),x.2.2.2.2))))) fun y_3 =>
 (if ((w64 (y_3.1.1 - s.2.1)) < (w64 (s.2.2.1 - y_3.1.1))) then
 (letV (pdqR (y_3.2.1,(s.2.1,(y_3.1.1,((w64 (s.2.2.2.1 - (1:Int))),x.2.2.2.2))))) fun y_4 =>
 (Sum.inl (y_4.2.1,((w64 (y_3.1.1 + (1:Int))),(s.2.2.1,((w64 (s.2.2.2.1 - (1:Int))),((decide ((w64 (y_3.1.1 - s.2.1)) ≥ (w64 (Int.tdiv (w64 (s.2.2.1 - s.2.1)) (8:Int))))),y_3.1.2))))))) else
 (letV (pdqR (y_3.2.1,((w64 (y_3.1.1 + (1:Int))),(s.2.2.1,((w64 (s.2.2.2.1 - (1:Int))),x.2.2.2.2))))) fun y_4 =>
 (Sum.inl (y_4.2.1,(s.2.1,(y_3.1.1,((w64 (s.2.2.2.1 - (1:Int))),((decide ((w64 (s.2.2.1 - y_3.1.1)) ≥ (w64 (Int.tdiv (w64 (s.2.2.1 - s.2.1)) (8:Int))))),y_3.1.2)))))))))))) else
 (if (s.2.2.2.2.1 = true) then
 (if (s.2.2.2.2.2 = true) then
 (if ((y_1.2 == (1:Int)) = true) then
 (letV (pInsM (y.2.1,(s.2.1,(s.2.2.1,x.2.2.2.2)))) fun y_2 =>
 (if (y_2.1 = true) then
 (Sum.inr (y_2.2.1)) else
 (if (s.2.1 > (0:Int)) then
 (letV (byM (x.2.2.2.2,((List.getD y_2.2.1 (Int.toNat (w64 (s.2.1 - (1:Int)))) (0:Int)),(List.getD y_2.2.1 (Int.toNat y_1.1) (0:Int))))) fun y_3 =>
 (if ((!(decide (y_3 < (0:Int)))) = true) then
 (letV (partEM (y_2.2.1,(s.2.1,(s.2.2.1,(y_1.1,x.2.2.2.2))))) fun y_4 =>
 (Sum.inl (y_4.2.1,(y_4.1,(s.2.2.1,((w64 (s.2.2.2.1 - (1:Int))),(s.2.2.2.2.1,s.2.2.2.2.2))))))) else
 (letV (partM (y_2.2.1,(s.2.1,(s.2.2.1,(y_1.1,x.2.2.2.2))))) fun y_4 =>
 (if ((w64 (y_4.1.1 - s.2.1)) < (w64 (s.2.2.1 - y_4.1.1))) then
 (letV (pdqR (y_4.2.1,(s.2.1,(y_4.1.1,((w64 (s.2.2.2.1 - (1:Int))),x.2.2.2.2))))) fun y_5 =>
 (Sum.inl (y_5.2.1,((w64 (y_4.1.1 + (1:Int))),(s.2.2.1,((w64 (s.2.2.2.1 - (1:Int))),((decide ((w64 (y_4.1.1 - s.2.1)) ≥ (w64 (Int.tdiv (w64 (s.2.2.1 - s.2.1)) (8:Int))))),y_4.1.2))))))) else
 (letV (pdqR (y_4.2.1,((w64 (y_4.1.1 + (1:Int))),(s.2.2.1,((w64 (s.2.2.2.1 - (1:Int))),x.2.2.2.2))))) fun y_5 =>
 (Sum.inl (y_5.2.1,(s.2.1,(y_4.1.1,((w64 (s.2.2.2.1 - (1:Int))),((decide ((w64 (s.2.2.1 - y_4.1.1)) ≥ (w64 (Int.tdiv (w64 (s.2.2.1 - s.2.1)) (8:Int))))),y_4.1.2))))))))))) else
 (letV (partM (y_2.2.1,(s.2.1,(s.2.2.1,(y_1.1,x.2.2.2.2))))) fun y_3 =>
 (if ((w64 (y_3.1.1 - s.2.1)) < (w64 (s.2.2.1 - y_3.1.1))) then
 (letV (pdqR (y_3.2.1,(s.2.1,(y_3.1.1,((w64 (s.2.2.2.1 - (1:Int))),x.2.2.2.2))))) fun y_4 =>
 (Sum.inl (y_4.2.1,((w64 (y_3.1.1 + (1:Int))),(s.2.2.1,((w64 (s.2.2.2.1 - (1:Int))),((decide ((w64 (y_3.1.1 - s.2.1)) ≥ (w64 (Int.tdiv (w64 (s.2.2.1 - s.2.1)) (8:Int))))),y_3.1.2))))))) else
 (letV (pdqR (y_3.2.1,((w64 (y_3.1.1 + (1:Int))),(s.2.2.1,((w64 (s.2.2.2.1 - (1:Int))),x.2.2.2.2))))) fun y_4 =>
 (Sum.inl (y_4.2.1,(s.2.1,(y_3.1.1,((w64 (s.2.2.2.1 - (1:Int))),((decide ((w64 (s.2.2.1 - y_3.1.1)) ≥ (w64 (Int.tdiv (w64 (s.2.2.1 - s.2.1)) (8:Int))))),y_3.1.2)))))))))))) else
 (if (s.2.1 > (0:Int)) then
 (letV (byM (x.2.2.2.2,((List.getD y.2.1 (Int.toNat (w64 (s.2.1 - (1:Int)))) (0:Int)),(List.getD y.2.1 (Int.toNat y_1.1) (0:Int))))) fun y_2 =>
 (if ((!(decide (y_2 < (0:Int)))) = true) then
 (letV (partEM (y.2.1,(s.2.1,(s.2.2.1,(y_1.1,x.2.2.2.2))))) fun y_3 =>
 (Sum.inl (y_3.2.1,(y_3.1,(s.2.2.1,((w64 (s.2.2.2.1 - (1:Int))),(s.2.2.2.2.1,s.2.2.2.2.2))))))) else
 (letV (partM (y.2.1,(s.2.1,(s.2.2.1,(y_1.1,x.2.2.2.2))))) fun y_3 =>
 (if ((w64 (y_3.1.1 - s.2.1)) < (w64 (s.2.2.1 - y_3.1.1))) then
 (letV (pdqR (y_3.2.1,(s.2.1,(y_3.1.1,((w64 (s.2.2.2.1 - (1:Int))),x.2.2.2.2))))) fun y_4 =>
 (Sum.inl (y_4.2.1,((w64 (y_3.1.1 + (1:Int))),(s.2.2.1,((w64 (s.2.2.2.1 - (1:Int))),((decide ((w64 (y_3.1.1 - s.2.1)) ≥ (w64 (Int.tdiv (w64 (s.2.2.1 - s.2.1)) (8:Int))))),y_3.1.2))))))) else
 (letV (pdqR (y_3.2.1,((w64 (y_3.1.1 + (1:Int))),(s.2.2.1,((w64 (s.2.2.2.1 - (1:Int))),x.2.2.2.2))))) fun y_4 =>
 (Sum.inl (y_4.2.1,(s.2.1,(y_3.1.1,((w64 (s.2.2.2.1 - (1:Int))),((decide ((w64 (s.2.2.1 - y_3.1.1)) ≥ (w64 (Int.tdiv (w64 (s.2.2.1 - s.2.1)) (8:Int))))),y_3.1.2))))))))))) else
 (letV (partM (y.2.1,(s.2.1,(s.2.2.1,(y_1.1,x.2.2.2.2))))) fun y_2 =>
 (if ((w64 (y_2.1.1 - s.2.1)) < (w64 (s.2.2.1 - y_2.1.1))) then
 (letV (pdqR (y_2.2.1,(s.2.1,(y_2.1.1,((w64 (s.2.2.2.1 - (1:Int))),x.2.2.2.2))))) fun y_3 =>
 (Sum.inl (y_3.2.1,((w64 (y_2.1.1 + (1:Int))),(s.2.2.1,((w64 (s.2.2.2.1 - (1:Int))),((decide ((w64 (y_2.1.1 - s.2.1)) ≥ (w64 (Int.tdiv (w64 (s.2.2.1 - s.2.1)) (8:Int))))),y_2.1.2))))))) else
 (letV (pdqR (y_2.2.1,((w64 (y_2.1.1 + (1:Int))),(s.2.2.1,((w64 (s.2.2.2.1 - (1:Int))),x.2.2.2.2))))) fun y_3 =>
 (Sum.inl (y_3.2.1,(s.2.1,(y_2.1.1,((w64 (s.2.2.2.1 - (1:Int))),((decide ((w64 (s.2.2.1 - y_2.1.1)) ≥ (w64 (Int.tdiv (w64 (s.2.2.1 - s.2.1)) (8:Int))))),y_2.1.2))))))))))) else
 (if (s.2.1 > (0:Int)) then
 (letV (byM (x.2.2.2.2,((List.getD y.2.1 (Int.toNat (w64 (s.2.1 - (1:Int)))) (0:Int)),(List.getD y.2.1 (Int.toNat y_1.1) (0:Int))))) fun y_2 =>
 (if ((!(decide (y_2 < (0:Int)))) = true) then
 (letV (partEM (y.2.1,(s.2.1,(s.2.2.1,(y_1.1,x.2.2.2.2))))) fun y_3 =>
 (Sum.inl (y_3.2.1,(y_3.1,(s.2.2.1,((w64 (s.2.2.2.1 - (1:Int))),(s.2.2.2.2.1,s.2.2.2.2.2))))))) else
 (letV (partM (y.2.1,(s.2.1,(s.2.2.1,(y_1.1,x.2.2.2.2))))) fun y_3 =>
 (if ((w64 (y_3.1.1 - s.2.1)) < (w64 (s.2.2.1 - y_3.1.1))) then
 (letV (pdqR (y_3.2.1,(s.2.1,(y_3.1.1,((w64 (s.2.2.2.1 - (1:Int))),x.2.2.2.2))))) fun y_4 =>
 (Sum.inl (y_4.2.1,((w64 (y_3.1.1 + (1:Int))),(s.2.2.1,((w64 (s.2.2.2.1 - (1:Int))),((decide ((w64 (y_3.1.1 - s.2.1)) ≥ (w64 (Int.tdiv (w64 (s.2.2.1 - s.2.1)) (8:Int))))),y_3.1.2))))))) else
 (letV (pdqR (y_3.2.1,((w64 (y_3.1.1 + (1:Int))),(s.2.2.1,((w64 (s.2.2.2.1 - (1:Int))),x.2.2.2.2))))) fun y_4 =>
 (Sum.inl (y_4.2.1,(s.2.1,(y_3.1.1,((w64 (s.2.2.2.1 - (1:Int))),((decide ((w64 (s.2.2.1 - y_3.1.1)) ≥ (w64 (Int.tdiv (w64 (s.2.2.1 - s.2.1)) (8:Int))))),y_3.1.2))))))))))) else
 (letV (partM (y.2.1,(s.2.1,(s.2.2.1,(y_1.1,x.2.2.2.2))))) fun y_2 =>
 (if ((w64 (y_2.1.1 - s.2.1)) < (w64 (s.2.2.1 - y_2.1.1))) then
 (letV (pdqR (y_2.2.1,(s.2.1,(y_2.1.1,((w64 (s.2.2.2.1 - (1:Int))),x.2.2.2.2))))) fun y_3 =>
 (Sum.inl (y_3.2.1,((w64 (y_2.1.1 + (1:Int))),(s.2.2.1,((w64 (s.2.2.2.1 - (1:Int))),((decide ((w64 (y_2.1.1 - s.2.1)) ≥ (w64 (Int.tdiv (w64 (s.2.2.1 - s.2.1)) (8:Int))))),y_2.1.2))))))) else
 (letV (pdqR (y_2.2.1,((w64 (y_2.1.1 + (1:Int))),(s.2.2.1,((w64 (s.2.2.2.1 - (1:Int))),x.2.2.2.2))))) fun y_3 =>
 (Sum.inl (y_3.2.1,(s.2.1,(y_2.1.1,((w64 (s.2.2.2.1 - (1:Int))),((decide ((w64 (s.2.2.1 - y_2.1.1)) ≥ (w64 (Int.tdiv (w64 (s.2.2.1 - s.2.1)) (8:Int))))),y_2.1.2))))))))))) else
 (if (s.2.1 > (0:Int)) then
 (letV (byM (x.2.2.2.2,((List.getD y.2.1 (Int.toNat (w64 (s.2.1 - (1:Int)))) (0:Int)),(List.getD y.2.1 (Int.toNat y_1.1) (0:Int))))) fun y_2 =>
 (if ((!(decide (y_2 < (0:Int)))) = true) then
 (letV (partEM (y.2.1,(s.2.1,(s.2.2.1,(y_1.1,x.2.2.2.2))))) fun y_3 =>
 (Sum.inl (y_3.2.1,(y_3.1,(s.2.2.1,((w64 (s.2.2.2.1 - (1:Int))),(s.2.2.2.2.1,s.2.2.2.2.2))))))) else
 (letV (partM (y.2.1,(s.2.1,(s.2.2.1,(y_1.1,x.2.2.2.2))))) fun y_3 =>
 (if ((w64 (y_3.1.1 - s.2.1)) < (w64 (s.2.2.1 - y_3.1.1))) then
 (letV (pdqR (y_3.2.1,(s.2.1,(y_3.1.1,((w64 (s.2.2.2.1 - (1:Int))),x.2.2.2.2))))) fun y_4 =>
 (Sum.inl (y_4.2.1,((w64 (y_3.1.1 + (1:Int))),(s.2.2.1,((w64 (s.2.2.2.1 - (1:Int))),((decide ((w64 (y_3.1.1 - s.2.1)) ≥ (w64 (Int.tdiv (w64 (s.2.2.1 - s.2.1)) (8:Int))))),y_3.1.2))))))) else
 (letV (pdqR (y_3.2.1,((w64 (y_3.1.1 + (1:Int))),(s.2.2.1,((w64 (s.2.2.2.1 - (1:Int))),x.2.2.2.2))))) fun y_4 =>
 (Sum.inl (y_4.2.1,(s.2.1,(y_3.1.1,((w64 (s.2.2.2.1 - (1:Int))),((decide ((w64 (s.2.2.1 - y_3.1.1)) ≥ (w64 (Int.tdiv (w64 (s.2.2.1 - s.2.1)) (8:Int))))),y_3.1.2))))))))))) else
 (letV (partM (y.2.1,(s.2.1,(s.2.2.1,(y_1.1,x.2.2.2.2))))) fun y_2 =>
 (if ((w64 (y_2.1.1 - s.2.1)) < (w64 (s.2.2.1 - y_2.1.1))) then
 (letV (pdqR (y_2.2.1,(s.2.1,(y_2.1.1,((w64 (s.2.2.2.1 - (1:Int))),x.2.2.2.2))))) fun y_3 =>
 (Sum.inl (y_3.2.1,((w64 (y_2.1.1 + (1:Int))),(s.2.2.1,((w64 (s.2.2.2.1 - (1:Int))),((decide ((w64 (y_2.1.1 - s.2.1)) ≥ (w64 (Int.tdiv (w64 (s.2.2.1 - s.2.1)) (8:Int))))),y_2.1.2))))))) else
 (letV (pdqR (y_2.2.1,((w64 (y_2.1.1 + (1:Int))),(s.2.2.1,((w64 (s.2.2.2.1 - (1:Int))),x.2.2.2.2))))) fun y_3 =>
 (Sum.inl (y_3.2.1,(s.2.1,(y_2.1.1,((w64 (s.2.2.2.1 - (1:Int))),((decide ((w64 (s.2.2.1 - y_2.1.1)) ≥ (w64 (Int.tdiv (w64 (s.2.2.1 - s.2.1)) (8:Int))))),y_2.1.2)))))))))))))) else
 (letV (pivM (s.1,(s.2.1,(s.2.2.1,x.2.2.2.2)))) fun y =>
 (if ((y.2 == (2:Int)) = true) then
 (letV (revM (s.1,(s.2.1,(s.2.2.1,x.2.2.2.2)))) fun y_1 =>
 (if (s.2.2.2.2.1 = true) then
 (if (s.2.2.2.2.2 = true) then
 (letV (pInsM (y_1.2.1,(s.2.1,(s.2.2.1,x.2.2.2.2)))) fun y_2 =>
 (if (y_2.1 = true) then
 (Sum.inr (y_2.2.1)) else
 (if (s.2.1 > (0:Int)) then
 (letV (byM (x.2.2.2.2,((List.getD y_2.2.1 (Int.toNat (w64 (s.2.1 - (1:Int)))) (0:Int)),(List.getD y_2.2.1 (Int.toNat (w64 ((w64 (s.2.2.1 - (1:Int))) - (w64 (y.1 - s.2.1))))) (0:Int))))) fun y_3 =>
 (if ((!(decide (y_3 < (0:Int)))) = true) then
 (letV (partEM (y_2.2.1,(s.2.1,(s.2.2.1,((w64 ((w64 (s.2.2.1 - (1:Int))) - (w64 (y.1 - s.2.1)))),x.2.2.2.2))))) fun y_4 =>
 (Sum.inl (y_4.2.1,(y_4.1,(s.2.2.1,(s.2.2.2.1,(s.2.2.2.2.1,s.2.2.2.2.2))))))) else
 (letV (partM (y_2.2.1,(s.2.1,(s.2.2.1,((w64 ((w64 (s.2.2.1 - (1:Int))) - (w64 (y.1 - s.2.1)))),x.2.2.2.2))))) fun y_4 =>
 (if ((w64 (y_4.1.1 - s.2.1)) < (w64 (s.2.2.1 - y_4.1.1))) then
 (letV (pdqR (y_4.2.1,(s.2.1,(y_4.1.1,(s.2.2.2.1,x.2.2.2.2))))) fun y_5 =>
 (Sum.inl (y_5.2.1,((w64 (y_4.1.1 + (1:Int))),(s.2.2.1,(s.2.2.2.1,((decide ((w64 (y_4.1.1 - s.2.1)) ≥ (w64 (Int.tdiv (w64 (s.2.2.1 - s.2.1)) (8:Int))))),y_4.1.2))))))) else
 (letV (pdqR (y_4.2.1,((w64 (y_4.1.1 + (1:Int))),(s.2.2.1,(s.2.2.2.1,x.2.2.2.2))))) fun y_5 =>
 (Sum.inl (y_5.2.1,(s.2.1,(y_4.1.1,(s.2.2.2.1,((decide ((w64 (s.2.2.1 - y_4.1.1)) ≥ (w64 (Int.tdiv (w64 (s.2.2.1 - s.2.1)) (8:Int))))),y_4.1.2))))))))))) else
 (letV (partM (y_2.2.1,(s.2.1,(s.2.2.1,((w64 ((w64 (s.2.2.1 - (1:Int))) - (w64 (y.1 - s.2.1)))),x.2.2.2.2))))) fun y_3 =>
 (if ((w64 (y_3.1.1 - s.2.1)) < (w64 (s.2.2.1 - y_3.1.1))) then
 (letV (pdqR (y_3.2.1,(s.2.1,(y_3.1.1,(s.2.2.2.1,x.2.2.2.2))))) fun y_4 =>
 (Sum.inl (y_4.2.1,((w64 (y_3.1.1 + (1:Int))),(s.2.2.1,(s.2.2.2.1,((decide ((w64 (y_3.1.1 - s.2.1)) ≥ (w64 (Int.tdiv (w64 (s.2.2.1 - s.2.1)) (8:Int))))),y_3.1.2))))))) else
 (letV (pdqR (y_3.2.1,((w64 (y_3.1.1 + (1:Int))),(s.2.2.1,(s.2.2.2.1,x.2.2.2.2))))) fun y_4 =>
 (Sum.inl (y_4.2.1,(s.2.1,(y_3.1.1,(s.2.2.2.1,((decide ((w64 (s.2.2.1 - y_3.1.1)) ≥ (w64 (Int.tdiv (w64 (s.2.2.1 - s.2.1)) (8:Int))))),y_3.1.2)))))))))))) else
 (if (s.2.1 > (0:Int)) then
 (letV (byM (x.2.2.2.2,((List.getD y_1.2.1 (Int.toNat (w64 (s.2.1 - (1:Int)))) (0:Int)),(List.getD y_1.2.1 (Int.toNat (w64 ((w64 (s.2.2.1 - (1:Int))) - (w64 (y.1 - s.2.1))))) (0:Int))))) fun y_2 =>
 (if ((!(decide (y_2 < (0:Int)))) = true) then
 (letV (partEM (y_1.2.1,(s.2.1,(s.2.2.1,((w64 ((w64 (s.2.2.1 - (1:Int))) - (w64 (y.1 - s.2.1)))),x.2.2.2.2))))) fun y_3 =>
 (Sum.inl (y_3.2.1,(y_3.1,(s.2.2.1,(s.2.2.2.1,(s.2.2.2.2.1,s.2.2.2.2.2))))))) else
 (letV (partM (y_1.2.1,(s.2.1,(s.2.2.1,((w64 ((w64 (s.2.2.1 - (1:Int))) - (w64 (y.1 - s.2.1)))),x.2.2.2.2))))) fun y_3 =>
 (if ((w64 (y_3.1.1 - s.2.1)) < (w64 (s.2.2.1 - y_3.1.1))) then
 (letV (pdqR (y_3.2.1,(s.2.1,(y_3.1.1,(s.2.2.2.1,x.2.2.2.2))))) fun y_4 =>
 (Sum.inl (y_4.2.1,((w64 (y_3.1.1 + (1:Int))),(s.2.2.1,(s.2.2.2.1,((decide ((w64 (y_3.1.1 - s.2.1)) ≥ (w64 (Int.tdiv (w64 (s.2.2.1 - s.2.1)) (8:Int))))),y_3.1.2))))))) else
 (letV (pdqR (y_3.2.1,((w64 (y_3.1.1 + (1:Int))),(s.2.2.1,(s.2.2.2.1,x.2.2.2.2))))) fun y_4 =>
 (Sum.inl (y_4.2.1,(s.2.1,(y_3.1.1,(s.2.2.2.1,((decide ((w64 (s.2.2.1 - y_3.1.1)) ≥ (w64 (Int.tdiv (w64 (s.2.2.1 - s.2.1)) (8:Int))))),y_3.1.2))))))))))) else
 (letV (partM (y_1.2.1,(s.2.1,(s.2.2.1,((w64 ((w64 (s.2.2.1 - (1:Int))) - (w64 (y.1 - s.2.1)))),x.2.2.2.2))))) fun y_2 =>
 (if ((w64 (y_2.1.1 - s.2.1)) < (w64 (s.2.2.1 - y_2.1.1))) then
 (letV (pdqR (y_2.2.1,(s.2.1,(y_2.1.1,(s.2.2.2.1,x.2.2.2.2))))) fun y_3 =>
 (Sum.inl (y_3.2.1,((w64 (y_2.1.1 + (1:Int))),(s.2.2.1,(s.2.2.2.1,((decide ((w64 (y_2.1.1 - s.2.1)) ≥ (w64 (Int.tdiv (w64 (s.2.2.1 - s.2.1)) (8:Int))))),y_2.1.2))))))) else
 (letV (pdqR (y_2.2.1,((w64 (y_2.1.1 + (1:Int))),(s.2.2.1,(s.2.2.2.1,x.2.2.2.2))))) fun y_3 =>
 (Sum.inl (y_3.2.1,(s.2.1,(y_2.1.1,(s.2.2.2.1,((decide ((w64 (s.2.2.1 - y_2.1.1)) ≥ (w64 (Int.tdiv (w64 (s.2.2.1 - s.2.1)) (8:Int))))),y_2.1.2))))))))))) else
 (if (s.2.1 > (0:Int)) then
 (letV (byM (x.2.2.2.2,((List.getD y_1.2.1 (Int.toNat (w64 (s.2.1 - (1:Int)))) (0:Int)),(List.getD y_1.2.1 (Int.toNat (w64 ((w64 (s.2.2.1 - (1:Int))) - (w64 (y.1 - s.2.1))))) (0:Int))))) fun y_2 =>
 (if ((!(decide (y_2 < (0:Int)))) = true) then
 (letV (partEM (y_1.2.1,(s.2.1,(s.2.2.1,((w64 ((w64 (s.2.2.1 - (1:Int))) - (w64 (y.1 - s.2.1)))),x.2.2.2.2))))) fun y_3 =>
 (Sum.inl (y_3.2.1,(y_3.1,(s.2.2.1,(s.2.2.2.1,(s.2.2.2.2.1,s.2.2.2.2.2))))))) else
 (letV (partM (y_1.2.1,(s.2.1,(s.2.2.1,((w64 ((w64 (s.2.2.1 - (1:Int))) - (w64 (y.1 - s.2.1)))),x.2.2.2.2))))) fun y_3 =>
 (if ((w64 (y_3.1.1 - s.2.1)) < (w64 (s.2.2.1 - y_3.1.1))) then
 (letV (pdqR (y_3.2.1,(s.2.1,(y_3.1.1,(s.2.2.2.1,x.2.2.2.2))))) fun y_4 =>
 (Sum.inl (y_4.2.1,((w64 (y_3.1.1 + (1:Int))),(s.2.2.1,(s.2.2.2.1,((decide ((w64 (y_3.1.1 - s.2.1)) ≥ (w64 (Int.tdiv (w64 (s.2.2.1 - s.2.1)) (8:Int))))),y_3.1.2))))))) else
 (letV (pdqR (y_3.2.1,((w64 (y_3.1.1 + (1:Int))),(s.2.2.1,(s.2.2.2.1,x.2.2.2.2))))) fun y_4 =>
 (Sum.inl (y_4.2.1,(s.2.1,(y_3.1.1,(s.2.2.2.1,((decide ((w64 (s.2.2.1 - y_3.1.1)) ≥ (w64 (Int.tdiv (w64 (s.2.2.1 - s.2.1)) (8:Int))))),y_3.1.2))))))))))) else
 (letV (partM (y_1.2.1,(s.2.1,(s.2.2.1,((w64 ((w64 (s.2.2.1 - (1:Int))) - (w64 (y.1 - s.2.1)))),x.2.2.2.2))))) fun y_2 =>
 (if ((w64 (y_2.1.1 - s.2.1)) < (w64 (s.2.2.1 - y_2.1.1))) then
 (letV (pdqR (y_2.2.1,(s.2.1,(y_2.1.1,(s.2.2.2.1,x.2.2.2.2))))) fun y_3 =>
 (Sum.inl (y_3.2.1,((w64 (y_2.1.1 + (1:Int))),(s.2.2.1,(s.2.2.2.1,((decide ((w64 (y_2.1.1 - s.2.1)) ≥ (w64 (Int.tdiv (w64 (s.2.2.1 - s.2.1)) (8:Int))))),y_2.1.2))))))) else
 (letV (pdqR (y_2.2.1,((w64 (y_2.1.1 + (1:Int))),(s.2.2.1,(s.2.2.2.1,x.2.2.2.2))))) fun y_3 =>
 (Sum.inl (y_3.2.1,(s.2.1,(y_2.1.1,(s.2.2.2.1,((decide ((w64 (s.2.2.1 - y_2.1.1)) ≥ (w64 (Int.tdiv (w64 (s.2.2.1 - s.2.1)) (8:Int))))),y_2.1.2)))))))))))) else
 (if (s.2.2.2.2.1 = true) then
 (if (s.2.2.2.2.2 = true) then
 (if ((y.2 == (1:Int)) = true) then
 (letV (pInsM (s.1,(s.2.1,(s.2.2.1,x.2.2.2.2)))) fun y_1 =>
 (if (y_1.1 = true) then
 (Sum.inr (y_1.2.1)) else
 (if (s.2.1 > (0:Int)) then
 (letV (byM (x.2.2.2.2,((List.getD y_1.2.1 (Int.toNat (w64 (s.2.1 - (1:Int)))) (0:Int)),(List.getD y_1.2.1 (Int.toNat y.1) (0:Int))))) fun y_2 =>
 (if ((!(decide (y_2 < (0:Int)))) = true) then
 (letV (partEM (y_1.2.1,(s.2.1,(s.2.2.1,(y.1,x.2.2.2.2))))) fun y_3 =>
 (Sum.inl (y_3.2.1,(y_3.1,(s.2.2.1,(s.2.2.2.1,(s.2.2.2.2.1,s.2.2.2.2.2))))))) else
 (letV (partM (y_1.2.1,(s.2.1,(s.2.2.1,(y.1,x.2.2.2.2))))) fun y_3 =>
 (if ((w64 (y_3.1.1 - s.2.1)) < (w64 (s.2.2.1 - y_3.1.1))) then
 (letV (pdqR (y_3.2.1,(s.2.1,(y_3.1.1,(s.2.2.2.1,x.2.2.2.2))))) fun y_4 =>
 (Sum.inl (y_4.2.1,((w64 (y_3.1.1 + (1:Int))),(s.2.2.1,(s.2.2.2.1,((decide ((w64 (y_3.1.1 - s.2.1)) ≥ (w64 (Int.tdiv (w64 (s.2.2.1 - s.2.1)) (8:Int))))),y_3.1.2))))))) else
 (letV (pdqR (y_3.2.1,((w64 (y_3.1.1 + (1:Int))),(s.2.2.1,(s.2.2.2.1,x.2.2.2.2))))) fun y_4 =>
 (Sum.inl (y_4.2.1,(s.2.1,(y_3.1.1,(s.2.2.2.1,((decide ((w64 (s.2.2.1 - y_3.1.1)) ≥ (w64 (Int.tdiv (w64 (s.2.2.1 - s.2.1)) (8:Int))))),y_3.1.2))))))))))) else
 (letV (partM (y_1.2.1,(s.2.1,(s.2.2.1,(y.1,x.2.2.2.2))))) fun y_2 =>
 (if ((w64 (y_2.1.1 - s.2.1)) < (w64 (s.2.2.1 - y_2.1.1))) then
 (letV (pdqR (y_2.2.1,(s.2.1,(y_2.1.1,(s.2.2.2.1,x.2.2.2.2))))) fun y_3 =>
 (Sum.inl (y_3.2.1,((w64 (y_2.1.1 + (1:Int))),(s.2.2.1,(s.2.2.2.1,((decide ((w64 (y_2.1.1 - s.2.1)) ≥ (w64 (Int.tdiv (w64 (s.2.2.1 - s.2.1)) (8:Int))))),y_2.1.2))))))) else
 (letV (pdqR (y_2.2.1,((w64 (y_2.1.1 + (1:Int))),(s.2.2.1,(s.2.2.2.1,x.2.2.2.2))))) fun y_3 =>
 (Sum.inl (y_3.2.1,(s.2.1,(y_2.1.1,(s.2.2.2.1,((decide ((w64 (s.2.2.1 - y_2.1.1)) ≥ (w64 (Int.tdiv (w64 (s.2.2.1 - s.2.1)) (8:Int))))),y_2.1.2)))))))))))) else
 (if (s.2.1 > (0:Int)) then
 (letV (byM (x.2.2.2.2,((List.getD s.1 (Int.toNat (w64 (s.2.1 - (1:Int)))) (0:Int)),(List.getD s.1 (Int.toNat y.1) (0:Int))))) fun y_1 =>
 (if ((!(decide (y_1 < (0:Int)))) = true) then
 (letV (partEM (s.1,(s.2.1,(s.2.2.1,(y.1,x.2.2.2.2))))) fun y_2 =>
 (Sum.inl (y_2.2.1,(y_2.1,(s.2.2.1,(s.2.2.2.1,(s.2.2.2.2.1,s.2.2.2.2.2))))))) else
 (letV (partM (s.1,(s.2.1,(s.2.2.1,(y.1,x.2.2.2.2))))) fun y_2 =>
 (if ((w64 (y_2.1.1 - s.2.1)) < (w64 (s.2.2.1 - y_2.1.1))) then
 (letV (pdqR (y_2.2.1,(s.2.1,(y_2.1.1,(s.2.2.2.1,x.2.2.2.2))))) fun y_3 =>
 (Sum.inl (y_3.2.1,((w64 (y_2.1.1 + (1:Int))),(s.2.2.1,(s.2.2.2.1,((decide ((w64 (y_2.1.1 - s.2.1)) ≥ (w64 (Int.tdiv (w64 (s.2.2.1 - s.2.1)) (8:Int))))),y_2.1.2))))))) else
 (letV (pdqR (y_2.2.1,((w64 (y_2.1.1 + (1:Int))),(s.2.2.1,(s.2.2.2.1,x.2.2.2.2))))) fun y_3 =>
 (Sum.inl (y_3.2.1,(s.2.1,(y_2.1.1,(s.2.2.2.1,((decide ((w64 (s.2.2.1 - y_2.1.1)) ≥ (w64 (Int.tdiv (w64 (s.2.2.1 - s.2.1)) (8:Int))))),y_2.1.2))))))))))) else
 (letV (partM (s.1,(s.2.1,(s.2.2.1,(y.1,x.2.2.2.2))))) fun y_1 =>
 (if ((w64 (y_1.1.1 - s.2.1)) < (w64 (s.2.2.1 - y_1.1.1))) then
 (letV (pdqR (y_1.2.1,(s.2.1,(y_1.1.1,(s.2.2.2.1,x.2.2.2.2))))) fun y_2 =>
 (Sum.inl (y_2.2.1,((w64 (y_1.1.1 + (1:Int))),(s.2.2.1,(s.2.2.2.1,((decide ((w64 (y_1.1.1 - s.2.1)) ≥ (w64 (Int.tdiv (w64 (s.2.2.1 - s.2.1)) (8:Int))))),y_1.1.2))))))) else
 (letV (pdqR (y_1.2.1,((w64 (y_1.1.1 + (1:Int))),(s.2.2.1,(s.2.2.2.1,x.2.2.2.2))))) fun y_2 =>
 (Sum.inl (y_2.2.1,(s.2.1,(y_1.1.1,(s.2.2.2.1,((decide ((w64 (s.2.2.1 - y_1.1.1)) ≥ (w64 (Int.tdiv (w64 (s.2.2.1 - s.2.1)) (8:Int))))),y_1.1.2))))))))))) else
 (if (s.2.1 > (0:Int)) then
 (letV (byM (x.2.2.2.2,((List.getD s.1 (Int.toNat (w64 (s.2.1 - (1:Int)))) (0:Int)),(List.getD s.1 (Int.toNat y.1) (0:Int))))) fun y_1 =>
 (if ((!(decide (y_1 < (0:Int)))) = true) then
 (letV (partEM (s.1,(s.2.1,(s.2.2.1,(y.1,x.2.2.2.2))))) fun y_2 =>
 (Sum.inl (y_2.2.1,(y_2.1,(s.2.2.1,(s.2.2.2.1,(s.2.2.2.2.1,s.2.2.2.2.2))))))) else
 (letV (partM (s.1,(s.2.1,(s.2.2.1,(y.1,x.2.2.2.2))))) fun y_2 =>
 (if ((w64 (y_2.1.1 - s.2.1)) < (w64 (s.2.2.1 - y_2.1.1))) then
 (letV (pdqR (y_2.2.1,(s.2.1,(y_2.1.1,(s.2.2.2.1,x.2.2.2.2))))) fun y_3 =>
 (Sum.inl (y_3.2.1,((w64 (y_2.1.1 + (1:Int))),(s.2.2.1,(s.2.2.2.1,((decide ((w64 (y_2.1.1 - s.2.1)) ≥ (w64 (Int.tdiv (w64 (s.2.2.1 - s.2.1)) (8:Int))))),y_2.1.2))))))) else
 (letV (pdqR (y_2.2.1,((w64 (y_2.1.1 + (1:Int))),(s.2.2.1,(s.2.2.2.1,x.2.2.2.2))))) fun y_3 =>
 (Sum.inl (y_3.2.1,(s.2.1,(y_2.1.1,(s.2.2.2.1,((decide ((w64 (s.2.2.1 - y_2.1.1)) ≥ (w64 (Int.tdiv (w64 (s.2.2.1 - s.2.1)) (8:Int))))),y_2.1.2))))))))))) else
 (letV (partM (s.1,(s.2.1,(s.2.2.1,(y.1,x.2.2.2.2))))) fun y_1 =>
 (if ((w64 (y_1.1.1 - s.2.1)) < (w64 (s.2.2.1 - y_1.1.1))) then
 (letV (pdqR (y_1.2.1,(s.2.1,(y_1.1.1,(s.2.2.2.1,x.2.2.2.2))))) fun y_2 =>
 (Sum.inl (y_2.2.1,((w64 (y_1.1.1 + (1:Int))),(s.2.2.1,(s.2.2.2.1,((decide ((w64 (y_1.1.1 - s.2.1)) ≥ (w64 (Int.tdiv (w64 (s.2.2.1 - s.2.1)) (8:Int))))),y_1.1.2))))))) else
 (letV (pdqR (y_1.2.1,((w64 (y_1.1.1 + (1:Int))),(s.2.2.1,(s.2.2.2.1,x.2.2.2.2))))) fun y_2 =>
 (Sum.inl (y_2.2.1,(s.2.1,(y_1.1.1,(s.2.2.2.1,((decide ((w64 (s.2.2.1 - y_1.1.1)) ≥ (w64 (Int.tdiv (w64 (s.2.2.1 - s.2.1)) (8:Int))))),y_1.1.2))))))))))) else
 (if (s.2.1 > (0:Int)) then
 (letV (byM (x.2.2.2.2,((List.getD s.1 (Int.toNat (w64 (s.2.1 - (1:Int)))) (0:Int)),(List.getD s.1 (Int.toNat y.1) (0:Int))))) fun y_1 =>
 (if ((!(decide (y_1 < (0:Int)))) = true) then
 (letV (partEM (s.1,(s.2.1,(s.2.2.1,(y.1,x.2.2.2.2))))) fun y_2 =>
 (Sum.inl (y_2.2.1,(y_2.1,(s.2.2.1,(s.2.2.2.1,(s.2.2.2.2.1,s.2.2.2.2.2))))))) else
 (letV (partM (s.1,(s.2.1,(s.2.2.1,(y.1,x.2.2.2.2))))) fun y_2 =>
 (if ((w64 (y_2.1.1 - s.2.1)) < (w64 (s.2.2.1 - y_2.1.1))) then
 (letV (pdqR (y_2.2.1,(s.2.1,(y_2.1.1,(s.2.2.2.1,x.2.2.2.2))))) fun y_3 =>
 (Sum.inl (y_3.2.1,((w64 (y_2.1.1 + (1:Int))),(s.2.2.1,(s.2.2.2.1,((decide ((w64 (y_2.1.1 - s.2.1)) ≥ (w64 (Int.tdiv (w64 (s.2.2.1 - s.2.1)) (8:Int))))),y_2.1.2))))))) else
 (letV (pdqR (y_2.2.1,((w64 (y_2.1.1 + (1:Int))),(s.2.2.1,(s.2.2.2.1,x.2.2.2.2))))) fun y_3 =>
 (Sum.inl (y_3.2.1,(s.2.1,(y_2.1.1,(s.2.2.2.1,((decide ((w64 (s.2.2.1 - y_2.1.1)) ≥ (w64 (Int.tdiv (w64 (s.2.2.1 - s.2.1)) (8:Int))))),y_2.1.2))))))))))) else
 (letV (partM (s.1,(s.2.1,(s.2.2.1,(y.1,x.2.2.2.2))))) fun y_1 =>
 (if ((w64 (y_1.1.1 - s.2.1)) < (w64 (s.2.2.1 - y_1.1.1))) then
 (letV (pdqR (y_1.2.1,(s.2.1,(y_1.1.1,(s.2.2.2.1,x.2.2.2.2))))) fun y_2 =>
 (Sum.inl (y_2.2.1,((w64 (y_1.1.1 + (1:Int))),(s.2.2.1,(s.2.2.2.1,((decide ((w64 (y_1.1.1 - s.2.1)) ≥ (w64 (Int.tdiv (w64 (s.2.2.1 - s.2.1)) (8:Int))))),y_1.1.2))))))) else
 (letV (pdqR (y_1.2.1,((w64 (y_1.1.1 + (1:Int))),(s.2.2.1,(s.2.2.2.1,x.2.2.2.2))))) fun y_2 =>
 (Sum.inl (y_2.2.1,(s.2.1,(y_1.1.1,(s.2.2.2.1,((decide ((w64 (s.2.2.1 - y_1.1.1)) ≥ (w64 (Int.tdiv (w64 (s.2.2.1 - s.2.1)) (8:Int))))),y_1.1.2))))))))))))))))
def pdqM_l0_3_pre (x : ((List Int) × (Int × (Int × (Int × ((List I9) × Int)))))) (s : ((List Int) × (Int × (Int × (Int × (Bool × Bool)))))) : Prop :=
 ((((w64 (s.2.2.1 - s.2.1)) ≤ (12:Int)) →
 (insM_pre (s.1,(s.2.1,(s.2.2.1,x.2.2.2.2))))) ∧
 (¬ ((w64 (s.2.2.1 - s.2.1)) ≤ (12:Int)) →
 ((((s.2.2.2.1 == (0:Int)) = true) →
 (heapM_pre (s.1,(s.2.1,(s.2.2.1,x.2.2.2.2))))) ∧
 (¬ ((s.2.2.2.1 == (0:Int)) = true) →
 ((((!s.2.2.2.2.1) = true) →
 ((brkM_pre (s.1,(s.2.1,(s.2.2.1,x.2.2.2.2)))) ∧
 letP (brkM (s.1,(s.2.1,(s.2.2.1,x.2.2.2.2)))) fun y =>
 ((pivM_pre (y.2.1,(s.2.1,(s.2.2.1,x.2.2.2.2)))) ∧
 letP (pivM (y.2.1,(s.2.1,(s.2.2.1,x.2.2.2.2)))) fun y_1 =>
 ((((y_1.2 == (2:Int)) = true) →
 ((revM_pre (y.2.1,(s.2.1,(s.2.2.1,x.2.2.2.2)))) ∧
 letP (revM (y.2.1,(s.2.1,(s.2.2.1,x.2.2.2.2)))) fun y_2 =>
 (((s.2.2.2.2.1 = true) →
 (((s.2.2.2.2.2 = true) →
 ((pInsM_pre (y_2.2.1,(s.2.1,(s.2.2.1,x.2.2.2.2)))) ∧
 letP (pInsM (y_2.2.1,(s.2.1,(s.2.2.1,x.2.2.2.2)))) fun y_3 =>
 (¬ (y_3.1 = true) →
 (((s.2.1 > (0:Int)) →
 ((((0:Int) ≤ (w64 (s.2.1 - (1:Int)))) ∧ ((w64 (s.2.1 - (1:Int))) < (y_3.2.1.length:Int))) ∧
 (((Int.toNat (w64 (s.2.1 - (1:Int)))) < (List.length y_3.2.1)) ∧
 (((Int.toNat (w64 (s.2.1 - (1:Int)))) < (List.length y_3.2.1)) ∧
 ((((0:Int) ≤ (w64 ((w64 (s.2.2.1 - (1:Int))) - (w64 (y_1.1 - s.2.1))))) ∧ ((w64 ((w64 (s.2.2.1 - (1:Int))) - (w64 (y_1.1 - s.2.1)))) < (y_3.2.1.length:Int))) ∧
 (((Int.toNat (w64 ((w64 (s.2.2.1 - (1:Int))) - (w64 (y_1.1 - s.2.1))))) < (List.length y_3.2.1)) ∧
 (((Int.toNat (w64 ((w64 (s.2.2.1 - (1:Int))) - (w64 (y_1.1 - s.2.1))))) < (List.length y_3.2.1)) ∧
 ((byM_pre (x.2.2.2.2,((List.getD y_3.2.1 (Int.toNat (w64 (s.2.1 - (1:Int)))) (0:Int)),(List.getD y_3.2.1 (Int.toNat (w64 ((w64 (s.2.2.1 - (1:Int))) - (w64 (y_1.1 - s.2.1))))) (0:Int))))) ∧
 letP (byM (x.2.2.2.2,((List.getD y_3.2.1 (Int.toNat (w64 (s.2.1 - (1:Int)))) (0:Int)),(List.getD y_3.2.1 (Int.toNat (w64 ((w64 (s.2.2.1 - (1:Int))) - (w64 (y_1.1 - s.2.1))))) (0:Int))))) fun y_4 =>
 ((((!(decide (y_4 < (0:Int)))) = true) →
 (partEM_pre (y_3.2.1,(s.2.1,(s.2.2.1,((w64 ((w64 (s.2.2.1 - (1:Int))) - (w64 (y_1.1 - s.2.1)))),x.2.2.2.2)))))) ∧
 (¬ ((!(decide (y_4 < (0:Int)))) = true) →
 ((partM_pre (y_3.2.1,(s.2.1,(s.2.2.1,((w64 ((w64 (s.2.2.1 - (1:Int))) - (w64 (y_1.1 - s.2.1)))),x.2.2.2.2))))) ∧
 letP (partM (y_3.2.1,(s.2.1,(s.2.2.1,((w64 ((w64 (s.2.2.1 - (1:Int))) - (w64 (y_1.1 - s.2.1)))),x.2.2.2.2))))) fun y_5 =>
 ((((w64 (y_5.1.1 - s.2.1)) < (w64 (s.2.2.1 - y_5.1.1))) →
 (pdqR_pre (y_5.2.1,(s.2.1,(y_5.1.1,((w64 (s.2.2.2.1 - (1:Int))),x.2.2.2.2)))))) ∧
 (¬ ((w64 (y_5.1.1 - s.2.1)) < (w64 (s.2.2.1 - y_5.1.1))) →
 (pdqR_pre (y_5.2.1,((w64 (y_5.1.1 + (1:Int))),(s.2.2.1,((w64 (s.2.2.2.1 - (1:Int))),x.2.2.2.2)))))))))))))))))) ∧
 (¬ (s.2.1 > (0:Int)) →
 ((partM_pre (y_3.2.1,(s.2.1,(s.2.2.1,((w64 ((w64 (s.2.2.1 - (1:Int))) - (w64 (y_1.1 - s.2.1)))),x.2.2.2.2))))) ∧
 letP (partM (y_3.2.1,(s.2.1,(s.2.2.1,((w64 ((w64 (s.2.2.1 - (1:Int))) - (w64 (y_1.1 - s.2.1)))),x.2.2.2.2))))) fun y_4 =>
 ((((w64 (y_4.1.1 - s.2.1)) < (w64 (s.2.2.1 - y_4.1.1))) →
 (pdqR_pre (y_4.2.1,(s.2.1,(y_4.1.1,((w64 (s.2.2.2.1 - (1:Int))),x.2.2.2.2)))))) ∧
 (¬ ((w64 (y_4.1.1 - s.2.1)) < (w64 (s.2.2.1 - y_4.1.1))) →
 (pdqR_pre (y_4.2.1,((w64 (y_4.1.1 + (1:Int))),(s.2.2.1,((w64 (s.2.2.2.1 - (1:Int))),x.2.2.2.2))))))))))))) ∧
 (¬ (s.2.2.2.2.2 = true) →
 (((s.2.1 > (0:Int)) →
 ((((0:Int) ≤ (w64 (s.2.1 - (1:Int)))) ∧ ((w64 (s.2.1 - (1:Int))) < (y_2.2.1.length:Int))) ∧
 (((Int.toNat (w64 (s.2.1 - (1:Int)))) < (List.length y_2.2.1)) ∧
 (((Int.toNat (w64 (s.2.1 - (1:Int)))) < (List.length y_2.2.1)) ∧
 ((((0:Int) ≤ (w64 ((w64 (s.2.2.1 - (1:Int))) - (w64 (y_1.1 - s.2.1))))) ∧ ((w64 ((w64 (s.2.2.1 - (1:Int))) - (w64 (y_1.1 - s.2.1)))) < (y_2.2.1.length:Int))) ∧
 (((Int.toNat (w64 ((w64 (s.2.2.1 - (1:Int))) - (w64 (y_1.1 - s.2.1))))) < (List.length y_2.2.1)) ∧
 (((Int.toNat (w64 ((w64 (s.2.2.1 - (1:Int))) - (w64 (y_1.1 - s.2.1))))) < (List.length y_2.2.1)) ∧
 ((byM_pre (x.2.2.2.2,((List.getD y_2.2.1 (Int.toNat (w64 (s.2.1 - (1:Int)))) (0:Int)),(List.getD y_2.2.1 (Int.toNat (w64 ((w64 (s.2.2.1 - (1:Int))) - (w64 (y_1.1 - s.2.1))))) (0:Int))))) ∧
 letP (byM (x.2.2.2.2,((List.getD y_2.2.1 (Int.toNat (w64 (s.2.1 - (1:Int)))) (0:Int)),(List.getD y_2.2.1 (Int.toNat (w64 ((w64 (s.2.2.1 - (1:Int))) - (w64 (y_1.1 - s.2.1))))) (0:Int))))) fun y_3 =>
 ((((!(decide (y_3 < (0:Int)))) = true) →
 (partEM_pre (y_2.2.1,(s.2.1,(s.2.2.1,((w64 ((w64 (s.2.2.1 - (1:Int))) - (w64 (y_1.1 - s.2.1)))),x.2.2.2.2)))))) ∧
 (¬ ((!(decide (y_3 < (0:Int)))) = true) →
 ((partM_pre (y_2.2.1,(s.2.1,(s.2.2.1,((w64 ((w64 (s.2.2.1 - (1:Int))) - (w64 (y_1.1 - s.2.1)))),x.2.2.2.2))))) ∧
 letP (partM (y_2.2.1,(s.2.1,(s.2.2.1,((w64 ((w64 (s.2.2.1 - (1:Int))) - (w64 (y_1.1 - s.2.1)))),x.2.2.2.2))))) fun y_4 =>
 ((((w64 (y_4.1.1 - s.2.1)) < (w64 (s.2.2.1 - y_4.1.1))) →
 (pdqR_pre (y_4.2.1,(s.2.1,(y_4.1.1,((w64 (s.2.2.2.1 - (1:Int))),x.2.2.2.2)))))) ∧
 (¬ ((w64 (y_4.1.1 - s.2.1)) < (w64 (s.2.2.1 - y_4.1.1))) →
 (pdqR_pre (y_4.2.1,((w64 (y_4.1.1 + (1:Int))),(s.2.2.1,((w64 (s.2.2.2.1 - (1:Int))),x.2.2.2.2)))))))))))))))))) ∧
 (¬ (s.2.1 > (0:Int)) →
 ((partM_pre (y_2.2.1,(s.2.1,(s.2.2.1,((w64 ((w64 (s.2.2.1 - (1:Int))) - (w64 (y_1.1 - s.2.1)))),x.2.2.2.2))))) ∧
 letP (partM (y_2.2.1,(s.2.1,(s.2.2.1,((w64 ((w64 (s.2.2.1 - (1:Int))) - (w64 (y_1.1 - s.2.1)))),x.2.2.2.2))))) fun y_3 =>
 ((((w64 (y_3.1.1 - s.2.1)) < (w64 (s.2.2.1 - y_3.1.1))) →
 (pdqR_pre (y_3.2.1,(s.2.1,(y_3.1.1,((w64 (s.2.2.2.1 - (1:Int))),x.2.2.2.2)))))) ∧
 (¬ ((w64 (y_3.1.1 - s.2.1)) < (w64 (s.2.2.1 - y_3.1.1))) →
 (pdqR_pre (y_3.2.1,((w64 (y_3.1.1 + (1:Int))),(s.2.2.1,((w64 (s.2.2.2.1 - (1:Int))),x.2.2.2.2))))))))))))) ∧
 (¬ (s.2.2.2.2.1 = true) →
 (((s.2.1 > (0:Int)) →
 ((((0:Int) ≤ (w64 (s.2.1 - (1:Int)))) ∧ ((w64 (s.2.1 - (1:Int))) < (y_2.2.1.length:Int))) ∧
 (((Int.toNat (w64 (s.2.1 - (1:Int)))) < (List.length y_2.2.1)) ∧
 (((Int.toNat (w64 (s.2.1 - (1:Int)))) < (List.length y_2.2.1)) ∧
 ((((0:Int) ≤ (w64 ((w64 (s.2.2.1 - (1:Int))) - (w64 (y_1.1 - s.2.1))))) ∧ ((w64 ((w64 (s.2.2.1 - (1:Int))) - (w64 (y_1.1 - s.2.1)))) < (y_2.2.1.length:Int))) ∧
 (((Int.toNat (w64 ((w64 (s.2.2.1 - (1:Int))) - (w64 (y_1.1 - s.2.1))))) < (List.length y_2.2.1)) ∧
 (((Int.toNat (w64 ((w64 (s.2.2.1 - (1:Int))) - (w64 (y_1.1 - s.2.1))))) < (List.length y_2.2.1)) ∧
 ((byM_pre (x.2.2.2.2,((List.getD y_2.2.1 (Int.toNat (w64 (s.2.1 - (1:Int)))) (0:Int)),(List.getD y_2.2.1 (Int.toNat (w64 ((w64 (s.2.2.1 - (1:Int))) - (w64 (y_1.1 - s.2.1))))) (0:Int))))) ∧
 letP (byM (x.2.2.2.2,((List.getD y_2.2.1 (Int.toNat (w64 (s.2.1 - (1:Int)))) (0:Int)),(List.getD y_2.2.1 (Int.toNat (w64 ((w64 (s.2.2.1 - (1:Int))) - (w64 (y_1.1 - s.2.1))))) (0:Int))))) fun y_3 =>
 ((((!(decide (y_3 < (0:Int)))) = true) →
 (partEM_pre (y_2.2.1,(s.2.1,(s.2.2.1,((w64 ((w64 (s.2.2.1 - (1:Int))) - (w64 (y_1.1 - s.2.1)))),x.2.2.2.2)))))) ∧
 (¬ ((!(decide (y_3 < (0:Int)))) = true) →
 ((partM_pre (y_2.2.1,(s.2.1,(s.2.2.1,((w64 ((w64 (s.2.2.1 - (1:Int))) - (w64 (y_1.1 - s.2.1)))),x.2.2.2.2))))) ∧
 letP (partM (y_2.2.1,(s.2.1,(s.2.2.1,((w64 ((w64 (s.2.2.1 - (1:Int))) - (w64 (y_1.1 - s.2.1)))),x.2.2.2.2))))) fun y_4 =>
 ((((w64 (y_4.1.1 - s.2.1)) < (w64 (s.2.2.1 - y_4.1.1))) →
 (pdqR_pre (y_4.2.1,(s.2.1,(y_4.1.1,((w64 (s.2.2.2.1 - (1:Int))),x.2.2.2.2)))))) ∧
 (¬ ((w64 (y_4.1.1 - s.2.1)) < (w64 (s.2.2.1 - y_4.1.1))) →
 (pdqR_pre (y_4.2.1,((w64 (y_4.1.1 + (1:Int))),(s.2.2.1,((w64 (s.2.2.2.1 - (1:Int))),x.2.2.2.2)))))))))))))))))) ∧
 (¬ (s.2.1 > (0:Int)) →
 ((partM_pre (y_2.2.1,(s.2.1,(s.2.2.1,((w64 ((w64 (s.2.2.1 - (1:Int))) - (w64 (y_1.1 - s.2.1)))),x.2.2.2.2))))) ∧
 letP (partM (y_2.2.1,(s.2.1,(s.2.2.1,((w64 ((w64 (s.2.2.1 - (1:Int))) - (w64 (y_1.1 - s.2.1)))),x.2.2.2.2))))) fun y_3 =>
 ((((w64 (y_3.1.1 - s.2.1)) < (w64 (s.2.2.1 - y_3.1.1))) →
 (pdqR_pre (y_3.2.1,(s.2.1,(y_3.1.1,((w64 (s.2.2.2.1 - (1:Int))),x.2.2.2.2)))))) ∧
 (¬ ((w64 (y_3.1.1 - s.2.1)) < (w64 (s.2.2.1 - y_3.1.1))) →
 (pdqR_pre (y_3.2.1,((w64 (y_3.1.1 + (1:Int))),(s.2.2.1,((w64 (s.2.2.2.1 - (1:Int))),x.2.2.2.2)))))))))))))) ∧
 (¬ ((y_1.2 == (2:Int)) = true) →
 (((s.2.2.2.2.1 = true) →
 (((s.2.2.2.2.2 = true) →
 ((((y_1.2 == (1:Int)) = true) →
 ((pInsM_pre (y.2.1,(s.2.1,(s.2.2.1,x.2.2.2.2)))) ∧
 letP (pInsM (y.2.1,(s.2.1,(s.2.2.1,x.2.2.2.2)))) fun y_2 =>
 (¬ (y_2.1 = true) →
 (((s.2.1 > (0:Int)) →
 ((((0:Int) ≤ (w64 (s.2.1 - (1:Int)))) ∧ ((w64 (s.2.1 - (1:Int))) < (y_2.2.1.length:Int))) ∧
 (((Int.toNat (w64 (s.2.1 - (1:Int)))) < (List.length y_2.2.1)) ∧
 (((Int.toNat (w64 (s.2.1 - (1:Int)))) < (List.length y_2.2.1)) ∧
 ((((0:Int) ≤ y_1.1) ∧ (y_1.1 < (y_2.2.1.length:Int))) ∧
 (((Int.toNat y_1.1) < (List.length y_2.2.1)) ∧
 (((Int.toNat y_1.1) < (List.length y_2.2.1)) ∧
 ((byM_pre (x.2.2.2.2,((List.getD y_2.2.1 (Int.toNat (w64 (s.2.1 - (1:Int)))) (0:Int)),(List.getD y_2.2.1 (Int.toNat y_1.1) (0:Int))))) ∧
 letP (byM (x.2.2.2.2,((List.getD y_2.2.1 (Int.toNat (w64 (s.2.1 - (1:Int)))) (0:Int)),(List.getD y_2.2.1 (Int.toNat y_1.1) (0:Int))))) fun y_3 =>
 ((((!(decide (y_3 < (0:Int)))) = true) →
 (partEM_pre (y_2.2.1,(s.2.1,(s.2.2.1,(y_1.1,x.2.2.2.2)))))) ∧
 (¬ ((!(decide (y_3 < (0:Int)))) = true) →
 ((partM_pre (y_2.2.1,(s.2.1,(s.2.2.1,(y_1.1,x.2.2.2.2))))) ∧
 letP (partM (y_2.2.1,(s.2.1,(s.2.2.1,(y_1.1,x.2.2.2.2))))) fun y_4 =>
 ((((w64 (y_4.1.1 - s.2.1)) < (w64 (s.2.2.1 - y_4.1.1))) →
 (pdqR_pre (y_4.2.1,(s.2.1,(y_4.1.1,((w64 (s.2.2.2.1 - (1:Int))),x.2.2.2.2)))))) ∧
 (¬ ((w64 (y_4.1.1 - s.2.1)) < (w64 (s.2.2.1 - y_4.1.1))) →
 (pdqR_pre (y_4.2.1,((w64 (y_4.1.1 + (1:Int))),(s.2.2.1,((w64 (s.2.2.2.1 - (1:Int))),x.2.2.2.2)))))))))))))))))) ∧
 (¬ (s.2.1 > (0:Int)) →
 ((partM_pre (y_2.2.1,(s.2.1,(s.2.2.1,(y_1.1,x.2.2.2.2))))) ∧
 letP (partM (y_2.2.1,(s.2.1,(s.2.2.1,(y_1.1,x.2.2.2.2))))) fun y_3 =>
 ((((w64 (y_3.1.1 - s.2.1)) < (w64 (s.2.2.1 - y_3.1.1))) →
 (pdqR_pre (y_3.2.1,(s.2.1,(y_3.1.1,((w64 (s.2.2.2.1 - (1:Int))),x.2.2.2.2)))))) ∧
 (¬ ((w64 (y_3.1.1 - s.2.1)) < (w64 (s.2.2.1 - y_3.1.1))) →
 (pdqR_pre (y_3.2.1,((w64 (y_3.1.1 + (1:Int))),(s.2.2.1,((w64 (s.2.2.2.1 - (1:Int))),x.2.2.2.2))))))))))))) ∧
 (¬ ((y_1.2 == (1:Int)) = true) →
 (((s.2.1 > (0:Int)) →
 ((((0:Int) ≤ (w64 (s.2.1 - (1:Int)))) ∧ ((w64 (s.2.1 - (1:Int))) < (y.2.1.length:Int))) ∧
 (((Int.toNat (w64 (s.2.1 - (1:Int)))) < (List.length y.2.1)) ∧
 (((Int.toNat (w64 (s.2.1 - (1:Int)))) < (List.length y.2.1)) ∧
 ((((0:Int) ≤ y_1.1) ∧ (y_1.1 < (y.2.1.length:Int))) ∧
 (((Int.toNat y_1.1) < (List.length y.2.1)) ∧
 (((Int.toNat y_1.1) < (List.length y.2.1)) ∧
 ((byM_pre (x.2.2.2.2,((List.getD y.2.1 (Int.toNat (w64 (s.2.1 - (1:Int)))) (0:Int)),(List.getD y.2.1 (Int.toNat y_1.1) (0:Int))))) ∧
 letP (byM (x.2.2.2.2,((List.getD y.2.1 (Int.toNat (w64 (s.2.1 - (1:Int)))) (0:Int)),(List.getD y.2.1 (Int.toNat y_1.1) (0:Int))))) fun y_2 =>
 ((((!(decide (y_2 < (0:Int)))) = true) →
 (partEM_pre (y.2.1,(s.2.1,(s.2.2.1,(y_1.1,x.2.2.2.2)))))) ∧
 (¬ ((!(decide (y_2 < (0:Int)))) = true) →
 ((partM_pre (y.2.1,(s.2.1,(s.2.2.1,(y_1.1,x.2.2.2.2))))) ∧
 letP (partM (y.2.1,(s.2.1,(s.2.2.1,(y_1.1,x.2.2.2.2))))) fun y_3 =>
 ((((w64 (y_3.1.1 - s.2.1)) < (w64 (s.2.2.1 - y_3.1.1))) →
 (pdqR_pre (y_3.2.1,(s.2.1,(y_3.1.1,((w64 (s.2.2.2.1 - (1:Int))),x.2.2.2.2)))))) ∧
 (¬ ((w64 (y_3.1.1 - s.2.1)) < (w64 (s.2.2.1 - y_3.1.1))) →
 (pdqR_pre (y_3.2.1,((w64 (y_3.1.1 + (1:Int))),(s.2.2.1,((w64 (s.2.2.2.1 - (1:Int))),x.2.2.2.2)))))))))))))))))) ∧
 (¬ (s.2.1 > (0:Int)) →
 ((partM_pre (y.2.1,(s.2.1,(s.2.2.1,(y_1.1,x.2.2.2.2))))) ∧
 letP (partM (y.2.1,(s.2.1,(s.2.2.1,(y_1.1,x.2.2.2.2))))) fun y_2 =>
 ((((w64 (y_2.1.1 - s.2.1)) < (w64 (s.2.2.1 - y_2.1.1))) →
 (pdqR_pre (y_2.2.1,(s.2.1,(y_2.1.1,((w64 (s.2.2.2.1 - (1:Int))),x.2.2.2.2)))))) ∧
 (¬ ((w64 (y_2.1.1 - s.2.1)) < (w64 (s.2.2.1 - y_2.1.1))) →
 (pdqR_pre (y_2.2.1,((w64 (y_2.1.1 + (1:Int))),(s.2.2.1,((w64 (s.2.2.2.1 - (1:Int))),x.2.2.2.2))))))))))))) ∧
 (¬ (s.2.2.2.2.2 = true) →
 (((s.2.1 > (0:Int)) →
 ((((0:Int) ≤ (w64 (s.2.1 - (1:Int)))) ∧ ((w64 (s.2.1 - (1:Int))) < (y.2.1.length:Int))) ∧
 (((Int.toNat (w64 (s.2.1 - (1:Int)))) < (List.length y.2.1)) ∧
 (((Int.toNat (w64 (s.2.1 - (1:Int)))) < (List.length y.2.1)) ∧
 ((((0:Int) ≤ y_1.1) ∧ (y_1.1 < (y.2.1.length:Int))) ∧
 (((Int.toNat y_1.1) < (List.length y.2.1)) ∧
 (((Int.toNat y_1.1) < (List.length y.2.1)) ∧
 ((byM_pre (x.2.2.2.2,((List.getD y.2.1 (Int.toNat (w64 (s.2.1 - (1:Int)))) (0:Int)),(List.getD y.2.1 (Int.toNat y_1.1) (0:Int))))) ∧
 letP (byM (x.2.2.2.2,((List.getD y.2.1 (Int.toNat (w64 (s.2.1 - (1:Int)))) (0:Int)),(List.getD y.2.1 (Int.toNat y_1.1) (0:Int))))) fun y_2 =>
 ((((!(decide (y_2 < (0:Int)))) = true) →
 (partEM_pre (y.2.1,(s.2.1,(s.2.2.1,(y_1.1,x.2.2.2.2)))))) ∧
 (¬ ((!(decide (y_2 < (0:Int)))) = true) →
 ((partM_pre (y.2.1,(s.2.1,(s.2.2.1,(y_1.1,x.2.2.2.2))))) ∧
 letP (partM (y.2.1,(s.2.1,(s.2.2.1,(y_1.1,x.2.2.2.2))))) fun y_3 =>
 ((((w64 (y_3.1.1 - s.2.1)) < (w64 (s.2.2.1 - y_3.1.1))) →
 (pdqR_pre (y_3.2.1,(s.2.1,(y_3.1.1,((w64 (s.2.2.2.1 - (1:Int))),x.2.2.2.2)))))) ∧
 (¬ ((w64 (y_3.1.1 - s.2.1)) < (w64 (s.2.2.1 - y_3.1.1))) →
 (pdqR_pre (y_3.2.1,((w64 (y_3.1.1 + (1:Int))),(s.2.2.1,((w64 (s.2.2.2.1 - (1:Int))),x.2.2.2.2)))))))))))))))))) ∧
 (¬ (s.2.1 > (0:Int)) →
 ((partM_pre (y.2.1,(s.2.1,(s.2.2.1,(y_1.1,x.2.2.2.2))))) ∧
 letP (partM (y.2.1,(s.2.1,(s.2.2.1,(y_1.1,x.2.2.2.2))))) fun y_2 =>
 ((((w64 (y_2.1.1 - s.2.1)) < (w64 (s.2.2.1 - y_2.1.1))) →
 (pdqR_pre (y_2.2.1,(s.2.1,(y_2.1.1,((w64 (s.2.2.2.1 - (1:Int))),x.2.2.2.2)))))) ∧
 (¬ ((w64 (y_2.1.1 - s.2.1)) < (w64 (s.2.2.1 - y_2.1.1))) →
 (pdqR_pre (y_2.2.1,((w64 (y_2.1.1 + (1:Int))),(s.2.2.1,((w64 (s.2.2.2.1 - (1:Int))),x.2.2.2.2))))))))))))) ∧
 (¬ (s.2.2.2.2.1 = true) →
 (((s.2.1 > (0:Int)) →
 ((((0:Int) ≤ (w64 (s.2.1 - (1:Int)))) ∧ ((w64 (s.2.1 - (1:Int))) < (y.2.1.length:Int))) ∧
 (((Int.toNat (w64 (s.2.1 - (1:Int)))) < (List.length y.2.1)) ∧
 (((Int.toNat (w64 (s.2.1 - (1:Int)))) < (List.length y.2.1)) ∧
 ((((0:Int) ≤ y_1.1) ∧ (y_1.1 < (y.2.1.length:Int))) ∧
 (((Int.toNat y_1.1) < (List.length y.2.1)) ∧
 (((Int.toNat y_1.1) < (List.length y.2.1)) ∧
 ((byM_pre (x.2.2.2.2,((List.getD y.2.1 (Int.toNat (w64 (s.2.1 - (1:Int)))) (0:Int)),(List.getD y.2.1 (Int.toNat y_1.1) (0:Int))))) ∧
 letP (byM (x.2.2.2.2,((List.getD y.2.1 (Int.toNat (w64 (s.2.1 - (1:Int)))) (0:Int)),(List.getD y.2.1 (Int.toNat y_1.1) (0:Int))))) fun y_2 =>
 ((((!(decide (y_2 < (0:Int)))) = true) →
 (partEM_pre (y.2.1,(s.2.1,(s.2.2.1,(y_1.1,x.2.2.2.2)))))) ∧
 (¬ ((!(decide (y_2 < (0:Int)))) = true) →
 ((partM_pre (y.2.1,(s.2.1,(s.2.2.1,(y_1.1,x.2.2.2.2))))) ∧
 letP (partM (y.2.1,(s.2.1,(s.2.2.1,(y_1.1,x.2.2.2.2))))) fun y_3 =>
 ((((w64 (y_3.1.1 - s.2.1)) < (w64 (s.2.2.1 - y_3.1.1))) →
 (pdqR_pre (y_3.2.1,(s.2.1,(y_3.1.1,((w64 (s.2.2.2.1 - (1:Int))),x.2.2.2.2)))))) ∧
 (¬ ((w64 (y_3.1.1 - s.2.1)) < (w64 (s.2.2.1 - y_3.1.1))) →
 (pdqR_pre (y_3.2.1,((w64 (y_3.1.1 + (1:Int))),(s.2.2.1,((w64 (s.2.2.2.1 - (1:Int))),x.2.2.2.2)))))))))))))))))) ∧
 (¬ (s.2.1 > (0:Int)) →
 ((partM_pre (y.2.1,(s.2.1,(s.2.2.1,(y_1.1,x.2.2.2.2))))) ∧
 letP (partM (y.2.1,(s.2.1,(s.2.2.1,(y_1.1,x.2.2.2.2))))) fun y_2 =>
 ((((w64 (y_2.1.1 - s.2.1)) < (w64 (s.2.2.1 - y_2.1.1))) →
 (pdqR_pre (y_2.2.1,(s.2.1,(y_2.1.1,((w64 (s.2.2.2.1 - (1:Int))),x.2.2.2.2)))))) ∧
 (¬ ((w64 (y_2.1.1 - s.2.1)) < (w64 (s.2.2.1 - y_2.1.1))) →
 (pdqR_pre (y_2.2.1,((w64 (y_2.1.1 + (1:Int))),(s.2.2.1,((w64 (s.2.2.2.1 - (1:Int))),x.2.2.2.2))))))))))))))))) ∧
 (¬ ((!s.2.2.2.2.1) = true) →
 ((pivM_pre (s.1,(s.2.1,(s.2.2.1,x.2.2.2.2)))) ∧
 letP (pivM (s.1,(s.2.1,(s.2.2.1,x.2.2.2.2)))) fun y =>
 ((((y.2 == (2:Int)) = true) →
 ((revM_pre (s.1,(s.2.1,(s.2.2.1,x.2.2.2.2)))) ∧
 letP (revM (s.1,(s.2.1,(s.2.2.1,x.2.2.2.2)))) fun y_1 =>
 (((s.2.2.2.2.1 = true) →
 (((s.2.2.2.2.2 = true) →
 ((pInsM_pre (y_1.2.1,(s.2.1,(s.2.2.1,x.2.2.2.2)))) ∧
 letP (pInsM (y_1.2.1,(s.2.1,(s.2.2.1,x.2.2.2.2)))) fun y_2 =>
 (¬ (y_2.1 = true) →
 (((s.2.1 > (0:Int)) →
 ((((0:Int) ≤ (w64 (s.2.1 - (1:Int)))) ∧ ((w64 (s.2.1 - (1:Int))) < (y_2.2.1.length:Int))) ∧
 (((Int.toNat (w64 (s.2.1 - (1:Int)))) < (List.length y_2.2.1)) ∧
 (((Int.toNat (w64 (s.2.1 - (1:Int)))) < (List.length y_2.2.1)) ∧
 ((((0:Int) ≤ (w64 ((w64 (s.2.2.1 - (1:Int))) - (w64 (y.1 - s.2.1))))) ∧ ((w64 ((w64 (s.2.2.1 - (1:Int))) - (w64 (y.1 - s.2.1)))) < (y_2.2.1.length:Int))) ∧
 (((Int.toNat (w64 ((w64 (s.2.2.1 - (1:Int))) - (w64 (y.1 - s.2.1))))) < (List.length y_2.2.1)) ∧
 (((Int.toNat (w64 ((w64 (s.2.2.1 - (1:Int))) - (w64 (y.1 - s.2.1))))) < (List.length y_2.2.1)) ∧
 ((byM_pre (x.2.2.2.2,((List.getD y_2.2.1 (Int.toNat (w64 (s.2.1 - (1:Int)))) (0:Int)),(List.getD y_2.2.1 (Int.toNat (w64 ((w64 (s.2.2.1 - (1:Int))) - (w64 (y.1 - s.2.1))))) (0:Int))))) ∧
 letP (byM (x.2.2.2.2,((List.getD y_2.2.1 (Int.toNat (w64 (s.2.1 - (1:Int)))) (0:Int)),(List.getD y_2.2.1 (Int.toNat (w64 ((w64 (s.2.2.1 - (1:Int))) - (w64 (y.1 - s.2.1))))) (0:Int))))) fun y_3 =>
 ((((!(decide (y_3 < (0:Int)))) = true) →
 (partEM_pre (y_2.2.1,(s.2.1,(s.2.2.1,((w64 ((w64 (s.2.2.1 - (1:Int))) - (w64 (y.1 - s.2.1)))),x.2.2.2.2)))))) ∧
 (¬ ((!(decide (y_3 < (0:Int)))) = true) →
 ((partM_pre (y_2.2.1,(s.2.1,(s.2.2.1,((w64 ((w64 (s.2.2.1 - (1:Int))) - (w64 (y.1 - s.2.1)))),x.2.2.2.2))))) ∧
 letP (partM (y_2.2.1,(s.2.1,(s.2.2.1,((w64 ((w64 (s.2.2.1 - (1:Int))) - (w64 (y.1 - s.2.1)))),x.2.2.2.2))))) fun y_4 =>
 ((((w64 (y_4.1.1 - s.2.1)) < (w64 (s.2.2.1 - y_4.1.1))) →
 (pdqR_pre (y_4.2.1,(s.2.1,(y_4.1.1,(s.2.2.2.1,x.2.2.2.2)))))) ∧
 (¬ ((w64 (y_4.1.1 - s.2.1)) < (w64 (s.2.2.1 - y_4.1.1))) →
 (pdqR_pre (y_4.2.1,((w64 (y_4.1.1 + (1:Int))),(s.2.2.1,(s.2.2.2.1,x.2.2.2.2)))))))))))))))))) ∧
 (¬ (s.2.1 > (0:Int)) →
 ((partM_pre (y_2.2.1,(s.2.1,(s.2.2.1,((w64 ((w64 (s.2.2.1 - (1:Int))) - (w64 (y.1 - s.2.1)))),x.2.2.2.2))))) ∧
 letP (partM (y_2.2.1,(s.2.1,(s.2.2.1,((w64 ((w64 (s.2.2.1 - (1:Int))) - (w64 (y.1 - s.2.1)))),x.2.2.2.2))))) fun y_3 =>
 ((((w64 (y_3.1.1 - s.2.1)) < (w64 (s.2.2.1 - y_3.1.1))) →
 (pdqR_pre (y_3.2.1,(s.2.1,(y_3.1.1,(s.2.2.2.1,x.2.2.2.2)))))) ∧
 (¬ ((w64 (y_3.1.1 - s.2.1)) < (w64 (s.2.2.1 - y_3.1.1))) →
 (pdqR_pre (y_3.2.1,((w64 (y_3.1.1 + (1:Int))),(s.2.2.1,(s.2.2.2.1,x.2.2.2.2))))))))))))) ∧
 (¬ (s.2.2.2.2.2 = true) →
 (((s.2.1 > (0:Int)) →
 ((((0:Int) ≤ (w64 (s.2.1 - (1:Int)))) ∧ ((w64 (s.2.1 - (1:Int))) < (y_1.2.1.length:Int))) ∧
 (((Int.toNat (w64 (s.2.1 - (1:Int)))) < (List.length y_1.2.1)) ∧
 (((Int.toNat (w64 (s.2.1 - (1:Int)))) < (List.length y_1.2.1)) ∧
 ((((0:Int) ≤ (w64 ((w64 (s.2.2.1 - (1:Int))) - (w64 (y.1 - s.2.1))))) ∧ ((w64 ((w64 (s.2.2.1 - (1:Int))) - (w64 (y.1 - s.2.1)))) < (y_1.2.1.length:Int))) ∧
 (((Int.toNat (w64 ((w64 (s.2.2.1 - (1:Int))) - (w64 (y.1 - s.2.1))))) < (List.length y_1.2.1)) ∧
 (((Int.toNat (w64 ((w64 (s.2.2.1 - (1:Int))) - (w64 (y.1 - s.2.1))))) < (List.length y_1.2.1)) ∧
 ((byM_pre (x.2.2.2.2,((List.getD y_1.2.1 (Int.toNat (w64 (s.2.1 - (1:Int)))) (0:Int)),(List.getD y_1.2.1 (Int.toNat (w64 ((w64 (s.2.2.1 - (1:Int))) - (w64 (y.1 - s.2.1))))) (0:Int))))) ∧
 letP (byM (x.2.2.2.2,((List.getD y_1.2.1 (Int.toNat (w64 (s.2.1 - (1:Int)))) (0:Int)),(List.getD y_1.2.1 (Int.toNat (w64 ((w64 (s.2.2.1 - (1:Int))) - (w64 (y.1 - s.2.1))))) (0:Int))))) fun y_2 =>
 ((((!(decide (y_2 < (0:Int)))) = true) →
 (partEM_pre (y_1.2.1,(s.2.1,(s.2.2.1,((w64 ((w64 (s.2.2.1 - (1:Int))) - (w64 (y.1 - s.2.1)))),x.2.2.2.2)))))) ∧
 (¬ ((!(decide (y_2 < (0:Int)))) = true) →
 ((partM_pre (y_1.2.1,(s.2.1,(s.2.2.1,((w64 ((w64 (s.2.2.1 - (1:Int))) - (w64 (y.1 - s.2.1)))),x.2.2.2.2))))) ∧
 letP (partM (y_1.2.1,(s.2.1,(s.2.2.1,((w64 ((w64 (s.2.2.1 - (1:Int))) - (w64 (y.1 - s.2.1)))),x.2.2.2.2))))) fun y_3 =>
 ((((w64 (y_3.1.1 - s.2.1)) < (w64 (s.2.2.1 - y_3.1.1))) →
 (pdqR_pre (y_3.2.1,(s.2.1,(y_3.1.1,(s.2.2.2.1,x.2.2.2.2)))))) ∧
 (¬ ((w64 (y_3.1.1 - s.2.1)) < (w64 (s.2.2.1 - y_3.1.1))) →
 (pdqR_pre (y_3.2.1,((w64 (y_3.1.1 + (1:Int))),(s.2.2.1,(s.2.2.2.1,x.2.2.2.2)))))))))))))))))) ∧
 (¬ (s.2.1 > (0:Int)) →
 ((partM_pre (y_1.2.1,(s.2.1,(s.2.2.1,((w64 ((w64 (s.2.2.1 - (1:Int))) - (w64 (y.1 - s.2.1)))),x.2.2.2.2))))) ∧
 letP (partM (y_1.2.1,(s.2.1,(s.2.2.1,((w64 ((w64 (s.2.2.1 - (1:Int))) - (w64 (y.1 - s.2.1)))),x.2.2.2.2))))) fun y_2 =>
 ((((w64 (y_2.1.1 - s.2.1)) < (w64 (s.2.2.1 - y_2.1.1))) →
 (pdqR_pre (y_2.2.1,(s.2.1,(y_2.1.1,(s.2.2.2.1,x.2.2.2.2)))))) ∧
 (¬ ((w64 (y_2.1.1 - s.2.1)) < (w64 (s.2.2.1 - y_2.1.1))) →
 (pdqR_pre (y_2.2.1,((w64 (y_2.1.1 + (1:Int))),(s.2.2.1,(s.2.2.2.1,x.2.2.2.2))))))))))))) ∧
 (¬ (s.2.2.2.2.1 = true) →
 (((s.2.1 > (0:Int)) →
 ((((0:Int) ≤ (w64 (s.2.1 - (1:Int)))) ∧ ((w64 (s.2.1 - (1:Int))) < (y_1.2.1.length:Int))) ∧
 (((Int.toNat (w64 (s.2.1 - (1:Int)))) < (List.length y_1.2.1)) ∧
 (((Int.toNat (w64 (s.2.1 - (1:Int)))) < (List.length y_1.2.1)) ∧
 ((((0:Int) ≤ (w64 ((w64 (s.2.2.1 - (1:Int))) - (w64 (y.1 - s.2.1))))) ∧ ((w64 ((w64 (s.2.2.1 - (1:Int))) - (w64 (y.1 - s.2.1)))) < (y_1.2.1.length:Int))) ∧
 (((Int.toNat (w64 ((w64 (s.2.2.1 - (1:Int))) - (w64 (y.1 - s.2.1))))) < (List.length y_1.2.1)) ∧
 (((Int.toNat (w64 ((w64 (s.2.2.1 - (1:Int))) - (w64 (y.1 - s.2.1))))) < (List.length y_1.2.1)) ∧
 ((byM_pre (x.2.2.2.2,((List.getD y_1.2.1 (Int.toNat (w64 (s.2.1 - (1:Int)))) (0:Int)),(List.getD y_1.2.1 (Int.toNat (w64 ((w64 (s.2.2.1 - (1:Int))) - (w64 (y.1 - s.2.1))))) (0:Int))))) ∧
 letP (byM (x.2.2.2.2,((List.getD y_1.2.1 (Int.toNat (w64 (s.2.1 - (1:Int)))) (0:Int)),(List.getD y_1.2.1 (Int.toNat (w64 ((w64 (s.2.2.1 - (1:Int))) - (w64 (y.1 - s.2.1))))) (0:Int))))) fun y_2 =>
 ((((!(decide (y_2 < (0:Int)))) = true) →
 (partEM_pre (y_1.2.1,(s.2.1,(s.2.2.1,((w64 ((w64 (s.2.2.1 - (1:Int))) - (w64 (y.1 - s.2.1)))),x.2.2.2.2)))))) ∧
 (¬ ((!(decide (y_2 < (0:Int)))) = true) →
 ((partM_pre (y_1.2.1,(s.2.1,(s.2.2.1,((w64 ((w64 (s.2.2.1 - (1:Int))) - (w64 (y.1 - s.2.1)))),x.2.2.2.2))))) ∧
 letP (partM (y_1.2.1,(s.2.1,(s.2.2.1,((w64 ((w64 (s.2.2.1 - (1:Int))) - (w64 (y.1 - s.2.1)))),x.2.2.2.2))))) fun y_3 =>
 ((((w64 (y_3.1.1 - s.2.1)) < (w64 (s.2.2.1 - y_3.1.1))) →
 (pdqR_pre (y_3.2.1,(s.2.1,(y_3.1.1,(s.2.2.2.1,x.2.2.2.2)))))) ∧
 (¬ ((w64 (y_3.1.1 - s.2.1)) < (w64 (s.2.2.1 - y_3.1.1))) →
 (pdqR_pre (y_3.2.1,((w64 (y_3.1.1 + (1:Int))),(s.2.2.1,(s.2.2.2.1,x.2.2.2.2)))))))))))))))))) ∧
 (¬ (s.2.1 > (0:Int)) →
 ((partM_pre (y_1.2.1,(s.2.1,(s.2.2.1,((w64 ((w64 (s.2.2.1 - (1:Int))) - (w64 (y.1 - s.2.1)))),x.2.2.2.2))))) ∧
 letP (partM (y_1.2.1,(s.2.1,(s.2.2.1,((w64 ((w64 (s.2.2.1 - (1:Int))) - (w64 (y.1 - s.2.1)))),x.2.2.2.2))))) fun y_2 =>
 ((((w64 (y_2.1.1 - s.2.1)) < (w64 (s.2.2.1 - y_2.1.1))) →
 (pdqR_pre (y_2.2.1,(s.2.1,(y_2.1.1,(s.2.2.2.1,x.2.2.2.2)))))) ∧
 (¬ ((w64 (y_2.1.1 - s.2.1)) < (w64 (s.2.2.1 - y_2.1.1))) →
 (pdqR_pre (y_2.2.1,((w64 (y_2.1.1 + (1:Int))),(s.2.2.1,(s.2.2.2.1,x.2.2.2.2)))))))))))))) ∧
 (¬ ((y.2 == (2:Int)) = true) →
 (((s.2.2.2.2.1 = true) →
 (((s.2.2.2.2.2 = true) →
 ((((y.2 == (1:Int)) = true) →
 ((pInsM_pre (s.1,(s.2.1,(s.2.2.1,x.2.2.2.2)))) ∧
 letP (pInsM (s.1,(s.2.1,(s.2.2.1,x.2.2.2.2)))) fun y_1 =>
 (¬ (y_1.1 = true) →
 (((s.2.1 > (0:Int)) →
 ((((0:Int) ≤ (w64 (s.2.1 - (1:Int)))) ∧ ((w64 (s.2.1 - (1:Int))) < (y_1.2.1.length:Int))) ∧
 (((Int.toNat (w64 (s.2.1 - (1:Int)))) < (List.length y_1.2.1)) ∧
 (((Int.toNat (w64 (s.2.1 - (1:Int)))) < (List.length y_1.2.1)) ∧
 ((((0:Int) ≤ y.1) ∧ (y.1 < (y_1.2.1.length:Int))) ∧
 (((Int.toNat y.1) < (List.length y_1.2.1)) ∧
 (((Int.toNat y.1) < (List.length y_1.2.1)) ∧
 ((byM_pre (x.2.2.2.2,((List.getD y_1.2.1 (Int.toNat (w64 (s.2.1 - (1:Int)))) (0:Int)),(List.getD y_1.2.1 (Int.toNat y.1) (0:Int))))) ∧
 letP (byM (x.2.2.2.2,((List.getD y_1.2.1 (Int.toNat (w64 (s.2.1 - (1:Int)))) (0:Int)),(List.getD y_1.2.1 (Int.toNat y.1) (0:Int))))) fun y_2 =>
 ((((!(decide (y_2 < (0:Int)))) = true) →
 (partEM_pre (y_1.2.1,(s.2.1,(s.2.2.1,(y.1,x.2.2.2.2)))))) ∧
 (¬ ((!(decide (y_2 < (0:Int)))) = true) →
 ((partM_pre (y_1.2.1,(s.2.1,(s.2.2.1,(y.1,x.2.2.2.2))))) ∧
 letP (partM (y_1.2.1,(s.2.1,(s.2.2.1,(y.1,x.2.2.2.2))))) fun y_3 =>
 ((((w64 (y_3.1.1 - s.2.1)) < (w64 (s.2.2.1 - y_3.1.1))) →
 (pdqR_pre (y_3.2.1,(s.2.1,(y_3.1.1,(s.2.2.2.1,x.2.2.2.2)))))) ∧
 (¬ ((w64 (y_3.1.1 - s.2.1)) < (w64 (s.2.2.1 - y_3.1.1))) →
 (pdqR_pre (y_3.2.1,((w64 (y_3.1.1 + (1:Int))),(s.2.2.1,(s.2.2.2.1,x.2.2.2.2)))))))))))))))))) ∧
 (¬ (s.2.1 > (0:Int)) →
 ((partM_pre (y_1.2.1,(s.2.1,(s.2.2.1,(y.1,x.2.2.2.2))))) ∧
 letP (partM (y_1.2.1,(s.2.1,(s.2.2.1,(y.1,x.2.2.2.2))))) fun y_2 =>
 ((((w64 (y_2.1.1 - s.2.1)) < (w64 (s.2.2.1 - y_2.1.1))) →
 (pdqR_pre (y_2.2.1,(s.2.1,(y_2.1.1,(s.2.2.2.1,x.2.2.2.2)))))) ∧
 (¬ ((w64 (y_2.1.1 - s.2.1)) < (w64 (s.2.2.1 - y_2.1.1))) →
 (pdqR_pre (y_2.2.1,((w64 (y_2.1.1 + (1:Int))),(s.2.2.1,(s.2.2.2.1,x.2.2.2.2))))))))))))) ∧
 (¬ ((y.2 == (1:Int)) = true) →
 (((s.2.1 > (0:Int)) →
 ((((0:Int) ≤ (w64 (s.2.1 - (1:Int)))) ∧ ((w64 (s.2.1 - (1:Int))) < (s.1.length:Int))) ∧
 (((Int.toNat (w64 (s.2.1 - (1:Int)))) < (List.length s.1)) ∧
 (((Int.toNat (w64 (s.2.1 - (1:Int)))) < (List.length s.1)) ∧
 ((((0:Int) ≤ y.1) ∧ (y.1 < (s.1.length:Int))) ∧
 (((Int.toNat y.1) < (List.length s.1)) ∧
 (((Int.toNat y.1) < (List.length s.1)) ∧
 ((byM_pre (x.2.2.2.2,((List.getD s.1 (Int.toNat (w64 (s.2.1 - (1:Int)))) (0:Int)),(List.getD s.1 (Int.toNat y.1) (0:Int))))) ∧
 letP (byM (x.2.2.2.2,((List.getD s.1 (Int.toNat (w64 (s.2.1 - (1:Int)))) (0:Int)),(List.getD s.1 (Int.toNat y.1) (0:Int))))) fun y_1 =>
 ((((!(decide (y_1 < (0:Int)))) = true) →
 (partEM_pre (s.1,(s.2.1,(s.2.2.1,(y.1,x.2.2.2.2)))))) ∧
 (¬ ((!(decide (y_1 < (0:Int)))) = true) →
 ((partM_pre (s.1,(s.2.1,(s.2.2.1,(y.1,x.2.2.2.2))))) ∧
 letP (partM (s.1,(s.2.1,(s.2.2.1,(y.1,x.2.2.2.2))))) fun y_2 =>
 ((((w64 (y_2.1.1 - s.2.1)) < (w64 (s.2.2.1 - y_2.1.1))) →
 (pdqR_pre (y_2.2.1,(s.2.1,(y_2.1.1,(s.2.2.2.1,x.2.2.2.2)))))) ∧
 (¬ ((w64 (y_2.1.1 - s.2.1)) < (w64 (s.2.2.1 - y_2.1.1))) →
 (pdqR_pre (y_2.2.1,((w64 (y_2.1.1 + (1:Int))),(s.2.2.1,(s.2.2.2.1,x.2.2.2.2)))))))))))))))))) ∧
 (¬ (s.2.1 > (0:Int)) →
 ((partM_pre (s.1,(s.2.1,(s.2.2.1,(y.1,x.2.2.2.2))))) ∧
 letP (partM (s.1,(s.2.1,(s.2.2.1,(y.1,x.2.2.2.2))))) fun y_1 =>
 ((((w64 (y_1.1.1 - s.2.1)) < (w64 (s.2.2.1 - y_1.1.1))) →
 (pdqR_pre (y_1.2.1,(s.2.1,(y_1.1.1,(s.2.2.2.1,x.2.2.2.2)))))) ∧
 (¬ ((w64 (y_1.1.1 - s.2.1)) < (w64 (s.2.2.1 - y_1.1.1))) →
 (pdqR_pre (y_1.2.1,((w64 (y_1.1.1 + (1:Int))),(s.2.2.1,(s.2.2.2.1,x.2.2.2.2))))))))))))) ∧
 (¬ (s.2.2.2.2.2 = true) →
 (((s.2.1 > (0:Int)) →
 ((((0:Int) ≤ (w64 (s.2.1 - (1:Int)))) ∧ ((w64 (s.2.1 - (1:Int))) < (s.1.length:Int))) ∧
 (((Int.toNat (w64 (s.2.1 - (1:Int)))) < (List.length s.1)) ∧
 (((Int.toNat (w64 (s.2.1 - (1:Int)))) < (List.length s.1)) ∧
 ((((0:Int) ≤ y.1) ∧ (y.1 < (s.1.length:Int))) ∧
 (((Int.toNat y.1) < (List.length s.1)) ∧
 (((Int.toNat y.1) < (List.length s.1)) ∧
 ((byM_pre (x.2.2.2.2,((List.getD s.1 (Int.toNat (w64 (s.2.1 - (1:Int)))) (0:Int)),(List.getD s.1 (Int.toNat y.1) (0:Int))))) ∧
 letP (byM (x.2.2.2.2,((List.getD s.1 (Int.toNat (w64 (s.2.1 - (1:Int)))) (0:Int)),(List.getD s.1 (Int.toNat y.1) (0:Int))))) fun y_1 =>
 ((((!(decide (y_1 < (0:Int)))) = true) →
 (partEM_pre (s.1,(s.2.1,(s.2.2.1,(y.1,x.2.2.2.2)))))) ∧
 (¬ ((!(decide (y_1 < (0:Int)))) = true) →
 ((partM_pre (s.1,(s.2.1,(s.2.2.1,(y.1,x.2.2.2.2))))) ∧
 letP (partM (s.1,(s.2.1,(s.2.2.1,(y.1,x.2.2.2.2))))) fun y_2 =>
 ((((w64 (y_2.1.1 - s.2.1)) < (w64 (s.2.2.1 - y_2.1.1))) →
 (pdqR_pre (y_2.2.1,(s.2.1,(y_2.1.1,(s.2.2.2.1,x.2.2.2.2)))))) ∧
 (¬ ((w64 (y_2.1.1 - s.2.1)) < (w64 (s.2.2.1 - y_2.1.1))) →
 (pdqR_pre (y_2.2.1,((w64 (y_2.1.1 + (1:Int))),(s.2.2.1,(s.2.2.2.1,x.2.2.2.2)))))))))))))))))) ∧
 (¬ (s.2.1 > (0:Int)) →
 ((partM_pre (s.1,(s.2.1,(s.2.2.1,(y.1,x.2.2.2.2))))) ∧
 letP (partM (s.1,(s.2.1,(s.2.2.1,(y.1,x.2.2.2.2))))) fun y_1 =>
 ((((w64 (y_1.1.1 - s.2.1)) < (w64 (s.2.2.1 - y_1.1.1))) →
 (pdqR_pre (y_1.2.1,(s.2.1,(y_1.1.1,(s.2.2.2.1,x.2.2.2.2)))))) ∧
 (¬ ((w64 (y_1.1.1 - s.2.1)) < (w64 (s.2.2.1 - y_1.1.1))) →
 (pdqR_pre (y_1.2.1,((w64 (y_1.1.1 + (1:Int))),(s.2.2.1,(s.2.2.2.1,x.2.2.2.2))))))))))))) ∧
 (¬ (s.2.2.2.2.1 = true) →
 (((s.2.1 > (0:Int)) →
 ((((0:Int) ≤ (w64 (s.2.1 - (1:Int)))) ∧ ((w64 (s.2.1 - (1:Int))) < (s.1.length:Int))) ∧
 (((Int.toNat (w64 (s.2.1 - (1:Int)))) < (List.length s.1)) ∧
 (((Int.toNat (w64 (s.2.1 - (1:Int)))) < (List.length s.1)) ∧
 ((((0:Int) ≤ y.1) ∧ (y.1 < (s.1.length:Int))) ∧
 (((Int.toNat y.1) < (List.length s.1)) ∧
 (((Int.toNat y.1) < (List.length s.1)) ∧
 ((byM_pre (x.2.2.2.2,((List.getD s.1 (Int.toNat (w64 (s.2.1 - (1:Int)))) (0:Int)),(List.getD s.1 (Int.toNat y.1) (0:Int))))) ∧
 letP (byM (x.2.2.2.2,((List.getD s.1 (Int.toNat (w64 (s.2.1 - (1:Int)))) (0:Int)),(List.getD s.1 (Int.toNat y.1) (0:Int))))) fun y_1 =>
 ((((!(decide (y_1 < (0:Int)))) = true) →
 (partEM_pre (s.1,(s.2.1,(s.2.2.1,(y.1,x.2.2.2.2)))))) ∧
 (¬ ((!(decide (y_1 < (0:Int)))) = true) →
 ((partM_pre (s.1,(s.2.1,(s.2.2.1,(y.1,x.2.2.2.2))))) ∧
 letP (partM (s.1,(s.2.1,(s.2.2.1,(y.1,x.2.2.2.2))))) fun y_2 =>
 ((((w64 (y_2.1.1 - s.2.1)) < (w64 (s.2.2.1 - y_2.1.1))) →
 (pdqR_pre (y_2.2.1,(s.2.1,(y_2.1.1,(s.2.2.2.1,x.2.2.2.2)))))) ∧
 (¬ ((w64 (y_2.1.1 - s.2.1)) < (w64 (s.2.2.1 - y_2.1.1))) →
 (pdqR_pre (y_2.2.1,((w64 (y_2.1.1 + (1:Int))),(s.2.2.1,(s.2.2.2.1,x.2.2.2.2)))))))))))))))))) ∧
 (¬ (s.2.1 > (0:Int)) →
 ((partM_pre (s.1,(s.2.1,(s.2.2.1,(y.1,x.2.2.2.2))))) ∧
 letP (partM (s.1,(s.2.1,(s.2.2.1,(y.1,x.2.2.2.2))))) fun y_1 =>
 ((((w64 (y_1.1.1 - s.2.1)) < (w64 (s.2.2.1 - y_1.1.1))) →
 (pdqR_pre (y_1.2.1,(s.2.1,(y_1.1.1,(s.2.2.2.1,x.2.2.2.2)))))) ∧
 (¬ ((w64 (y_1.1.1 - s.2.1)) < (w64 (s.2.2.1 - y_1.1.1))) →
 (pdqR_pre (y_1.2.1,((w64 (y_1.1.1 + (1:Int))),(s.2.2.1,(s.2.2.2.1,x.2.2.2.2)))))))))))))))))))))
def pdqM_l0_3_t (x : ((List Int) × (Int × (Int × (Int × ((List I9) × Int)))))) (s : ((List Int) × (Int × (Int × (Int × (Bool × Bool)))))) : Tr (((List Int) × (Int × (Int × (Int × (Bool × Bool))))) ⊕ (List Int)) true :=
 (.i11 ((w64 (s.2.2.1 - s.2.1)) ≤ (12:Int))
 (.fnW insM_S (s.1,(s.2.1,(s.2.2.1,x.2.2.2.2))) fun y =>
 (.ret (.inr (y.2.1))))
 (.b11 (s.2.2.2.1 == z0)
 (.fnW heapM_S (s.1,(s.2.1,(s.2.2.1,x.2.2.2.2))) fun y =>
 (.ret (.inr (y.2.1))))
 (.b11 (!s.2.2.2.2.1)
 (.fnW brkM_S (s.1,(s.2.1,(s.2.2.1,x.2.2.2.2))) fun y =>
 (.fn pivM_S (y.2.1,(s.2.1,(s.2.2.1,x.2.2.2.2))) fun y_1 =>
 (.b11 (y_1.2 == (2:Int))
 (.fnW revM_S (y.2.1,(s.2.1,(s.2.2.1,x.2.2.2.2))) fun y_2 =>
 (.b11 s.2.2.2.2.1
 (.b11 s.2.2.2.2.2
 (.fnW pInsM_S (y_2.2.1,(s.2.1,(s.2.2.1,x.2.2.2.2))) fun y_3 =>
 (.b01 y_3.1
 (.ret (.inr (y_3.2.1)))
 (.i11 (s.2.1 > z0)
 (.oI2 (wm s.2.1) y_3.2.1
 (.oI2 (w64 ((wm s.2.2.1) - (w64 (y_1.1 - s.2.1)))) y_3.2.1
 (.fn byM_S (x.2.2.2.2,((gI y_3.2.1 (wm s.2.1)),(gI y_3.2.1 (w64 ((wm s.2.2.1) - (w64 (y_1.1 - s.2.1))))))) fun y_4 =>
 (.b11 (!(decide (y_4 < z0)))
 (.fnW partEM_S (y_3.2.1,(s.2.1,(s.2.2.1,((w64 ((wm s.2.2.1) - (w64 (y_1.1 - s.2.1)))),x.2.2.2.2)))) fun y_5 =>
 (.ret (.inl (y_5.2.1,(y_5.1,(s.2.2.1,((wm s.2.2.2.1),(s.2.2.2.2.1,s.2.2.2.2.2))))))))
 (.fnW partM_S (y_3.2.1,(s.2.1,(s.2.2.1,((w64 ((wm s.2.2.1) - (w64 (y_1.1 - s.2.1)))),x.2.2.2.2)))) fun y_5 =>
 (.i11 ((w64 (y_5.1.1 - s.2.1)) < (w64 (s.2.2.1 - y_5.1.1)))
 (.fnW pdqR_S (y_5.2.1,(s.2.1,(y_5.1.1,((wm s.2.2.2.1),x.2.2.2.2)))) fun y_6 =>
 (.ret (.inl (y_6.2.1,((w1 y_5.1.1),(s.2.2.1,((wm s.2.2.2.1),((decide ((w64 (y_5.1.1 - s.2.1)) ≥ (w64 (Int.tdiv (w64 (s.2.2.1 - s.2.1)) (8:Int))))),y_5.1.2))))))))
 (.fnW pdqR_S (y_5.2.1,((w1 y_5.1.1),(s.2.2.1,((wm s.2.2.2.1),x.2.2.2.2)))) fun y_6 =>
 (.ret (.inl (y_6.2.1,(s.2.1,(y_5.1.1,((wm s.2.2.2.1),((decide ((w64 (s.2.2.1 - y_5.1.1)) ≥ (w64 (Int.tdiv (w64 (s.2.2.1 - s.2.1)) (8:Int))))),y_5.1.2))))))))))))))
 (.fnW partM_S (y_3.2.1,(s.2.1,(s.2.2.1,((w64 ((wm s.2.2.1) - (w64 (y_1.1 - s.2.1)))),x.2.2.2.2)))) fun y_4 =>
 (.i11 ((w64 (y_4.1.1 - s.2.1)) < (w64 (s.2.2.1 - y_4.1.1)))
 (.fnW pdqR_S (y_4.2.1,(s.2.1,(y_4.1.1,((wm s.2.2.2.1),x.2.2.2.2)))) fun y_5 =>
 (.ret (.inl (y_5.2.1,((w1 y_4.1.1),(s.2.2.1,((wm s.2.2.2.1),((decide ((w64 (y_4.1.1 - s.2.1)) ≥ (w64 (Int.tdiv (w64 (s.2.2.1 - s.2.1)) (8:Int))))),y_4.1.2))))))))
 (.fnW pdqR_S (y_4.2.1,((w1 y_4.1.1),(s.2.2.1,((wm s.2.2.2.1),x.2.2.2.2)))) fun y_5 =>
 (.ret (.inl (y_5.2.1,(s.2.1,(y_4.1.1,((wm s.2.2.2.1),((decide ((w64 (s.2.2.1 - y_4.1.1)) ≥ (w64 (Int.tdiv (w64 (s.2.2.1 - s.2.1)) (8:Int))))),y_4.1.2)))))))))))))
 (.i11 (s.2.1 > z0)
 (.oI2 (wm s.2.1) y_2.2.1
 (.oI2 (w64 ((wm s.2.2.1) - (w64 (y_1.1 - s.2.1)))) y_2.2.1
 (.fn byM_S (x.2.2.2.2,((gI y_2.2.1 (wm s.2.1)),(gI y_2.2.1 (w64 ((wm s.2.2.1) - (w64 (y_1.1 - s.2.1))))))) fun y_3 =>
 (.b11 (!(decide (y_3 < z0)))
 (.fnW partEM_S (y_2.2.1,(s.2.1,(s.2.2.1,((w64 ((wm s.2.2.1) - (w64 (y_1.1 - s.2.1)))),x.2.2.2.2)))) fun y_4 =>
 (.ret (.inl (y_4.2.1,(y_4.1,(s.2.2.1,((wm s.2.2.2.1),(s.2.2.2.2.1,s.2.2.2.2.2))))))))
 (.fnW partM_S (y_2.2.1,(s.2.1,(s.2.2.1,((w64 ((wm s.2.2.1) - (w64 (y_1.1 - s.2.1)))),x.2.2.2.2)))) fun y_4 =>
 (.i11 ((w64 (y_4.1.1 - s.2.1)) < (w64 (s.2.2.1 - y_4.1.1)))
 (.fnW pdqR_S (y_4.2.1,(s.2.1,(y_4.1.1,((wm s.2.2.2.1),x.2.2.2.2)))) fun y_5 =>
 (.ret (.inl (y_5.2.1,((w1 y_4.1.1),(s.2.2.1,((wm s.2.2.2.1),((decide ((w64 (y_4.1.1 - s.2.1)) ≥ (w64 (Int.tdiv (w64 (s.2.2.1 - s.2.1)) (8:Int))))),y_4.1.2))))))))
 (.fnW pdqR_S (y_4.2.1,((w1 y_4.1.1),(s.2.2.1,((wm s.2.2.2.1),x.2.2.2.2)))) fun y_5 =>
 (.ret (.inl (y_5.2.1,(s.2.1,(y_4.1.1,((wm s.2.2.2.1),((decide ((w64 (s.2.2.1 - y_4.1.1)) ≥ (w64 (Int.tdiv (w64 (s.2.2.1 - s.2.1)) (8:Int))))),y_4.1.2))))))))))))))
 (.fnW partM_S (y_2.2.1,(s.2.1,(s.2.2.1,((w64 ((wm s.2.2.1) - (w64 (y_1.1 - s.2.1)))),x.2.2.2.2)))) fun y_3 =>
 (.i11 ((w64 (y_3.1.1 - s.2.1)) < (w64 (s.2.2.1 - y_3.1.1)))
 (.fnW pdqR_S (y_3.2.1,(s.2.1,(y_3.1.1,((wm s.2.2.2.1),x.2.2.2.2)))) fun y_4 =>
 (.ret (.inl (y_4.2.1,((w1 y_3.1.1),(s.2.2.1,((wm s.2.2.2.1),((decide ((w64 (y_3.1.1 - s.2.1)) ≥ (w64 (Int.tdiv (w64 (s.2.2.1 - s.2.1)) (8:Int))))),y_3.1.2))))))))
 (.fnW pdqR_S (y_3.2.1,((w1 y_3.1.1),(s.2.2.1,((wm s.2.2.2.1),x.2.2.2.2)))) fun y_4 =>
 (.ret (.inl (y_4.2.1,(s.2.1,(y_3.1.1,((wm s.2.2.2.1),((decide ((w64 (s.2.2.1 - y_3.1.1)) ≥ (w64 (Int.tdiv (w64 (s.2.2.1 - s.2.1)) (8:Int))))),y_3.1.2))))))))))))
 (.i11 (s.2.1 > z0)
 (.oI2 (wm s.2.1) y_2.2.1
 (.oI2 (w64 ((wm s.2.2.1) - (w64 (y_1.1 - s.2.1)))) y_2.2.1
 (.fn byM_S (x.2.2.2.2,((gI y_2.2.1 (wm s.2.1)),(gI y_2.2.1 (w64 ((wm s.2.2.1) - (w64 (y_1.1 - s.2.1))))))) fun y_3 =>
 (.b11 (!(decide (y_3 < z0)))
 (.fnW partEM_S (y_2.2.1,(s.2.1,(s.2.2.1,((w64 ((wm s.2.2.1) - (w64 (y_1.1 - s.2.1)))),x.2.2.2.2)))) fun y_4 =>
 (.ret (.inl (y_4.2.1,(y_4.1,(s.2.2.1,((wm s.2.2.2.1),(s.2.2.2.2.1,s.2.2.2.2.2))))))))
 (.fnW partM_S (y_2.2.1,(s.2.1,(s.2.2.1,((w64 ((wm s.2.2.1) - (w64 (y_1.1 - s.2.1)))),x.2.2.2.2)))) fun y_4 =>
 (.i11 ((w64 (y_4.1.1 - s.2.1)) < (w64 (s.2.2.1 - y_4.1.1)))
 (.fnW pdqR_S (y_4.2.1,(s.2.1,(y_4.1.1,((wm s.2.2.2.1),x.2.2.2.2)))) fun y_5 =>
 (.ret (.inl (y_5.2.1,((w1 y_4.1.1),(s.2.2.1,((wm s.2.2.2.1),((decide ((w64 (y_4.1.1 - s.2.1)) ≥ (w64 (Int.tdiv (w64 (s.2.2.1 - s.2.1)) (8:Int))))),y_4.1.2))))))))
 (.fnW pdqR_S (y_4.2.1,((w1 y_4.1.1),(s.2.2.1,((wm s.2.2.2.1),x.2.2.2.2)))) fun y_5 =>
 (.ret (.inl (y_5.2.1,(s.2.1,(y_4.1.1,((wm s.2.2.2.1),((decide ((w64 (s.2.2.1 - y_4.1.1)) ≥ (w64 (Int.tdiv (w64 (s.2.2.1 - s.2.1)) (8:Int))))),y_4.1.2))))))))))))))
 (.fnW partM_S (y_2.2.1,(s.2.1,(s.2.2.1,((w64 ((wm s.2.2.1) - (w64 (y_1.1 - s.2.1)))),x.2.2.2.2)))) fun y_3 =>
 (.i11 ((w64 (y_3.1.1 - s.2.1)) < (w64 (s.2.2.1 - y_3.1.1)))
 (.fnW pdqR_S (y_3.2.1,(s.2.1,(y_3.1.1,((wm s.2.2.2.1),x.2.2.2.2)))) fun y_4 =>
 (.ret (.inl (y_4.2.1,((w1 y_3.1.1),(s.2.2.1,((wm s.2.2.2.1),((decide ((w64 (y_3.1.1 - s.2.1)) ≥ (w64 (Int.tdiv (w64 (s.2.2.1 - s.2.1)) (8:Int))))),y_3.1.2))))))))
 (.fnW pdqR_S (y_3.2.1,((w1 y_3.1.1),(s.2.2.1,((wm s.2.2.2.1),x.2.2.2.2)))) fun y_4 =>
 (.ret (.inl (y_4.2.1,(s.2.1,(y_3.1.1,((wm s.2.2.2.1),((decide ((w64 (s.2.2.1 - y_3.1.1)) ≥ (w64 (Int.tdiv (w64 (s.2.2.1 - s.2.1)) (8:Int))))),y_3.1.2)))))))))))))
 (.b11 s.2.2.2.2.1
 (.b11 s.2.2.2.2.2
 (.b11 (y_1.2 == z1)
 (.fnW pInsM_S (y.2.1,(s.2.1,(s.2.2.1,x.2.2.2.2))) fun y_2 =>
 (.b01 y_2.1
 (.ret (.inr (y_2.2.1)))
 (.i11 (s.2.1 > z0)
 (.oI2 (wm s.2.1) y_2.2.1
 (.oI2 y_1.1 y_2.2.1
 (.fn byM_S (x.2.2.2.2,((gI y_2.2.1 (wm s.2.1)),(gI y_2.2.1 y_1.1))) fun y_3 =>
 (.b11 (!(decide (y_3 < z0)))
 (.fnW partEM_S (y_2.2.1,(s.2.1,(s.2.2.1,(y_1.1,x.2.2.2.2)))) fun y_4 =>
 (.ret (.inl (y_4.2.1,(y_4.1,(s.2.2.1,((wm s.2.2.2.1),(s.2.2.2.2.1,s.2.2.2.2.2))))))))
 (.fnW partM_S (y_2.2.1,(s.2.1,(s.2.2.1,(y_1.1,x.2.2.2.2)))) fun y_4 =>
 (.i11 ((w64 (y_4.1.1 - s.2.1)) < (w64 (s.2.2.1 - y_4.1.1)))
 (.fnW pdqR_S (y_4.2.1,(s.2.1,(y_4.1.1,((wm s.2.2.2.1),x.2.2.2.2)))) fun y_5 =>
 (.ret (.inl (y_5.2.1,((w1 y_4.1.1),(s.2.2.1,((wm s.2.2.2.1),((decide ((w64 (y_4.1.1 - s.2.1)) ≥ (w64 (Int.tdiv (w64 (s.2.2.1 - s.2.1)) (8:Int))))),y_4.1.2))))))))
 (.fnW pdqR_S (y_4.2.1,((w1 y_4.1.1),(s.2.2.1,((wm s.2.2.2.1),x.2.2.2.2)))) fun y_5 =>
 (.ret (.inl (y_5.2.1,(s.2.1,(y_4.1.1,((wm s.2.2.2.1),((decide ((w64 (s.2.2.1 - y_4.1.1)) ≥ (w64 (Int.tdiv (w64 (s.2.2.1 - s.2.1)) (8:Int))))),y_4.1.2))))))))))))))
 (.fnW partM_S (y_2.2.1,(s.2.1,(s.2.2.1,(y_1.1,x.2.2.2.2)))) fun y_3 =>
 (.i11 ((w64 (y_3.1.1 - s.2.1)) < (w64 (s.2.2.1 - y_3.1.1)))
 (.fnW pdqR_S (y_3.2.1,(s.2.1,(y_3.1.1,((wm s.2.2.2.1),x.2.2.2.2)))) fun y_4 =>
 (.ret (.inl (y_4.2.1,((w1 y_3.1.1),(s.2.2.1,((wm s.2.2.2.1),((decide ((w64 (y_3.1.1 - s.2.1)) ≥ (w64 (Int.tdiv (w64 (s.2.2.1 - s.2.1)) (8:Int))))),y_3.1.2))))))))
 (.fnW pdqR_S (y_3.2.1,((w1 y_3.1.1),(s.2.2.1,((wm s.2.2.2.1),x.2.2.2.2)))) fun y_4 =>
 (.ret (.inl (y_4.2.1,(s.2.1,(y_3.1.1,((wm s.2.2.2.1),((decide ((w64 (s.2.2.1 - y_3.1.1)) ≥ (w64 (Int.tdiv (w64 (s.2.2.1 - s.2.1)) (8:Int))))),y_3.1.2)))))))))))))
 (.i11 (s.2.1 > z0)
 (.oI2 (wm s.2.1) y.2.1
 (.oI2 y_1.1 y.2.1
 (.fn byM_S (x.2.2.2.2,((gI y.2.1 (wm s.2.1)),(gI y.2.1 y_1.1))) fun y_2 =>
 (.b11 (!(decide (y_2 < z0)))
 (.fnW partEM_S (y.2.1,(s.2.1,(s.2.2.1,(y_1.1,x.2.2.2.2)))) fun y_3 =>
 (.ret (.inl (y_3.2.1,(y_3.1,(s.2.2.1,((wm s.2.2.2.1),(s.2.2.2.2.1,s.2.2.2.2.2))))))))
 (.fnW partM_S (y.2.1,(s.2.1,(s.2.2.1,(y_1.1,x.2.2.2.2)))) fun y_3 =>
 (.i11 ((w64 (y_3.1.1 - s.2.1)) < (w64 (s.2.2.1 - y_3.1.1)))
 (.fnW pdqR_S (y_3.2.1,(s.2.1,(y_3.1.1,((wm s.2.2.2.1),x.2.2.2.2)))) fun y_4 =>
 (.ret (.inl (y_4.2.1,((w1 y_3.1.1),(s.2.2.1,((wm s.2.2.2.1),((decide ((w64 (y_3.1.1 - s.2.1)) ≥ (w64 (Int.tdiv (w64 (s.2.2.1 - s.2.1)) (8:Int))))),y_3.1.2))))))))
 (.fnW pdqR_S (y_3.2.1,((w1 y_3.1.1),(s.2.2.1,((wm s.2.2.2.1),x.2.2.2.2)))) fun y_4 =>
 (.ret (.inl (y_4.2.1,(s.2.1,(y_3.1.1,((wm s.2.2.2.1),((decide ((w64 (s.2.2.1 - y_3.1.1)) ≥ (w64 (Int.tdiv (w64 (s.2.2.1 - s.2.1)) (8:Int))))),y_3.1.2))))))))))))))
 (.fnW partM_S (y.2.1,(s.2.1,(s.2.2.1,(y_1.1,x.2.2.2.2)))) fun y_2 =>
 (.i11 ((w64 (y_2.1.1 - s.2.1)) < (w64 (s.2.2.1 - y_2.1.1)))
 (.fnW pdqR_S (y_2.2.1,(s.2.1,(y_2.1.1,((wm s.2.2.2.1),x.2.2.2.2)))) fun y_3 =>
 (.ret (.inl (y_3.2.1,((w1 y_2.1.1),(s.2.2.1,((wm s.2.2.2.1),((decide ((w64 (y_2.1.1 - s.2.1)) ≥ (w64 (Int.tdiv (w64 (s.2.2.1 - s.2.1)) (8:Int))))),y_2.1.2))))))))
 (.fnW pdqR_S (y_2.2.1,((w1 y_2.1.1),(s.2.2.1,((wm s.2.2.2.1),x.2.2.2.2)))) fun y_3 =>
 (.ret (.inl (y_3.2.1,(s.2.1,(y_2.1.1,((wm s.2.2.2.1),((decide ((w64 (s.2.2.1 - y_2.1.1)) ≥ (w64 (Int.tdiv (w64 (s.2.2.1 - s.2.1)) (8:Int))))),y_2.1.2))))))))))))
 (.i11 (s.2.1 > z0)
 (.oI2 (wm s.2.1) y.2.1
 (.oI2 y_1.1 y.2.1
 (.fn byM_S (x.2.2.2.2,((gI y.2.1 (wm s.2.1)),(gI y.2.1 y_1.1))) fun y_2 =>
 (.b11 (!(decide (y_2 < z0)))
 (.fnW partEM_S (y.2.1,(s.2.1,(s.2.2.1,(y_1.1,x.2.2.2.2)))) fun y_3 =>
 (.ret (.inl (y_3.2.1,(y_3.1,(s.2.2.1,((wm s.2.2.2.1),(s.2.2.2.2.1,s.2.2.2.2.2))))))))
 (.fnW partM_S (y.2.1,(s.2.1,(s.2.2.1,(y_1.1,x.2.2.2.2)))) fun y_3 =>
 (.i11 ((w64 (y_3.1.1 - s.2.1)) < (w64 (s.2.2.1 - y_3.1.1)))
 (.fnW pdqR_S (y_3.2.1,(s.2.1,(y_3.1.1,((wm s.2.2.2.1),x.2.2.2.2)))) fun y_4 =>
 (.ret (.inl (y_4.2.1,((w1 y_3.1.1),(s.2.2.1,((wm s.2.2.2.1),((decide ((w64 (y_3.1.1 - s.2.1)) ≥ (w64 (Int.tdiv (w64 (s.2.2.1 - s.2.1)) (8:Int))))),y_3.1.2))))))))
 (.fnW pdqR_S (y_3.2.1,((w1 y_3.1.1),(s.2.2.1,((wm s.2.2.2.1),x.2.2.2.2)))) fun y_4 =>
 (.ret (.inl (y_4.2.1,(s.2.1,(y_3.1.1,((wm s.2.2.2.1),((decide ((w64 (s.2.2.1 - y_3.1.1)) ≥ (w64 (Int.tdiv (w64 (s.2.2.1 - s.2.1)) (8:Int))))),y_3.1.2))))))))))))))
 (.fnW partM_S (y.2.1,(s.2.1,(s.2.2.1,(y_1.1,x.2.2.2.2)))) fun y_2 =>
 (.i11 ((w64 (y_2.1.1 - s.2.1)) < (w64 (s.2.2.1 - y_2.1.1)))
 (.fnW pdqR_S (y_2.2.1,(s.2.1,(y_2.1.1,((wm s.2.2.2.1),x.2.2.2.2)))) fun y_3 =>
 (.ret (.inl (y_3.2.1,((w1 y_2.1.1),(s.2.2.1,((wm s.2.2.2.1),((decide ((w64 (y_2.1.1 - s.2.1)) ≥ (w64 (Int.tdiv (w64 (s.2.2.1 - s.2.1)) (8:Int))))),y_2.1.2))))))))
 (.fnW pdqR_S (y_2.2.1,((w1 y_2.1.1),(s.2.2.1,((wm s.2.2.2.1),x.2.2.2.2)))) fun y_3 =>
 (.ret (.inl (y_3.2.1,(s.2.1,(y_2.1.1,((wm s.2.2.2.1),((decide ((w64 (s.2.2.1 - y_2.1.1)) ≥ (w64 (Int.tdiv (w64 (s.2.2.1 - s.2.1)) (8:Int))))),y_2.1.2))))))))))))
 (.i11 (s.2.1 > z0)
 (.oI2 (wm s.2.1) y.2.1
 (.oI2 y_1.1 y.2.1
 (.fn byM_S (x.2.2.2.2,((gI y.2.1 (wm s.2.1)),(gI y.2.1 y_1.1))) fun y_2 =>
 (.b11 (!(decide (y_2 < z0)))
 (.fnW partEM_S (y.2.1,(s.2.1,(s.2.2.1,(y_1.1,x.2.2.2.2)))) fun y_3 =>
 (.ret (.inl (y_3.2.1,(y_3.1,(s.2.2.1,((wm s.2.2.2.1),(s.2.2.2.2.1,s.2.2.2.2.2))))))))
 (.fnW partM_S (y.2.1,(s.2.1,(s.2.2.1,(y_1.1,x.2.2.2.2)))) fun y_3 =>
 (.i11 ((w64 (y_3.1.1 - s.2.1)) < (w64 (s.2.2.1 - y_3.1.1)))
 (.fnW pdqR_S (y_3.2.1,(s.2.1,(y_3.1.1,((wm s.2.2.2.1),x.2.2.2.2)))) fun y_4 =>
 (.ret (.inl (y_4.2.1,((w1 y_3.1.1),(s.2.2.1,((wm s.2.2.2.1),((decide ((w64 (y_3.1.1 - s.2.1)) ≥ (w64 (Int.tdiv (w64 (s.2.2.1 - s.2.1)) (8:Int))))),y_3.1.2))))))))
 (.fnW pdqR_S (y_3.2.1,((w1 y_3.1.1),(s.2.2.1,((wm s.2.2.2.1),x.2.2.2.2)))) fun y_4 =>
 (.ret (.inl (y_4.2.1,(s.2.1,(y_3.1.1,((wm s.2.2.2.1),((decide ((w64 (s.2.2.1 - y_3.1.1)) ≥ (w64 (Int.tdiv (w64 (s.2.2.1 - s.2.1)) (8:Int))))),y_3.1.2))))))))))))))
 (.fnW partM_S (y.2.1,(s.2.1,(s.2.2.1,(y_1.1,x.2.2.2.2)))) fun y_2 =>
 (.i11 ((w64 (y_2.1.1 - s.2.1)) < (w64 (s.2.2.1 - y_2.1.1)))
 (.fnW pdqR_S (y_2.2.1,(s.2.1,(y_2.1.1,((wm s.2.2.2.1),x.2.2.2.2)))) fun y_3 =>
 (.ret (.inl (y_3.2.1,((w1 y_2.1.1),(s.2.2.1,((wm s.2.2.2.1),((decide ((w64 (y_2.1.1 - s.2.1)) ≥ (w64 (Int.tdiv (w64 (s.2.2.1 - s.2.1)) (8:Int))))),y_2.1.2))))))))
 (.fnW pdqR_S (y_2.2.1,((w1 y_2.1.1),(s.2.2.1,((wm s.2.2.2.1),x.2.2.2.2)))) fun y_3 =>
 (.ret (.inl (y_3.2.1,(s.2.1,(y_2.1.1,((wm s.2.2.2.1),((decide ((w64 (s.2.2.1 - y_2.1.1)) ≥ (w64 (Int.tdiv (w64 (s.2.2.1 - s.2.1)) (8:Int))))),y_2.1.2)))))))))))))))
 (.fn pivM_S (s.1,(s.2.1,(s.2.2.1,x.2.2.2.2))) fun y =>
 (.b11 (y.2 == (2:Int))
 (.fnW revM_S (s.1,(s.2.1,(s.2.2.1,x.2.2.2.2))) fun y_1 =>
 (.b11 s.2.2.2.2.1
 (.b11 s.2.2.2.2.2
 (.fnW pInsM_S (y_1.2.1,(s.2.1,(s.2.2.1,x.2.2.2.2))) fun y_2 =>
 (.b01 y_2.1
 (.ret (.inr (y_2.2.1)))
 (.i11 (s.2.1 > z0)
 (.oI2 (wm s.2.1) y_2.2.1
 (.oI2 (w64 ((wm s.2.2.1) - (w64 (y.1 - s.2.1)))) y_2.2.1
 (.fn byM_S (x.2.2.2.2,((gI y_2.2.1 (wm s.2.1)),(gI y_2.2.1 (w64 ((wm s.2.2.1) - (w64 (y.1 - s.2.1))))))) fun y_3 =>
 (.b11 (!(decide (y_3 < z0)))
 (.fnW partEM_S (y_2.2.1,(s.2.1,(s.2.2.1,((w64 ((wm s.2.2.1) - (w64 (y.1 - s.2.1)))),x.2.2.2.2)))) fun y_4 =>
 (.ret (.inl (y_4.2.1,(y_4.1,(s.2.2.1,(s.2.2.2.1,(s.2.2.2.2.1,s.2.2.2.2.2))))))))
 (.fnW partM_S (y_2.2.1,(s.2.1,(s.2.2.1,((w64 ((wm s.2.2.1) - (w64 (y.1 - s.2.1)))),x.2.2.2.2)))) fun y_4 =>
 (.i11 ((w64 (y_4.1.1 - s.2.1)) < (w64 (s.2.2.1 - y_4.1.1)))
 (.fnW pdqR_S (y_4.2.1,(s.2.1,(y_4.1.1,(s.2.2.2.1,x.2.2.2.2)))) fun y_5 =>
 (.ret (.inl (y_5.2.1,((w1 y_4.1.1),(s.2.2.1,(s.2.2.2.1,((decide ((w64 (y_4.1.1 - s.2.1)) ≥ (w64 (Int.tdiv (w64 (s.2.2.1 - s.2.1)) (8:Int))))),y_4.1.2))))))))
 (.fnW pdqR_S (y_4.2.1,((w1 y_4.1.1),(s.2.2.1,(s.2.2.2.1,x.2.2.2.2)))) fun y_5 =>
 (.ret (.inl (y_5.2.1,(s.2.1,(y_4.1.1,(s.2.2.2.1,((decide ((w64 (s.2.2.1 - y_4.1.1)) ≥ (w64 (Int.tdiv (w64 (s.2.2.1 - s.2.1)) (8:Int))))),y_4.1.2))))))))))))))
 (.fnW partM_S (y_2.2.1,(s.2.1,(s.2.2.1,((w64 ((wm s.2.2.1) - (w64 (y.1 - s.2.1)))),x.2.2.2.2)))) fun y_3 =>
 (.i11 ((w64 (y_3.1.1 - s.2.1)) < (w64 (s.2.2.1 - y_3.1.1)))
 (.fnW pdqR_S (y_3.2.1,(s.2.1,(y_3.1.1,(s.2.2.2.1,x.2.2.2.2)))) fun y_4 =>
 (.ret (.inl (y_4.2.1,((w1 y_3.1.1),(s.2.2.1,(s.2.2.2.1,((decide ((w64 (y_3.1.1 - s.2.1)) ≥ (w64 (Int.tdiv (w64 (s.2.2.1 - s.2.1)) (8:Int))))),y_3.1.2))))))))
 (.fnW pdqR_S (y_3.2.1,((w1 y_3.1.1),(s.2.2.1,(s.2.2.2.1,x.2.2.2.2)))) fun y_4 =>
 (.ret (.inl (y_4.2.1,(s.2.1,(y_3.1.1,(s.2.2.2.1,((decide ((w64 (s.2.2.1 - y_3.1.1)) ≥ (w64 (Int.tdiv (w64 (s.2.2.1 - s.2.1)) (8:Int))))),y_3.1.2)))))))))))))
 (.i11 (s.2.1 > z0)
 (.oI2 (wm s.2.1) y_1.2.1
 (.oI2 (w64 ((wm s.2.2.1) - (w64 (y.1 - s.2.1)))) y_1.2.1
 (.fn byM_S (x.2.2.2.2,((gI y_1.2.1 (wm s.2.1)),(gI y_1.2.1 (w64 ((wm s.2.2.1) - (w64 (y.1 - s.2.1))))))) fun y_2 =>
 (.b11 (!(decide (y_2 < z0)))
 (.fnW partEM_S (y_1.2.1,(s.2.1,(s.2.2.1,((w64 ((wm s.2.2.1) - (w64 (y.1 - s.2.1)))),x.2.2.2.2)))) fun y_3 =>
 (.ret (.inl (y_3.2.1,(y_3.1,(s.2.2.1,(s.2.2.2.1,(s.2.2.2.2.1,s.2.2.2.2.2))))))))
 (.fnW partM_S (y_1.2.1,(s.2.1,(s.2.2.1,((w64 ((wm s.2.2.1) - (w64 (y.1 - s.2.1)))),x.2.2.2.2)))) fun y_3 =>
 (.i11 ((w64 (y_3.1.1 - s.2.1)) < (w64 (s.2.2.1 - y_3.1.1)))
 (.fnW pdqR_S (y_3.2.1,(s.2.1,(y_3.1.1,(s.2.2.2.1,x.2.2.2.2)))) fun y_4 =>
 (.ret (.inl (y_4.2.1,((w1 y_3.1.1),(s.2.2.1,(s.2.2.2.1,((decide ((w64 (y_3.1.1 - s.2.1)) ≥ (w64 (Int.tdiv (w64 (s.2.2.1 - s.2.1)) (8:Int))))),y_3.1.2))))))))
 (.fnW pdqR_S (y_3.2.1,((w1 y_3.1.1),(s.2.2.1,(s.2.2.2.1,x.2.2.2.2)))) fun y_4 =>
 (.ret (.inl (y_4.2.1,(s.2.1,(y_3.1.1,(s.2.2.2.1,((decide ((w64 (s.2.2.1 - y_3.1.1)) ≥ (w64 (Int.tdiv (w64 (s.2.2.1 - s.2.1)) (8:Int))))),y_3.1.2))))))))))))))
 (.fnW partM_S (y_1.2.1,(s.2.1,(s.2.2.1,((w64 ((wm s.2.2.1) - (w64 (y.1 - s.2.1)))),x.2.2.2.2)))) fun y_2 =>
 (.i11 ((w64 (y_2.1.1 - s.2.1)) < (w64 (s.2.2.1 - y_2.1.1)))
 (.fnW pdqR_S (y_2.2.1,(s.2.1,(y_2.1.1,(s.2.2.2.1,x.2.2.2.2)))) fun y_3 =>
 (.ret (.inl (y_3.2.1,((w1 y_2.1.1),(s.2.2.1,(s.2.2.2.1,((decide ((w64 (y_2.1.1 - s.2.1)) ≥ (w64 (Int.tdiv (w64 (s.2.2.1 - s.2.1)) (8:Int))))),y_2.1.2))))))))
 (.fnW pdqR_S (y_2.2.1,((w1 y_2.1.1),(s.2.2.1,(s.2.2.2.1,x.2.2.2.2)))) fun y_3 =>
 (.ret (.inl (y_3.2.1,(s.2.1,(y_2.1.1,(s.2.2.2.1,((decide ((w64 (s.2.2.1 - y_2.1.1)) ≥ (w64 (Int.tdiv (w64 (s.2.2.1 - s.2.1)) (8:Int))))),y_2.1.2))))))))))))
 (.i11 (s.2.1 > z0)
 (.oI2 (wm s.2.1) y_1.2.1
 (.oI2 (w64 ((wm s.2.2.1) - (w64 (y.1 - s.2.1)))) y_1.2.1
 (.fn byM_S (x.2.2.2.2,((gI y_1.2.1 (wm s.2.1)),(gI y_1.2.1 (w64 ((wm s.2.2.1) - (w64 (y.1 - s.2.1))))))) fun y_2 =>
 (.b11 (!(decide (y_2 < z0)))
 (.fnW partEM_S (y_1.2.1,(s.2.1,(s.2.2.1,((w64 ((wm s.2.2.1) - (w64 (y.1 - s.2.1)))),x.2.2.2.2)))) fun y_3 =>
 (.ret (.inl (y_3.2.1,(y_3.1,(s.2.2.1,(s.2.2.2.1,(s.2.2.2.2.1,s.2.2.2.2.2))))))))
 (.fnW partM_S (y_1.2.1,(s.2.1,(s.2.2.1,((w64 ((wm s.2.2.1) - (w64 (y.1 - s.2.1)))),x.2.2.2.2)))) fun y_3 =>
 (.i11 ((w64 (y_3.1.1 - s.2.1)) < (w64 (s.2.2.1 - y_3.1.1)))
 (.fnW pdqR_S (y_3.2.1,(s.2.1,(y_3.1.1,(s.2.2.2.1,x.2.2.2.2)))) fun y_4 =>
 (.ret (.inl (y_4.2.1,((w1 y_3.1.1),(s.2.2.1,(s.2.2.2.1,((decide ((w64 (y_3.1.1 - s.2.1)) ≥ (w64 (Int.tdiv (w64 (s.2.2.1 - s.2.1)) (8:Int))))),y_3.1.2))))))))
 (.fnW pdqR_S (y_3.2.1,((w1 y_3.1.1),(s.2.2.1,(s.2.2.2.1,x.2.2.2.2)))) fun y_4 =>
 (.ret (.inl (y_4.2.1,(s.2.1,(y_3.1.1,(s.2.2.2.1,((decide ((w64 (s.2.2.1 - y_3.1.1)) ≥ (w64 (Int.tdiv (w64 (s.2.2.1 - s.2.1)) (8:Int))))),y_3.1.2))))))))))))))
 (.fnW partM_S (y_1.2.1,(s.2.1,(s.2.2.1,((w64 ((wm s.2.2.1) - (w64 (y.1 - s.2.1)))),x.2.2.2.2)))) fun y_2 =>
 (.i11 ((w64 (y_2.1.1 - s.2.1)) < (w64 (s.2.2.1 - y_2.1.1)))
 (.fnW pdqR_S (y_2.2.1,(s.2.1,(y_2.1.1,(s.2.2.2.1,x.2.2.2.2)))) fun y_3 =>
 (.ret (.inl (y_3.2.1,((w1 y_2.1.1),(s.2.2.1,(s.2.2.2.1,((decide ((w64 (y_2.1.1 - s.2.1)) ≥ (w64 (Int.tdiv (w64 (s.2.2.1 - s.2.1)) (8:Int))))),y_2.1.2))))))))
 (.fnW pdqR_S (y_2.2.1,((w1 y_2.1.1),(s.2.2.1,(s.2.2.2.1,x.2.2.2.2)))) fun y_3 =>
 (.ret (.inl (y_3.2.1,(s.2.1,(y_2.1.1,(s.2.2.2.1,((decide ((w64 (s.2.2.1 - y_2.1.1)) ≥ (w64 (Int.tdiv (w64 (s.2.2.1 - s.2.1)) (8:Int))))),y_2.1.2)))))))))))))
 (.b11 s.2.2.2.2.1
 (.b11 s.2.2.2.2.2
 (.b11 (y.2 == z1)
 (.fnW pInsM_S (s.1,(s.2.1,(s.2.2.1,x.2.2.2.2))) fun y_1 =>
 (.b01 y_1.1
 (.ret (.inr (y_1.2.1)))
 (.i11 (s.2.1 > z0)
 (.oI2 (wm s.2.1) y_1.2.1
 (.oI2 y.1 y_1.2.1
 (.fn byM_S (x.2.2.2.2,((gI y_1.2.1 (wm s.2.1)),(gI y_1.2.1 y.1))) fun y_2 =>
 (.b11 (!(decide (y_2 < z0)))
 (.fnW partEM_S (y_1.2.1,(s.2.1,(s.2.2.1,(y.1,x.2.2.2.2)))) fun y_3 =>
 (.ret (.inl (y_3.2.1,(y_3.1,(s.2.2.1,(s.2.2.2.1,(s.2.2.2.2.1,s.2.2.2.2.2))))))))
 (.fnW partM_S (y_1.2.1,(s.2.1,(s.2.2.1,(y.1,x.2.2.2.2)))) fun y_3 =>
 (.i11 ((w64 (y_3.1.1 - s.2.1)) < (w64 (s.2.2.1 - y_3.1.1)))
 (.fnW pdqR_S (y_3.2.1,(s.2.1,(y_3.1.1,(s.2.2.2.1,x.2.2.2.2)))) fun y_4 =>
 (.ret (.inl (y_4.2.1,((w1 y_3.1.1),(s.2.2.1,(s.2.2.2.1,((decide ((w64 (y_3.1.1 - s.2.1)) ≥ (w64 (Int.tdiv (w64 (s.2.2.1 - s.2.1)) (8:Int))))),y_3.1.2))))))))
 (.fnW pdqR_S (y_3.2.1,((w1 y_3.1.1),(s.2.2.1,(s.2.2.2.1,x.2.2.2.2)))) fun y_4 =>
 (.ret (.inl (y_4.2.1,(s.2.1,(y_3.1.1,(s.2.2.2.1,((decide ((w64 (s.2.2.1 - y_3.1.1)) ≥ (w64 (Int.tdiv (w64 (s.2.2.1 - s.2.1)) (8:Int))))),y_3.1.2))))))))))))))
 (.fnW partM_S (y_1.2.1,(s.2.1,(s.2.2.1,(y.1,x.2.2.2.2)))) fun y_2 =>
 (.i11 ((w64 (y_2.1.1 - s.2.1)) < (w64 (s.2.2.1 - y_2.1.1)))
 (.fnW pdqR_S (y_2.2.1,(s.2.1,(y_2.1.1,(s.2.2.2.1,x.2.2.2.2)))) fun y_3 =>
 (.ret (.inl (y_3.2.1,((w1 y_2.1.1),(s.2.2.1,(s.2.2.2.1,((decide ((w64 (y_2.1.1 - s.2.1)) ≥ (w64 (Int.tdiv (w64 (s.2.2.1 - s.2.1)) (8:Int))))),y_2.1.2))))))))
 (.fnW pdqR_S (y_2.2.1,((w1 y_2.1.1),(s.2.2.1,(s.2.2.2.1,x.2.2.2.2)))) fun y_3 =>
 (.ret (.inl (y_3.2.1,(s.2.1,(y_2.1.1,(s.2.2.2.1,((decide ((w64 (s.2.2.1 - y_2.1.1)) ≥ (w64 (Int.tdiv (w64 (s.2.2.1 - s.2.1)) (8:Int))))),y_2.1.2)))))))))))))
 (.i11 (s.2.1 > z0)
 (.oI2 (wm s.2.1) s.1
 (.oI2 y.1 s.1
 (.fn byM_S (x.2.2.2.2,((gI s.1 (wm s.2.1)),(gI s.1 y.1))) fun y_1 =>
 (.b11 (!(decide (y_1 < z0)))
 (.fnW partEM_S (s.1,(s.2.1,(s.2.2.1,(y.1,x.2.2.2.2)))) fun y_2 =>
 (.ret (.inl (y_2.2.1,(y_2.1,(s.2.2.1,(s.2.2.2.1,(s.2.2.2.2.1,s.2.2.2.2.2))))))))
 (.fnW partM_S (s.1,(s.2.1,(s.2.2.1,(y.1,x.2.2.2.2)))) fun y_2 =>
 (.i11 ((w64 (y_2.1.1 - s.2.1)) < (w64 (s.2.2.1 - y_2.1.1)))
 (.fnW pdqR_S (y_2.2.1,(s.2.1,(y_2.1.1,(s.2.2.2.1,x.2.2.2.2)))) fun y_3 =>
 (.ret (.inl (y_3.2.1,((w1 y_2.1.1),(s.2.2.1,(s.2.2.2.1,((decide ((w64 (y_2.1.1 - s.2.1)) ≥ (w64 (Int.tdiv (w64 (s.2.2.1 - s.2.1)) (8:Int))))),y_2.1.2))))))))
 (.fnW pdqR_S (y_2.2.1,((w1 y_2.1.1),(s.2.2.1,(s.2.2.2.1,x.2.2.2.2)))) fun y_3 =>
 (.ret (.inl (y_3.2.1,(s.2.1,(y_2.1.1,(s.2.2.2.1,((decide ((w64 (s.2.2.1 - y_2.1.1)) ≥ (w64 (Int.tdiv (w64 (s.2.2.1 - s.2.1)) (8:Int))))),y_2.1.2))))))))))))))
 (.fnW partM_S (s.1,(s.2.1,(s.2.2.1,(y.1,x.2.2.2.2)))) fun y_1 =>
 (.i11 ((w64 (y_1.1.1 - s.2.1)) < (w64 (s.2.2.1 - y_1.1.1)))
 (.fnW pdqR_S (y_1.2.1,(s.2.1,(y_1.1.1,(s.2.2.2.1,x.2.2.2.2)))) fun y_2 =>
 (.ret (.inl (y_2.2.1,((w1 y_1.1.1),(s.2.2.1,(s.2.2.2.1,((decide ((w64 (y_1.1.1 - s.2.1)) ≥ (w64 (Int.tdiv (w64 (s.2.2.1 - s.2.1)) (8:Int))))),y_1.1.2))))))))
 (.fnW pdqR_S (y_1.2.1,((w1 y_1.1.1),(s.2.2.1,(s.2.2.2.1,x.2.2.2.2)))) fun y_2 =>
 (.ret (.inl (y_2.2.1,(s.2.1,(y_1.1.1,(s.2.2.2.1,((decide ((w64 (s.2.2.1 - y_1.1.1)) ≥ (w64 (Int.tdiv (w64 (s.2.2.1 - s.2.1)) (8:Int))))),y_1.1.2))))))))))))
 (.i11 (s.2.1 > z0)
 (.oI2 (wm s.2.1) s.1
 (.oI2 y.1 s.1
 (.fn byM_S (x.2.2.2.2,((gI s.1 (wm s.2.1)),(gI s.1 y.1))) fun y_1 =>
 (.b11 (!(decide (y_1 < z0)))
 (.fnW partEM_S (s.1,(s.2.1,(s.2.2.1,(y.1,x.2.2.2.2)))) fun y_2 =>
 (.ret (.inl (y_2.2.1,(y_2.1,(s.2.2.1,(s.2.2.2.1,(s.2.2.2.2.1,s.2.2.2.2.2))))))))
 (.fnW partM_S (s.1,(s.2.1,(s.2.2.1,(y.1,x.2.2.2.2)))) fun y_2 =>
 (.i11 ((w64 (y_2.1.1 - s.2.1)) < (w64 (s.2.2.1 - y_2.1.1)))
 (.fnW pdqR_S (y_2.2.1,(s.2.1,(y_2.1.1,(s.2.2.2.1,x.2.2.2.2)))) fun y_3 =>
 (.ret (.inl (y_3.2.1,((w1 y_2.1.1),(s.2.2.1,(s.2.2.2.1,((decide ((w64 (y_2.1.1 - s.2.1)) ≥ (w64 (Int.tdiv (w64 (s.2.2.1 - s.2.1)) (8:Int))))),y_2.1.2))))))))
 (.fnW pdqR_S (y_2.2.1,((w1 y_2.1.1),(s.2.2.1,(s.2.2.2.1,x.2.2.2.2)))) fun y_3 =>
 (.ret (.inl (y_3.2.1,(s.2.1,(y_2.1.1,(s.2.2.2.1,((decide ((w64 (s.2.2.1 - y_2.1.1)) ≥ (w64 (Int.tdiv (w64 (s.2.2.1 - s.2.1)) (8:Int))))),y_2.1.2))))))))))))))
 (.fnW partM_S (s.1,(s.2.1,(s.2.2.1,(y.1,x.2.2.2.2)))) fun y_1 =>
 (.i11 ((w64 (y_1.1.1 - s.2.1)) < (w64 (s.2.2.1 - y_1.1.1)))
 (.fnW pdqR_S (y_1.2.1,(s.2.1,(y_1.1.1,(s.2.2.2.1,x.2.2.2.2)))) fun y_2 =>
 (.ret (.inl (y_2.2.1,((w1 y_1.1.1),(s.2.2.1,(s.2.2.2.1,((decide ((w64 (y_1.1.1 - s.2.1)) ≥ (w64 (Int.tdiv (w64 (s.2.2.1 - s.2.1)) (8:Int))))),y_1.1.2))))))))
 (.fnW pdqR_S (y_1.2.1,((w1 y_1.1.1),(s.2.2.1,(s.2.2.2.1,x.2.2.2.2)))) fun y_2 =>
 (.ret (.inl (y_2.2.1,(s.2.1,(y_1.1.1,(s.2.2.2.1,((decide ((w64 (s.2.2.1 - y_1.1.1)) ≥ (w64 (Int.tdiv (w64 (s.2.2.1 - s.2.1)) (8:Int))))),y_1.1.2))))))))))))
 (.i11 (s.2.1 > z0)
 (.oI2 (wm s.2.1) s.1
 (.oI2 y.1 s.1
 (.fn byM_S (x.2.2.2.2,((gI s.1 (wm s.2.1)),(gI s.1 y.1))) fun y_1 =>
 (.b11 (!(decide (y_1 < z0)))
 (.fnW partEM_S (s.1,(s.2.1,(s.2.2.1,(y.1,x.2.2.2.2)))) fun y_2 =>
 (.ret (.inl (y_2.2.1,(y_2.1,(s.2.2.1,(s.2.2.2.1,(s.2.2.2.2.1,s.2.2.2.2.2))))))))
 (.fnW partM_S (s.1,(s.2.1,(s.2.2.1,(y.1,x.2.2.2.2)))) fun y_2 =>
 (.i11 ((w64 (y_2.1.1 - s.2.1)) < (w64 (s.2.2.1 - y_2.1.1)))
 (.fnW pdqR_S (y_2.2.1,(s.2.1,(y_2.1.1,(s.2.2.2.1,x.2.2.2.2)))) fun y_3 =>
 (.ret (.inl (y_3.2.1,((w1 y_2.1.1),(s.2.2.1,(s.2.2.2.1,((decide ((w64 (y_2.1.1 - s.2.1)) ≥ (w64 (Int.tdiv (w64 (s.2.2.1 - s.2.1)) (8:Int))))),y_2.1.2))))))))
 (.fnW pdqR_S (y_2.2.1,((w1 y_2.1.1),(s.2.2.1,(s.2.2.2.1,x.2.2.2.2)))) fun y_3 =>
 (.ret (.inl (y_3.2.1,(s.2.1,(y_2.1.1,(s.2.2.2.1,((decide ((w64 (s.2.2.1 - y_2.1.1)) ≥ (w64 (Int.tdiv (w64 (s.2.2.1 - s.2.1)) (8:Int))))),y_2.1.2))))))))))))))
 (.fnW partM_S (s.1,(s.2.1,(s.2.2.1,(y.1,x.2.2.2.2)))) fun y_1 =>
 (.i11 ((w64 (y_1.1.1 - s.2.1)) < (w64 (s.2.2.1 - y_1.1.1)))
 (.fnW pdqR_S (y_1.2.1,(s.2.1,(y_1.1.1,(s.2.2.2.1,x.2.2.2.2)))) fun y_2 =>
 (.ret (.inl (y_2.2.1,((w1 y_1.1.1),(s.2.2.1,(s.2.2.2.1,((decide ((w64 (y_1.1.1 - s.2.1)) ≥ (w64 (Int.tdiv (w64 (s.2.2.1 - s.2.1)) (8:Int))))),y_1.1.2))))))))
 (.fnW pdqR_S (y_1.2.1,((w1 y_1.1.1),(s.2.2.1,(s.2.2.2.1,x.2.2.2.2)))) fun y_2 =>
 (.ret (.inl (y_2.2.1,(s.2.1,(y_1.1.1,(s.2.2.2.1,((decide ((w64 (s.2.2.1 - y_1.1.1)) ≥ (w64 (Int.tdiv (w64 (s.2.2.1 - s.2.1)) (8:Int))))),y_1.1.2)))))))))))))))))
def pdqM (x : ((List Int) × (Int × (Int × (Int × ((List I9) × Int)))))) : (Bool × ((List Int) × (Bool × (Bool × (Bool × Bool))))) :=
 (letV (run (pdqM_l0_3_step x) (x.1,(x.2.1,(x.2.2.1,(x.2.2.2.1,(true,true)))))) fun r =>
 (false,(r,(false,(false,(false,false))))))
def pdqM_pre (x : ((List Int) × (Int × (Int × (Int × ((List I9) × Int)))))) : Prop :=
 (Term (pdqM_l0_3_step x) (pdqM_l0_3_pre x) (x.1,(x.2.1,(x.2.2.1,(x.2.2.2.1,(true,true))))) ∧
 letP (run (pdqM_l0_3_step x) (x.1,(x.2.1,(x.2.2.1,(x.2.2.2.1,(true,true)))))) fun r =>
 ((List.length r) = (List.length x.1)))
def pdqM_t (x : ((List Int) × (Int × (Int × (Int × ((List I9) × Int)))))) : Tr (Bool × ((List Int) × (Bool × (Bool × (Bool × Bool))))) true :=
 (LoopD.lp (pdqM_l0_3 x) (pdqM_l0_3_t x) (x.1,(x.2.1,(x.2.2.1,(x.2.2.2.1,(true,true))))) fun r =>
 (.pn 0 2
 (.og ((decide ((List.length r) = (List.length x.1))) && true) ((List.length r) = (List.length x.1)) (fun h => (and_t (decide_eq_true h) rfl))
 (.ret (false,(r,(false,(false,(false,false)))))))))
abbrev pdqM_S : FnW := ⟨(.pair (.row yi) (.pair (.val (.one yi)) (.pair (.val (.one yi)) (.pair (.val (.one yi)) (.val cmpP))))),.none,pdqM_pre,pdqM⟩
abbrev pdqM_H (x : ((List Int) × (Int × (Int × (Int × ((List I9) × Int)))))) (s : (pdqM_l0_3 x).S) : Prop := ∀ g Q,codeE ⟨tt,sp_pdqR,noX,[],[],[]⟩ (cI (blk 0 (bodyOf Try.f51))) ((pdqM_l0_3 x).inp.fill g s) ((pdqM_l0_3 x).kb g Q) = (pdqM_l0_3_t x s).wp ((pdqM_l0_3 x).post g Q) (ofTT (pdqM_l0_3 x).gt g)
theorem pdqM_hff (x : ((List Int) × (Int × (Int × (Int × ((List I9) × Int)))))) (l : List Int) (a b c:Int) : pdqM_H x (l,(a,(b,(c,(false,false))))) := fun g Q => by kernel_rfl
theorem pdqM_hft (x : ((List Int) × (Int × (Int × (Int × ((List I9) × Int)))))) (l : List Int) (a b c:Int) : pdqM_H x (l,(a,(b,(c,(false,true))))) := fun g Q => by kernel_rfl
theorem pdqM_htf (x : ((List Int) × (Int × (Int × (Int × ((List I9) × Int)))))) (l : List Int) (a b c:Int) : pdqM_H x (l,(a,(b,(c,(true,false))))) := fun g Q => by kernel_rfl
theorem pdqM_htt (x : ((List Int) × (Int × (Int × (Int × ((List I9) × Int)))))) (l : List Int) (a b c:Int) : pdqM_H x (l,(a,(b,(c,(true,true))))) := fun g Q => by kernel_rfl
theorem pdqM_h (x : ((List Int) × (Int × (Int × (Int × ((List I9) × Int)))))) : ∀ s,pdqM_H x s
 | (l,(a,(b,(c,(false,false))))) => pdqM_hff x l a b c
 | (l,(a,(b,(c,(false,true))))) => pdqM_hft x l a b c
 | (l,(a,(b,(c,(true,false))))) => pdqM_htf x l a b c
 | (l,(a,(b,(c,(true,true))))) => pdqM_htt x l a b c
theorem pdqM_ok : SpecOk Try.prog 51 (fnSpecW pdqM_S) := SpecOk.trW pdqM_S pdqM_t (fn := Try.f51) tt_ok sp_pdqR_ok mixed (by kernel_rfl) (ItsOk.nil _ _) (fun x => (LpsOk.tr tt_ok (SpecsOk.ctxI sp_pdqR_ok (ItsOk.nil _ _)) mixed 0 (pdqM_l0_3 x) (pdqM_l0_3_t x) LpsOk.nil (by kernel_rfl) fun g s Q => pdqM_h x s g Q)) (fun x => (by kernel_rfl)) fun x r0 Q => (by kernel_rfl)
end
end Go.Proofs.Ytaipcbdilkcdbaa
