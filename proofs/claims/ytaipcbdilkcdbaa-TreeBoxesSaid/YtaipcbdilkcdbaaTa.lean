/- Models of slices' functions that sort. -/
import Derived.Test.YtaipcbdilkcdbaaCm
noncomputable section
set_option linter.unusedSectionVars false
set_option linter.unusedVariables false
set_option linter.unusedSimpArgs false
namespace Go.Proofs.Ytaipcbdilkcdbaa
open Go Go.Ev Go.Proofs
def revM_l0_3 (x : ((List Int) × (Int × (Int × ((List I9) × Int))))) : LoopD := ⟨[.env],⟨pvs 34 0 [(0,.v (.one (.full 0))),(8,.v (.one (.i .i64))),(9,.v (.one (.i .i64)))],[.row yi 1,.row yy9 0,.pin 2],3,none,[4],[3],[2,0,1],[(.l yi),.i,.i],[.l yy9 x.2.2.2.1]⟩,[⟨(.exit 0),.normal,⟨pvs 34 0 [],[.row yi 1,.row yy9 0,.pin 2],3,none,[2],[1],[0],[(.l yi)],[.l yy9 x.2.2.2.1]⟩⟩]⟩
def revM_l0_3_step (x : ((List Int) × (Int × (Int × ((List I9) × Int))))) (s : ((List Int) × I2)) : ((List Int) × I2) ⊕ (List Int) :=
 (if (s.2.1 < s.2.2) then
 (letV (List.set s.1 (Int.toNat s.2.1) (List.getD s.1 (Int.toNat s.2.2) (0:Int))) fun y =>
 (letV (List.set y (Int.toNat s.2.2) (List.getD s.1 (Int.toNat s.2.1) (0:Int))) fun y_1 =>
 (Sum.inl (y_1,((w64 (s.2.1 + (1:Int))),(w64 (s.2.2 - (1:Int)))))))) else
 (Sum.inr (s.1)))
def revM_l0_3_pre (x : ((List Int) × (Int × (Int × ((List I9) × Int))))) (s : ((List Int) × I2)) : Prop :=
 ((s.2.1 < s.2.2) →
 ((((0:Int) ≤ s.2.2) ∧ (s.2.2 < (s.1.length:Int))) ∧
 (((Int.toNat s.2.2) < (List.length s.1)) ∧
 (((Int.toNat s.2.2) < (List.length s.1)) ∧
 ((((0:Int) ≤ s.2.1) ∧ (s.2.1 < (s.1.length:Int))) ∧
 (((Int.toNat s.2.1) < (List.length s.1)) ∧
 (((Int.toNat s.2.1) < (List.length s.1)) ∧
 ((((0:Int) ≤ s.2.1) ∧ (s.2.1 < (s.1.length:Int))) ∧
 (((Int.toNat s.2.1) < (List.length s.1)) ∧
 (((Int.toNat s.2.1) < (List.length s.1)) ∧
 (letP (List.set s.1 (Int.toNat s.2.1) (List.getD s.1 (Int.toNat s.2.2) (0:Int))) fun y =>
 ((((0:Int) ≤ s.2.2) ∧ (s.2.2 < (y.length:Int))) ∧
 (((Int.toNat s.2.2) < (List.length y)) ∧
 ((Int.toNat s.2.2) < (List.length y)))))))))))))))
def revM_l0_3_t (x : ((List Int) × (Int × (Int × ((List I9) × Int))))) (s : ((List Int) × I2)) : Tr (((List Int) × I2) ⊕ (List Int)) true :=
 (.i10 (s.2.1 < s.2.2)
 (.oI2 s.2.2 s.1
 (.oI2 s.2.1 s.1
 (.oI2 s.2.1 s.1
 (.lt (List.set s.1 (tN s.2.1) (gI s.1 s.2.2)) fun y =>
 (.oI2 s.2.2 y
 (.lt (List.set y (tN s.2.2) (gI s.1 s.2.1)) fun y_1 =>
 (.ret (.inl (y_1,((w1 s.2.1),(wm s.2.2)))))))))))
 (.ret (.inr (s.1))))
def revM (x : ((List Int) × (Int × (Int × ((List I9) × Int))))) : (Bool × ((List Int) × (Bool × (Bool × Bool)))) :=
 (letV (run (revM_l0_3_step x) (x.1,(x.2.1,(w64 (x.2.2.1 - (1:Int)))))) fun r =>
 (false,(r,(false,(false,false)))))
def revM_pre (x : ((List Int) × (Int × (Int × ((List I9) × Int))))) : Prop :=
 (Term (revM_l0_3_step x) (revM_l0_3_pre x) (x.1,(x.2.1,(w64 (x.2.2.1 - (1:Int))))) ∧
 letP (run (revM_l0_3_step x) (x.1,(x.2.1,(w64 (x.2.2.1 - (1:Int)))))) fun r =>
 ((List.length r) = (List.length x.1)))
def revM_t (x : ((List Int) × (Int × (Int × ((List I9) × Int))))) : Tr (Bool × ((List Int) × (Bool × (Bool × Bool)))) true :=
 (LoopD.lp (revM_l0_3 x) (revM_l0_3_t x) (x.1,(x.2.1,(wm x.2.2.1))) fun r =>
 (.pn 0 2
 (.og ((decide ((List.length r) = (List.length x.1))) && true) ((List.length r) = (List.length x.1)) (fun h => (and_t (decide_eq_true h) rfl))
 (.ret (false,(r,(false,(false,false))))))))
abbrev revM_S : FnW := ⟨(.pair (.row yi) (.pair (.val (.one yi)) (.pair (.val (.one yi)) (.val cmpP)))),.none,revM_pre,revM⟩
theorem revM_ok : SpecOk Try.prog 60 (fnSpecW revM_S) := SpecOk.trW revM_S revM_t (fn := Try.f60) tt_ok sp_byM_ok mixed (by kernel_rfl) (ItsOk.nil _ _) (fun x => (LpsOk.tr tt_ok (SpecsOk.ctxI sp_byM_ok (ItsOk.nil _ _)) mixed 0 (revM_l0_3 x) (revM_l0_3_t x) LpsOk.nil (by kernel_rfl) fun g s Q => (by kernel_rfl))) (fun x => (by kernel_rfl)) fun x r0 Q => (by kernel_rfl)
def sp_revM : List (Nat × Ev.Spec) := (60,fnSpecW revM_S) :: sp_byM
theorem sp_revM_ok : SpecsOk Try.prog sp_revM := SpecsOk.add (fn := Try.f60) (by kernel_rfl) revM_ok sp_byM_ok
def insM_l2_3 (x : ((List Int) × (Int × (Int × ((List I9) × Int))))) : LoopD := ⟨[.env],⟨pvs 53 0 [(0,.v (.one (.full 0))),(1,.v (.one (.i .i64))),(2,.v (.one (.i .i64))),(3,.v (.one (.mv 37 true [.full 1,.ext]))),(8,.v (.one (.i .i64))),(9,.v (.one (.i .i64)))],[.row yi 1,.row yy9 0,.pin 2],3,none,[7],[0,1,2,6],[5,3,4],[(.l yi),.i,.i],[.i x.2.1,.i x.2.2.1,.v (.int .i64 x.2.2.2.2),.l yy9 x.2.2.2.1]⟩,[⟨(.exit 2),.normal,⟨pvs 53 0 [(0,.v (.one (.full 0))),(1,.v (.one (.i .i64))),(2,.v (.one (.i .i64))),(3,.v (.one (.mv 37 true [.full 1,.ext]))),(8,.v (.one (.i .i64)))],[.row yi 1,.row yy9 0,.pin 2],3,none,[6],[0,1,2,5],[4,3],[(.l yi),.i],[.i x.2.1,.i x.2.2.1,.v (.int .i64 x.2.2.2.2),.l yy9 x.2.2.2.1]⟩⟩]⟩
def insM_l2_3_step (x : ((List Int) × (Int × (Int × ((List I9) × Int))))) (s : ((List Int) × I2)) : ((List Int) × I2) ⊕ ((List Int) × Int) :=
 (if (s.2.2 > x.2.1) then
 (letV (byM (x.2.2.2,((List.getD s.1 (Int.toNat s.2.2) (0:Int)),(List.getD s.1 (Int.toNat (w64 (s.2.2 - (1:Int)))) (0:Int))))) fun y =>
 (if (y < (0:Int)) then
 (letV (List.set s.1 (Int.toNat s.2.2) (List.getD s.1 (Int.toNat (w64 (s.2.2 - (1:Int)))) (0:Int))) fun y_1 =>
 (letV (List.set y_1 (Int.toNat (w64 (s.2.2 - (1:Int)))) (List.getD s.1 (Int.toNat s.2.2) (0:Int))) fun y_2 =>
 (Sum.inl (y_2,(s.2.1,(w64 (s.2.2 - (1:Int)))))))) else
 (Sum.inr ((s.1,s.2.1))))) else
 (Sum.inr ((s.1,s.2.1))))
def insM_l2_3_pre (x : ((List Int) × (Int × (Int × ((List I9) × Int))))) (s : ((List Int) × I2)) : Prop :=
 ((s.2.2 > x.2.1) →
 ((((0:Int) ≤ s.2.2) ∧ (s.2.2 < (s.1.length:Int))) ∧
 (((Int.toNat s.2.2) < (List.length s.1)) ∧
 (((Int.toNat s.2.2) < (List.length s.1)) ∧
 ((((0:Int) ≤ (w64 (s.2.2 - (1:Int)))) ∧ ((w64 (s.2.2 - (1:Int))) < (s.1.length:Int))) ∧
 (((Int.toNat (w64 (s.2.2 - (1:Int)))) < (List.length s.1)) ∧
 (((Int.toNat (w64 (s.2.2 - (1:Int)))) < (List.length s.1)) ∧
 ((byM_pre (x.2.2.2,((List.getD s.1 (Int.toNat s.2.2) (0:Int)),(List.getD s.1 (Int.toNat (w64 (s.2.2 - (1:Int)))) (0:Int))))) ∧
 letP (byM (x.2.2.2,((List.getD s.1 (Int.toNat s.2.2) (0:Int)),(List.getD s.1 (Int.toNat (w64 (s.2.2 - (1:Int)))) (0:Int))))) fun y =>
 ((y < (0:Int)) →
 ((((0:Int) ≤ (w64 (s.2.2 - (1:Int)))) ∧ ((w64 (s.2.2 - (1:Int))) < (s.1.length:Int))) ∧
 (((Int.toNat (w64 (s.2.2 - (1:Int)))) < (List.length s.1)) ∧
 (((Int.toNat (w64 (s.2.2 - (1:Int)))) < (List.length s.1)) ∧
 ((((0:Int) ≤ s.2.2) ∧ (s.2.2 < (s.1.length:Int))) ∧
 (((Int.toNat s.2.2) < (List.length s.1)) ∧
 (((Int.toNat s.2.2) < (List.length s.1)) ∧
 ((((0:Int) ≤ s.2.2) ∧ (s.2.2 < (s.1.length:Int))) ∧
 (((Int.toNat s.2.2) < (List.length s.1)) ∧
 (((Int.toNat s.2.2) < (List.length s.1)) ∧
 (letP (List.set s.1 (Int.toNat s.2.2) (List.getD s.1 (Int.toNat (w64 (s.2.2 - (1:Int)))) (0:Int))) fun y_1 =>
 ((((0:Int) ≤ (w64 (s.2.2 - (1:Int)))) ∧ ((w64 (s.2.2 - (1:Int))) < (y_1.length:Int))) ∧
 (((Int.toNat (w64 (s.2.2 - (1:Int)))) < (List.length y_1)) ∧
 ((Int.toNat (w64 (s.2.2 - (1:Int)))) < (List.length y_1)))))))))))))))))))))))
def insM_l2_3_t (x : ((List Int) × (Int × (Int × ((List I9) × Int))))) (s : ((List Int) × I2)) : Tr (((List Int) × I2) ⊕ ((List Int) × Int)) true :=
 (.i10 (s.2.2 > x.2.1)
 (.oI2 s.2.2 s.1
 (.oI2 (wm s.2.2) s.1
 (.fn byM_S (x.2.2.2,((gI s.1 s.2.2),(gI s.1 (wm s.2.2)))) fun y =>
 (.i10 (y < z0)
 (.oI2 (wm s.2.2) s.1
 (.oI2 s.2.2 s.1
 (.oI2 s.2.2 s.1
 (.lt (List.set s.1 (tN s.2.2) (gI s.1 (wm s.2.2))) fun y_1 =>
 (.oI2 (wm s.2.2) y_1
 (.lt (List.set y_1 (tN (wm s.2.2)) (gI s.1 s.2.2)) fun y_2 =>
 (.ret (.inl (y_2,(s.2.1,(wm s.2.2)))))))))))
 (.ret (.inr ((s.1,s.2.1))))))))
 (.ret (.inr ((s.1,s.2.1)))))
def insM_l0_3 (x : ((List Int) × (Int × (Int × ((List I9) × Int))))) : LoopD := ⟨[.env],⟨pvs 53 0 [(0,.v (.one (.full 0))),(1,.v (.one (.i .i64))),(2,.v (.one (.i .i64))),(3,.v (.one (.mv 37 true [.full 1,.ext]))),(8,.v (.one (.i .i64)))],[.row yi 1,.row yy9 0,.pin 2],3,none,[6],[0,1,2,5],[4,3],[(.l yi),.i],[.i x.2.1,.i x.2.2.1,.v (.int .i64 x.2.2.2.2),.l yy9 x.2.2.2.1]⟩,[⟨(.exit 0),.normal,⟨pvs 53 0 [],[.row yi 1,.row yy9 0,.pin 2],3,none,[2],[1],[0],[(.l yi)],[.l yy9 x.2.2.2.1]⟩⟩]⟩
def insM_l0_3_step (x : ((List Int) × (Int × (Int × ((List I9) × Int))))) (s : ((List Int) × Int)) : ((List Int) × Int) ⊕ (List Int) :=
 (if (s.2 < x.2.2.1) then
 (letV (run (insM_l2_3_step x) (s.1,(s.2,s.2))) fun r =>
 (Sum.inl (r.1,(w64 (r.2 + (1:Int)))))) else
 (Sum.inr (s.1)))
def insM_l0_3_pre (x : ((List Int) × (Int × (Int × ((List I9) × Int))))) (s : ((List Int) × Int)) : Prop :=
 ((s.2 < x.2.2.1) →
 (Term (insM_l2_3_step x) (insM_l2_3_pre x) (s.1,(s.2,s.2))))
def insM_l0_3_t (x : ((List Int) × (Int × (Int × ((List I9) × Int))))) (s : ((List Int) × Int)) : Tr (((List Int) × Int) ⊕ (List Int)) true :=
 (.i10 (s.2 < x.2.2.1)
 (LoopD.lp (insM_l2_3 x) (insM_l2_3_t x) (s.1,(s.2,s.2)) fun r =>
 (.ret (.inl (r.1,(w1 r.2)))))
 (.ret (.inr (s.1))))
def insM (x : ((List Int) × (Int × (Int × ((List I9) × Int))))) : (Bool × ((List Int) × (Bool × (Bool × Bool)))) :=
 (letV (run (insM_l0_3_step x) (x.1,(w64 (x.2.1 + (1:Int))))) fun r =>
 (false,(r,(false,(false,false)))))
def insM_pre (x : ((List Int) × (Int × (Int × ((List I9) × Int))))) : Prop :=
 (Term (insM_l0_3_step x) (insM_l0_3_pre x) (x.1,(w64 (x.2.1 + (1:Int)))) ∧
 letP (run (insM_l0_3_step x) (x.1,(w64 (x.2.1 + (1:Int))))) fun r =>
 ((List.length r) = (List.length x.1)))
def insM_t (x : ((List Int) × (Int × (Int × ((List I9) × Int))))) : Tr (Bool × ((List Int) × (Bool × (Bool × Bool)))) true :=
 (LoopD.lp (insM_l0_3 x) (insM_l0_3_t x) (x.1,(w1 x.2.1)) fun r =>
 (.pn 0 2
 (.og ((decide ((List.length r) = (List.length x.1))) && true) ((List.length r) = (List.length x.1)) (fun h => (and_t (decide_eq_true h) rfl))
 (.ret (false,(r,(false,(false,false))))))))
abbrev insM_S : FnW := ⟨(.pair (.row yi) (.pair (.val (.one yi)) (.pair (.val (.one yi)) (.val cmpP)))),.none,insM_pre,insM⟩
theorem insM_ok : SpecOk Try.prog 56 (fnSpecW insM_S) := SpecOk.trW insM_S insM_t (fn := Try.f56) tt_ok sp_revM_ok mixed (by kernel_rfl) (ItsOk.nil _ _) (fun x => (LpsOk.tr tt_ok (SpecsOk.ctxI sp_revM_ok (ItsOk.nil _ _)) mixed 0 (insM_l0_3 x) (insM_l0_3_t x) (LpsOk.tr tt_ok (SpecsOk.ctxI sp_revM_ok (ItsOk.nil _ _)) mixed 2 (insM_l2_3 x) (insM_l2_3_t x) LpsOk.nil (by kernel_rfl) fun g s Q => (by kernel_rfl)) (by kernel_rfl) fun g s Q => (by kernel_rfl))) (fun x => (by kernel_rfl)) fun x r0 Q => (by kernel_rfl)
def sp_insM : List (Nat × Ev.Spec) := (56,fnSpecW insM_S) :: sp_revM
theorem sp_insM_ok : SpecsOk Try.prog sp_insM := SpecsOk.add (fn := Try.f56) (by kernel_rfl) insM_ok sp_revM_ok
def siftM_l0_3 (x : ((List Int) × (Int × (Int × (Int × ((List I9) × Int)))))) : LoopD := ⟨[.env],⟨pvs 82 0 [(0,.v (.one (.full 0))),(2,.v (.one (.i .i64))),(3,.v (.one (.i .i64))),(4,.v (.one (.mv 37 true [.full 1,.ext]))),(10,.v (.one (.i .i64)))],[.row yi 1,.row yy9 0,.pin 2],3,none,[6],[0,1,2,5],[4,3],[(.l yi),.i],[.i x.2.2.1,.i x.2.2.2.1,.v (.int .i64 x.2.2.2.2.2),.l yy9 x.2.2.2.2.1]⟩,[⟨(.exit 0),.normal,⟨pvs 82 0 [],[.row yi 1,.row yy9 0,.pin 2],3,none,[2],[1],[0],[(.l yi)],[.l yy9 x.2.2.2.2.1]⟩⟩,⟨.ret,.ret,⟨pvs 82 0 [],[.row yi 1,.row yy9 0,.pin 2],3,none,[2],[1],[0],[(.l yi)],[.l yy9 x.2.2.2.2.1]⟩⟩]⟩
def siftM_l0_3_step (x : ((List Int) × (Int × (Int × (Int × ((List I9) × Int)))))) (s : ((List Int) × Int)) : ((List Int) × Int) ⊕ ((List Int) ⊕ (List Int)) :=
 (if ((w64 ((w64 ((2:Int) * s.2)) + (1:Int))) ≥ x.2.2.1) then
 (Sum.inr (Sum.inl s.1)) else
 (if ((w64 ((w64 ((w64 ((2:Int) * s.2)) + (1:Int))) + (1:Int))) < x.2.2.1) then
 (letV (byM (x.2.2.2.2,((List.getD s.1 (Int.toNat (w64 (x.2.2.2.1 + (w64 ((w64 ((2:Int) * s.2)) + (1:Int)))))) (0:Int)),(List.getD s.1 (Int.toNat (w64 ((w64 (x.2.2.2.1 + (w64 ((w64 ((2:Int) * s.2)) + (1:Int))))) + (1:Int)))) (0:Int))))) fun y =>
 (if (y < (0:Int)) then
 (letV (byM (x.2.2.2.2,((List.getD s.1 (Int.toNat (w64 (x.2.2.2.1 + s.2))) (0:Int)),(List.getD s.1 (Int.toNat (w64 (x.2.2.2.1 + (w64 ((w64 ((w64 ((2:Int) * s.2)) + (1:Int))) + (1:Int)))))) (0:Int))))) fun y_1 =>
 (if ((!(decide (y_1 < (0:Int)))) = true) then
 (Sum.inr (Sum.inr (s.1))) else
 (letV (List.set s.1 (Int.toNat (w64 (x.2.2.2.1 + s.2))) (List.getD s.1 (Int.toNat (w64 (x.2.2.2.1 + (w64 ((w64 ((w64 ((2:Int) * s.2)) + (1:Int))) + (1:Int)))))) (0:Int))) fun y_2 =>
 (letV (List.set y_2 (Int.toNat (w64 (x.2.2.2.1 + (w64 ((w64 ((w64 ((2:Int) * s.2)) + (1:Int))) + (1:Int)))))) (List.getD s.1 (Int.toNat (w64 (x.2.2.2.1 + s.2))) (0:Int))) fun y_3 =>
 (Sum.inl (y_3,(w64 ((w64 ((w64 ((2:Int) * s.2)) + (1:Int))) + (1:Int))))))))) else
 (letV (byM (x.2.2.2.2,((List.getD s.1 (Int.toNat (w64 (x.2.2.2.1 + s.2))) (0:Int)),(List.getD s.1 (Int.toNat (w64 (x.2.2.2.1 + (w64 ((w64 ((2:Int) * s.2)) + (1:Int)))))) (0:Int))))) fun y_1 =>
 (if ((!(decide (y_1 < (0:Int)))) = true) then
 (Sum.inr (Sum.inr (s.1))) else
 (letV (List.set s.1 (Int.toNat (w64 (x.2.2.2.1 + s.2))) (List.getD s.1 (Int.toNat (w64 (x.2.2.2.1 + (w64 ((w64 ((2:Int) * s.2)) + (1:Int)))))) (0:Int))) fun y_2 =>
 (letV (List.set y_2 (Int.toNat (w64 (x.2.2.2.1 + (w64 ((w64 ((2:Int) * s.2)) + (1:Int)))))) (List.getD s.1 (Int.toNat (w64 (x.2.2.2.1 + s.2))) (0:Int))) fun y_3 =>
 (Sum.inl (y_3,(w64 ((w64 ((2:Int) * s.2)) + (1:Int))))))))))) else
 (letV (byM (x.2.2.2.2,((List.getD s.1 (Int.toNat (w64 (x.2.2.2.1 + s.2))) (0:Int)),(List.getD s.1 (Int.toNat (w64 (x.2.2.2.1 + (w64 ((w64 ((2:Int) * s.2)) + (1:Int)))))) (0:Int))))) fun y =>
 (if ((!(decide (y < (0:Int)))) = true) then
 (Sum.inr (Sum.inr (s.1))) else
 (letV (List.set s.1 (Int.toNat (w64 (x.2.2.2.1 + s.2))) (List.getD s.1 (Int.toNat (w64 (x.2.2.2.1 + (w64 ((w64 ((2:Int) * s.2)) + (1:Int)))))) (0:Int))) fun y_1 =>
 (letV (List.set y_1 (Int.toNat (w64 (x.2.2.2.1 + (w64 ((w64 ((2:Int) * s.2)) + (1:Int)))))) (List.getD s.1 (Int.toNat (w64 (x.2.2.2.1 + s.2))) (0:Int))) fun y_2 =>
 (Sum.inl (y_2,(w64 ((w64 ((2:Int) * s.2)) + (1:Int)))))))))))
def siftM_l0_3_pre (x : ((List Int) × (Int × (Int × (Int × ((List I9) × Int)))))) (s : ((List Int) × Int)) : Prop :=
 (¬ ((w64 ((w64 ((2:Int) * s.2)) + (1:Int))) ≥ x.2.2.1) →
 ((((w64 ((w64 ((w64 ((2:Int) * s.2)) + (1:Int))) + (1:Int))) < x.2.2.1) →
 ((((0:Int) ≤ (w64 (x.2.2.2.1 + (w64 ((w64 ((2:Int) * s.2)) + (1:Int)))))) ∧ ((w64 (x.2.2.2.1 + (w64 ((w64 ((2:Int) * s.2)) + (1:Int))))) < (s.1.length:Int))) ∧
 (((Int.toNat (w64 (x.2.2.2.1 + (w64 ((w64 ((2:Int) * s.2)) + (1:Int)))))) < (List.length s.1)) ∧
 (((Int.toNat (w64 (x.2.2.2.1 + (w64 ((w64 ((2:Int) * s.2)) + (1:Int)))))) < (List.length s.1)) ∧
 ((((0:Int) ≤ (w64 ((w64 (x.2.2.2.1 + (w64 ((w64 ((2:Int) * s.2)) + (1:Int))))) + (1:Int)))) ∧ ((w64 ((w64 (x.2.2.2.1 + (w64 ((w64 ((2:Int) * s.2)) + (1:Int))))) + (1:Int))) < (s.1.length:Int))) ∧
 (((Int.toNat (w64 ((w64 (x.2.2.2.1 + (w64 ((w64 ((2:Int) * s.2)) + (1:Int))))) + (1:Int)))) < (List.length s.1)) ∧
 (((Int.toNat (w64 ((w64 (x.2.2.2.1 + (w64 ((w64 ((2:Int) * s.2)) + (1:Int))))) + (1:Int)))) < (List.length s.1)) ∧
 ((byM_pre (x.2.2.2.2,((List.getD s.1 (Int.toNat (w64 (x.2.2.2.1 + (w64 ((w64 ((2:Int) * s.2)) + (1:Int)))))) (0:Int)),(List.getD s.1 (Int.toNat (w64 ((w64 (x.2.2.2.1 + (w64 ((w64 ((2:Int) * s.2)) + (1:Int))))) + (1:Int)))) (0:Int))))) ∧
 letP (byM (x.2.2.2.2,((List.getD s.1 (Int.toNat (w64 (x.2.2.2.1 + (w64 ((w64 ((2:Int) * s.2)) + (1:Int)))))) (0:Int)),(List.getD s.1 (Int.toNat (w64 ((w64 (x.2.2.2.1 + (w64 ((w64 ((2:Int) * s.2)) + (1:Int))))) + (1:Int)))) (0:Int))))) fun y =>
 (((y < (0:Int)) →
 ((((0:Int) ≤ (w64 (x.2.2.2.1 + s.2))) ∧ ((w64 (x.2.2.2.1 + s.2)) < (s.1.length:Int))) ∧
 (((Int.toNat (w64 (x.2.2.2.1 + s.2))) < (List.length s.1)) ∧
 (((Int.toNat (w64 (x.2.2.2.1 + s.2))) < (List.length s.1)) ∧
 ((((0:Int) ≤ (w64 (x.2.2.2.1 + (w64 ((w64 ((w64 ((2:Int) * s.2)) + (1:Int))) + (1:Int)))))) ∧ ((w64 (x.2.2.2.1 + (w64 ((w64 ((w64 ((2:Int) * s.2)) + (1:Int))) + (1:Int))))) < (s.1.length:Int))) ∧
 (((Int.toNat (w64 (x.2.2.2.1 + (w64 ((w64 ((w64 ((2:Int) * s.2)) + (1:Int))) + (1:Int)))))) < (List.length s.1)) ∧
 (((Int.toNat (w64 (x.2.2.2.1 + (w64 ((w64 ((w64 ((2:Int) * s.2)) + (1:Int))) + (1:Int)))))) < (List.length s.1)) ∧
 ((byM_pre (x.2.2.2.2,((List.getD s.1 (Int.toNat (w64 (x.2.2.2.1 + s.2))) (0:Int)),(List.getD s.1 (Int.toNat (w64 (x.2.2.2.1 + (w64 ((w64 ((w64 ((2:Int) * s.2)) + (1:Int))) + (1:Int)))))) (0:Int))))) ∧
 letP (byM (x.2.2.2.2,((List.getD s.1 (Int.toNat (w64 (x.2.2.2.1 + s.2))) (0:Int)),(List.getD s.1 (Int.toNat (w64 (x.2.2.2.1 + (w64 ((w64 ((w64 ((2:Int) * s.2)) + (1:Int))) + (1:Int)))))) (0:Int))))) fun y_1 =>
 (¬ ((!(decide (y_1 < (0:Int)))) = true) →
 ((((0:Int) ≤ (w64 (x.2.2.2.1 + (w64 ((w64 ((w64 ((2:Int) * s.2)) + (1:Int))) + (1:Int)))))) ∧ ((w64 (x.2.2.2.1 + (w64 ((w64 ((w64 ((2:Int) * s.2)) + (1:Int))) + (1:Int))))) < (s.1.length:Int))) ∧
 (((Int.toNat (w64 (x.2.2.2.1 + (w64 ((w64 ((w64 ((2:Int) * s.2)) + (1:Int))) + (1:Int)))))) < (List.length s.1)) ∧
 (((Int.toNat (w64 (x.2.2.2.1 + (w64 ((w64 ((w64 ((2:Int) * s.2)) + (1:Int))) + (1:Int)))))) < (List.length s.1)) ∧
 ((((0:Int) ≤ (w64 (x.2.2.2.1 + s.2))) ∧ ((w64 (x.2.2.2.1 + s.2)) < (s.1.length:Int))) ∧
 (((Int.toNat (w64 (x.2.2.2.1 + s.2))) < (List.length s.1)) ∧
 (((Int.toNat (w64 (x.2.2.2.1 + s.2))) < (List.length s.1)) ∧
 ((((0:Int) ≤ (w64 (x.2.2.2.1 + s.2))) ∧ ((w64 (x.2.2.2.1 + s.2)) < (s.1.length:Int))) ∧
 (((Int.toNat (w64 (x.2.2.2.1 + s.2))) < (List.length s.1)) ∧
 (((Int.toNat (w64 (x.2.2.2.1 + s.2))) < (List.length s.1)) ∧
 (letP (List.set s.1 (Int.toNat (w64 (x.2.2.2.1 + s.2))) (List.getD s.1 (Int.toNat (w64 (x.2.2.2.1 + (w64 ((w64 ((w64 ((2:Int) * s.2)) + (1:Int))) + (1:Int)))))) (0:Int))) fun y_2 =>
 ((((0:Int) ≤ (w64 (x.2.2.2.1 + (w64 ((w64 ((w64 ((2:Int) * s.2)) + (1:Int))) + (1:Int)))))) ∧ ((w64 (x.2.2.2.1 + (w64 ((w64 ((w64 ((2:Int) * s.2)) + (1:Int))) + (1:Int))))) < (y_2.length:Int))) ∧
 (((Int.toNat (w64 (x.2.2.2.1 + (w64 ((w64 ((w64 ((2:Int) * s.2)) + (1:Int))) + (1:Int)))))) < (List.length y_2)) ∧
 ((Int.toNat (w64 (x.2.2.2.1 + (w64 ((w64 ((w64 ((2:Int) * s.2)) + (1:Int))) + (1:Int)))))) < (List.length y_2))))))))))))))))))))))) ∧
 (¬ (y < (0:Int)) →
 ((((0:Int) ≤ (w64 (x.2.2.2.1 + s.2))) ∧ ((w64 (x.2.2.2.1 + s.2)) < (s.1.length:Int))) ∧
 (((Int.toNat (w64 (x.2.2.2.1 + s.2))) < (List.length s.1)) ∧
 (((Int.toNat (w64 (x.2.2.2.1 + s.2))) < (List.length s.1)) ∧
 ((((0:Int) ≤ (w64 (x.2.2.2.1 + (w64 ((w64 ((2:Int) * s.2)) + (1:Int)))))) ∧ ((w64 (x.2.2.2.1 + (w64 ((w64 ((2:Int) * s.2)) + (1:Int))))) < (s.1.length:Int))) ∧
 (((Int.toNat (w64 (x.2.2.2.1 + (w64 ((w64 ((2:Int) * s.2)) + (1:Int)))))) < (List.length s.1)) ∧
 (((Int.toNat (w64 (x.2.2.2.1 + (w64 ((w64 ((2:Int) * s.2)) + (1:Int)))))) < (List.length s.1)) ∧
 ((byM_pre (x.2.2.2.2,((List.getD s.1 (Int.toNat (w64 (x.2.2.2.1 + s.2))) (0:Int)),(List.getD s.1 (Int.toNat (w64 (x.2.2.2.1 + (w64 ((w64 ((2:Int) * s.2)) + (1:Int)))))) (0:Int))))) ∧
 letP (byM (x.2.2.2.2,((List.getD s.1 (Int.toNat (w64 (x.2.2.2.1 + s.2))) (0:Int)),(List.getD s.1 (Int.toNat (w64 (x.2.2.2.1 + (w64 ((w64 ((2:Int) * s.2)) + (1:Int)))))) (0:Int))))) fun y_1 =>
 (¬ ((!(decide (y_1 < (0:Int)))) = true) →
 ((((0:Int) ≤ (w64 (x.2.2.2.1 + (w64 ((w64 ((2:Int) * s.2)) + (1:Int)))))) ∧ ((w64 (x.2.2.2.1 + (w64 ((w64 ((2:Int) * s.2)) + (1:Int))))) < (s.1.length:Int))) ∧
 (((Int.toNat (w64 (x.2.2.2.1 + (w64 ((w64 ((2:Int) * s.2)) + (1:Int)))))) < (List.length s.1)) ∧
 (((Int.toNat (w64 (x.2.2.2.1 + (w64 ((w64 ((2:Int) * s.2)) + (1:Int)))))) < (List.length s.1)) ∧
 ((((0:Int) ≤ (w64 (x.2.2.2.1 + s.2))) ∧ ((w64 (x.2.2.2.1 + s.2)) < (s.1.length:Int))) ∧
 (((Int.toNat (w64 (x.2.2.2.1 + s.2))) < (List.length s.1)) ∧
 (((Int.toNat (w64 (x.2.2.2.1 + s.2))) < (List.length s.1)) ∧
 ((((0:Int) ≤ (w64 (x.2.2.2.1 + s.2))) ∧ ((w64 (x.2.2.2.1 + s.2)) < (s.1.length:Int))) ∧
 (((Int.toNat (w64 (x.2.2.2.1 + s.2))) < (List.length s.1)) ∧
 (((Int.toNat (w64 (x.2.2.2.1 + s.2))) < (List.length s.1)) ∧
 (letP (List.set s.1 (Int.toNat (w64 (x.2.2.2.1 + s.2))) (List.getD s.1 (Int.toNat (w64 (x.2.2.2.1 + (w64 ((w64 ((2:Int) * s.2)) + (1:Int)))))) (0:Int))) fun y_2 =>
 ((((0:Int) ≤ (w64 (x.2.2.2.1 + (w64 ((w64 ((2:Int) * s.2)) + (1:Int)))))) ∧ ((w64 (x.2.2.2.1 + (w64 ((w64 ((2:Int) * s.2)) + (1:Int))))) < (y_2.length:Int))) ∧
 (((Int.toNat (w64 (x.2.2.2.1 + (w64 ((w64 ((2:Int) * s.2)) + (1:Int)))))) < (List.length y_2)) ∧
 ((Int.toNat (w64 (x.2.2.2.1 + (w64 ((w64 ((2:Int) * s.2)) + (1:Int)))))) < (List.length y_2)))))))))))))))))))))))))))))))) ∧
 (¬ ((w64 ((w64 ((w64 ((2:Int) * s.2)) + (1:Int))) + (1:Int))) < x.2.2.1) →
 ((((0:Int) ≤ (w64 (x.2.2.2.1 + s.2))) ∧ ((w64 (x.2.2.2.1 + s.2)) < (s.1.length:Int))) ∧
 (((Int.toNat (w64 (x.2.2.2.1 + s.2))) < (List.length s.1)) ∧
 (((Int.toNat (w64 (x.2.2.2.1 + s.2))) < (List.length s.1)) ∧
 ((((0:Int) ≤ (w64 (x.2.2.2.1 + (w64 ((w64 ((2:Int) * s.2)) + (1:Int)))))) ∧ ((w64 (x.2.2.2.1 + (w64 ((w64 ((2:Int) * s.2)) + (1:Int))))) < (s.1.length:Int))) ∧
 (((Int.toNat (w64 (x.2.2.2.1 + (w64 ((w64 ((2:Int) * s.2)) + (1:Int)))))) < (List.length s.1)) ∧
 (((Int.toNat (w64 (x.2.2.2.1 + (w64 ((w64 ((2:Int) * s.2)) + (1:Int)))))) < (List.length s.1)) ∧
 ((byM_pre (x.2.2.2.2,((List.getD s.1 (Int.toNat (w64 (x.2.2.2.1 + s.2))) (0:Int)),(List.getD s.1 (Int.toNat (w64 (x.2.2.2.1 + (w64 ((w64 ((2:Int) * s.2)) + (1:Int)))))) (0:Int))))) ∧
 letP (byM (x.2.2.2.2,((List.getD s.1 (Int.toNat (w64 (x.2.2.2.1 + s.2))) (0:Int)),(List.getD s.1 (Int.toNat (w64 (x.2.2.2.1 + (w64 ((w64 ((2:Int) * s.2)) + (1:Int)))))) (0:Int))))) fun y =>
 (¬ ((!(decide (y < (0:Int)))) = true) →
 ((((0:Int) ≤ (w64 (x.2.2.2.1 + (w64 ((w64 ((2:Int) * s.2)) + (1:Int)))))) ∧ ((w64 (x.2.2.2.1 + (w64 ((w64 ((2:Int) * s.2)) + (1:Int))))) < (s.1.length:Int))) ∧
 (((Int.toNat (w64 (x.2.2.2.1 + (w64 ((w64 ((2:Int) * s.2)) + (1:Int)))))) < (List.length s.1)) ∧
 (((Int.toNat (w64 (x.2.2.2.1 + (w64 ((w64 ((2:Int) * s.2)) + (1:Int)))))) < (List.length s.1)) ∧
 ((((0:Int) ≤ (w64 (x.2.2.2.1 + s.2))) ∧ ((w64 (x.2.2.2.1 + s.2)) < (s.1.length:Int))) ∧
 (((Int.toNat (w64 (x.2.2.2.1 + s.2))) < (List.length s.1)) ∧
 (((Int.toNat (w64 (x.2.2.2.1 + s.2))) < (List.length s.1)) ∧
 ((((0:Int) ≤ (w64 (x.2.2.2.1 + s.2))) ∧ ((w64 (x.2.2.2.1 + s.2)) < (s.1.length:Int))) ∧
 (((Int.toNat (w64 (x.2.2.2.1 + s.2))) < (List.length s.1)) ∧
 (((Int.toNat (w64 (x.2.2.2.1 + s.2))) < (List.length s.1)) ∧
 (letP (List.set s.1 (Int.toNat (w64 (x.2.2.2.1 + s.2))) (List.getD s.1 (Int.toNat (w64 (x.2.2.2.1 + (w64 ((w64 ((2:Int) * s.2)) + (1:Int)))))) (0:Int))) fun y_1 =>
 ((((0:Int) ≤ (w64 (x.2.2.2.1 + (w64 ((w64 ((2:Int) * s.2)) + (1:Int)))))) ∧ ((w64 (x.2.2.2.1 + (w64 ((w64 ((2:Int) * s.2)) + (1:Int))))) < (y_1.length:Int))) ∧
 (((Int.toNat (w64 (x.2.2.2.1 + (w64 ((w64 ((2:Int) * s.2)) + (1:Int)))))) < (List.length y_1)) ∧
 ((Int.toNat (w64 (x.2.2.2.1 + (w64 ((w64 ((2:Int) * s.2)) + (1:Int)))))) < (List.length y_1)))))))))))))))))))))))))
def siftM_l0_3_t (x : ((List Int) × (Int × (Int × (Int × ((List I9) × Int)))))) (s : ((List Int) × Int)) : Tr (((List Int) × Int) ⊕ ((List Int) ⊕ (List Int))) true :=
 (.i01 ((w1 (w64 ((2:Int) * s.2))) ≥ x.2.2.1)
 (.ret (.inr (Sum.inl s.1)))
 (.i11 ((w1 (w1 (w64 ((2:Int) * s.2)))) < x.2.2.1)
 (.oI2 (w64 (x.2.2.2.1 + (w1 (w64 ((2:Int) * s.2))))) s.1
 (.oI2 (w1 (w64 (x.2.2.2.1 + (w1 (w64 ((2:Int) * s.2)))))) s.1
 (.fn byM_S (x.2.2.2.2,((gI s.1 (w64 (x.2.2.2.1 + (w1 (w64 ((2:Int) * s.2)))))),(gI s.1 (w1 (w64 (x.2.2.2.1 + (w1 (w64 ((2:Int) * s.2))))))))) fun y =>
 (.i11 (y < z0)
 (.oI2 (w64 (x.2.2.2.1 + s.2)) s.1
 (.oI2 (w64 (x.2.2.2.1 + (w1 (w1 (w64 ((2:Int) * s.2)))))) s.1
 (.fn byM_S (x.2.2.2.2,((gI s.1 (w64 (x.2.2.2.1 + s.2))),(gI s.1 (w64 (x.2.2.2.1 + (w1 (w1 (w64 ((2:Int) * s.2))))))))) fun y_1 =>
 (.b01 (!(decide (y_1 < z0)))
 (.ret (.inr (Sum.inr (s.1))))
 (.oI2 (w64 (x.2.2.2.1 + (w1 (w1 (w64 ((2:Int) * s.2)))))) s.1
 (.oI2 (w64 (x.2.2.2.1 + s.2)) s.1
 (.oI2 (w64 (x.2.2.2.1 + s.2)) s.1
 (.lt (List.set s.1 (tN (w64 (x.2.2.2.1 + s.2))) (gI s.1 (w64 (x.2.2.2.1 + (w1 (w1 (w64 ((2:Int) * s.2)))))))) fun y_2 =>
 (.oI2 (w64 (x.2.2.2.1 + (w1 (w1 (w64 ((2:Int) * s.2)))))) y_2
 (.lt (List.set y_2 (tN (w64 (x.2.2.2.1 + (w1 (w1 (w64 ((2:Int) * s.2))))))) (gI s.1 (w64 (x.2.2.2.1 + s.2)))) fun y_3 =>
 (.ret (.inl (y_3,(w1 (w1 (w64 ((2:Int) * s.2)))))))))))))))))
 (.oI2 (w64 (x.2.2.2.1 + s.2)) s.1
 (.oI2 (w64 (x.2.2.2.1 + (w1 (w64 ((2:Int) * s.2))))) s.1
 (.fn byM_S (x.2.2.2.2,((gI s.1 (w64 (x.2.2.2.1 + s.2))),(gI s.1 (w64 (x.2.2.2.1 + (w1 (w64 ((2:Int) * s.2)))))))) fun y_1 =>
 (.b01 (!(decide (y_1 < z0)))
 (.ret (.inr (Sum.inr (s.1))))
 (.oI2 (w64 (x.2.2.2.1 + (w1 (w64 ((2:Int) * s.2))))) s.1
 (.oI2 (w64 (x.2.2.2.1 + s.2)) s.1
 (.oI2 (w64 (x.2.2.2.1 + s.2)) s.1
 (.lt (List.set s.1 (tN (w64 (x.2.2.2.1 + s.2))) (gI s.1 (w64 (x.2.2.2.1 + (w1 (w64 ((2:Int) * s.2))))))) fun y_2 =>
 (.oI2 (w64 (x.2.2.2.1 + (w1 (w64 ((2:Int) * s.2))))) y_2
 (.lt (List.set y_2 (tN (w64 (x.2.2.2.1 + (w1 (w64 ((2:Int) * s.2)))))) (gI s.1 (w64 (x.2.2.2.1 + s.2)))) fun y_3 =>
 (.ret (.inl (y_3,(w1 (w64 ((2:Int) * s.2))))))))))))))))))))
 (.oI2 (w64 (x.2.2.2.1 + s.2)) s.1
 (.oI2 (w64 (x.2.2.2.1 + (w1 (w64 ((2:Int) * s.2))))) s.1
 (.fn byM_S (x.2.2.2.2,((gI s.1 (w64 (x.2.2.2.1 + s.2))),(gI s.1 (w64 (x.2.2.2.1 + (w1 (w64 ((2:Int) * s.2)))))))) fun y =>
 (.b01 (!(decide (y < z0)))
 (.ret (.inr (Sum.inr (s.1))))
 (.oI2 (w64 (x.2.2.2.1 + (w1 (w64 ((2:Int) * s.2))))) s.1
 (.oI2 (w64 (x.2.2.2.1 + s.2)) s.1
 (.oI2 (w64 (x.2.2.2.1 + s.2)) s.1
 (.lt (List.set s.1 (tN (w64 (x.2.2.2.1 + s.2))) (gI s.1 (w64 (x.2.2.2.1 + (w1 (w64 ((2:Int) * s.2))))))) fun y_1 =>
 (.oI2 (w64 (x.2.2.2.1 + (w1 (w64 ((2:Int) * s.2))))) y_1
 (.lt (List.set y_1 (tN (w64 (x.2.2.2.1 + (w1 (w64 ((2:Int) * s.2)))))) (gI s.1 (w64 (x.2.2.2.1 + s.2)))) fun y_2 =>
 (.ret (.inl (y_2,(w1 (w64 ((2:Int) * s.2))))))))))))))))))
def siftM (x : ((List Int) × (Int × (Int × (Int × ((List I9) × Int)))))) : (Bool × ((List Int) × (Bool × (Bool × (Bool × Bool))))) :=
 (letV (run (siftM_l0_3_step x) (x.1,x.2.1)) fun r =>
 (Sum.elim (fun a =>
 (false,(a,(false,(false,(false,false)))))) (fun b =>
 (false,(b,(false,(false,(false,false)))))) r))
def siftM_pre (x : ((List Int) × (Int × (Int × (Int × ((List I9) × Int)))))) : Prop :=
 (Term (siftM_l0_3_step x) (siftM_l0_3_pre x) (x.1,x.2.1) ∧
 letP (run (siftM_l0_3_step x) (x.1,x.2.1)) fun r =>
 (cS r (fun a =>
 ((List.length a) = (List.length x.1))) (fun b =>
 ((List.length b) = (List.length x.1)))))
def siftM_t (x : ((List Int) × (Int × (Int × (Int × ((List I9) × Int)))))) : Tr (Bool × ((List Int) × (Bool × (Bool × (Bool × Bool))))) true :=
 (LoopD.lp (siftM_l0_3 x) (siftM_l0_3_t x) (x.1,x.2.1) fun r =>
 (.s11 r (fun a =>
 (.pn 0 2
 (.og ((decide ((List.length a) = (List.length x.1))) && true) ((List.length a) = (List.length x.1)) (fun h => (and_t (decide_eq_true h) rfl))
 (.ret (false,(a,(false,(false,(false,false))))))))) (fun b =>
 (.pn 0 2
 (.og ((decide ((List.length b) = (List.length x.1))) && true) ((List.length b) = (List.length x.1)) (fun h => (and_t (decide_eq_true h) rfl))
 (.ret (false,(b,(false,(false,(false,false)))))))))))
abbrev siftM_S : FnW := ⟨(.pair (.row yi) (.pair (.val (.one yi)) (.pair (.val (.one yi)) (.pair (.val (.one yi)) (.val cmpP))))),.none,siftM_pre,siftM⟩
theorem siftM_ok : SpecOk Try.prog 68 (fnSpecW siftM_S) := SpecOk.trW siftM_S siftM_t (fn := Try.f68) tt_ok sp_insM_ok mixed (by kernel_rfl) (ItsOk.nil _ _) (fun x => (LpsOk.tr tt_ok (SpecsOk.ctxI sp_insM_ok (ItsOk.nil _ _)) mixed 0 (siftM_l0_3 x) (siftM_l0_3_t x) LpsOk.nil (by kernel_rfl) fun g s Q => (by kernel_rfl))) (fun x => (by kernel_rfl)) fun x r0 Q => (by kernel_rfl)
def sp_siftM : List (Nat × Ev.Spec) := (68,fnSpecW siftM_S) :: sp_insM
theorem sp_siftM_ok : SpecsOk Try.prog sp_siftM := SpecsOk.add (fn := Try.f68) (by kernel_rfl) siftM_ok sp_insM_ok
def heapM_l0_3 (x : ((List Int) × (Int × (Int × ((List I9) × Int))))) : LoopD := ⟨[.env],⟨pvs 60 0 [(0,.v (.one (.full 0))),(3,.v (.one (.mv 37 true [.full 1,.ext]))),(8,.v (.one (.i .i64))),(9,.v (.one (.i .i64))),(10,.v (.one (.i .i64))),(11,.v (.one (.i .i64)))],[.row yi 1,.row yy9 0,.pin 2],3,none,[7],[0,1,2,3,6],[5,4],[(.l yi),.i],[.v (.int .i64 x.2.2.2.2),.i x.2.1,.i (0:Int),.i (w64 (x.2.2.1 - x.2.1)),.l yy9 x.2.2.2.1]⟩,[⟨(.exit 0),.normal,⟨pvs 60 0 [(0,.v (.one (.full 0))),(3,.v (.one (.mv 37 true [.full 1,.ext]))),(8,.v (.one (.i .i64))),(9,.v (.one (.i .i64))),(10,.v (.one (.i .i64)))],[.row yi 1,.row yy9 0,.pin 2],3,none,[6],[0,1,2,3,5],[4],[(.l yi)],[.v (.int .i64 x.2.2.2.2),.i x.2.1,.i (0:Int),.i (w64 (x.2.2.1 - x.2.1)),.l yy9 x.2.2.2.1]⟩⟩]⟩
def heapM_l0_3_step (x : ((List Int) × (Int × (Int × ((List I9) × Int))))) (s : ((List Int) × Int)) : ((List Int) × Int) ⊕ (List Int) :=
 (if (s.2 ≥ (0:Int)) then
 (letV (siftM (s.1,(s.2,((w64 (x.2.2.1 - x.2.1)),(x.2.1,x.2.2.2))))) fun y =>
 (Sum.inl (y.2.1,(w64 (s.2 - (1:Int)))))) else
 (Sum.inr (s.1)))
def heapM_l0_3_pre (x : ((List Int) × (Int × (Int × ((List I9) × Int))))) (s : ((List Int) × Int)) : Prop :=
 ((s.2 ≥ (0:Int)) →
 (siftM_pre (s.1,(s.2,((w64 (x.2.2.1 - x.2.1)),(x.2.1,x.2.2.2))))))
def heapM_l0_3_t (x : ((List Int) × (Int × (Int × ((List I9) × Int))))) (s : ((List Int) × Int)) : Tr (((List Int) × Int) ⊕ (List Int)) true :=
 (.i10 (s.2 ≥ z0)
 (.fnW siftM_S (s.1,(s.2,((w64 (x.2.2.1 - x.2.1)),(x.2.1,x.2.2.2)))) fun y =>
 (.ret (.inl (y.2.1,(wm s.2)))))
 (.ret (.inr (s.1))))
def heapM_l2_3 (x : ((List Int) × (Int × (Int × ((List I9) × Int))))) : LoopD := ⟨[.env],⟨pvs 60 0 [(0,.v (.one (.full 0))),(3,.v (.one (.mv 37 true [.full 1,.ext]))),(8,.v (.one (.i .i64))),(9,.v (.one (.i .i64))),(12,.v (.one (.i .i64)))],[.row yi 1,.row yy9 0,.pin 2],3,none,[6],[0,1,2,5],[4,3],[(.l yi),.i],[.v (.int .i64 x.2.2.2.2),.i x.2.1,.i (0:Int),.l yy9 x.2.2.2.1]⟩,[⟨(.exit 2),.normal,⟨pvs 60 0 [],[.row yi 1,.row yy9 0,.pin 2],3,none,[2],[1],[0],[(.l yi)],[.l yy9 x.2.2.2.1]⟩⟩]⟩
def heapM_l2_3_step (x : ((List Int) × (Int × (Int × ((List I9) × Int))))) (s : ((List Int) × Int)) : ((List Int) × Int) ⊕ (List Int) :=
 (if (s.2 ≥ (0:Int)) then
 (letV (List.set s.1 (Int.toNat x.2.1) (List.getD s.1 (Int.toNat (w64 (x.2.1 + s.2))) (0:Int))) fun y =>
 (letV (List.set y (Int.toNat (w64 (x.2.1 + s.2))) (List.getD s.1 (Int.toNat x.2.1) (0:Int))) fun y_1 =>
 (letV (siftM (y_1,((0:Int),(s.2,(x.2.1,x.2.2.2))))) fun y_2 =>
 (Sum.inl (y_2.2.1,(w64 (s.2 - (1:Int)))))))) else
 (Sum.inr (s.1)))
def heapM_l2_3_pre (x : ((List Int) × (Int × (Int × ((List I9) × Int))))) (s : ((List Int) × Int)) : Prop :=
 ((s.2 ≥ (0:Int)) →
 ((((0:Int) ≤ (w64 (x.2.1 + s.2))) ∧ ((w64 (x.2.1 + s.2)) < (s.1.length:Int))) ∧
 (((Int.toNat (w64 (x.2.1 + s.2))) < (List.length s.1)) ∧
 (((Int.toNat (w64 (x.2.1 + s.2))) < (List.length s.1)) ∧
 ((((0:Int) ≤ x.2.1) ∧ (x.2.1 < (s.1.length:Int))) ∧
 (((Int.toNat x.2.1) < (List.length s.1)) ∧
 (((Int.toNat x.2.1) < (List.length s.1)) ∧
 ((((0:Int) ≤ x.2.1) ∧ (x.2.1 < (s.1.length:Int))) ∧
 (((Int.toNat x.2.1) < (List.length s.1)) ∧
 (((Int.toNat x.2.1) < (List.length s.1)) ∧
 (letP (List.set s.1 (Int.toNat x.2.1) (List.getD s.1 (Int.toNat (w64 (x.2.1 + s.2))) (0:Int))) fun y =>
 ((((0:Int) ≤ (w64 (x.2.1 + s.2))) ∧ ((w64 (x.2.1 + s.2)) < (y.length:Int))) ∧
 (((Int.toNat (w64 (x.2.1 + s.2))) < (List.length y)) ∧
 (((Int.toNat (w64 (x.2.1 + s.2))) < (List.length y)) ∧
 (letP (List.set y (Int.toNat (w64 (x.2.1 + s.2))) (List.getD s.1 (Int.toNat x.2.1) (0:Int))) fun y_1 =>
 (siftM_pre (y_1,((0:Int),(s.2,(x.2.1,x.2.2.2))))))))))))))))))))
def heapM_l2_3_t (x : ((List Int) × (Int × (Int × ((List I9) × Int))))) (s : ((List Int) × Int)) : Tr (((List Int) × Int) ⊕ (List Int)) true :=
 (.i10 (s.2 ≥ z0)
 (.oI2 (w64 (x.2.1 + s.2)) s.1
 (.oI2 x.2.1 s.1
 (.oI2 x.2.1 s.1
 (.lt (List.set s.1 (tN x.2.1) (gI s.1 (w64 (x.2.1 + s.2)))) fun y =>
 (.oI2 (w64 (x.2.1 + s.2)) y
 (.lt (List.set y (tN (w64 (x.2.1 + s.2))) (gI s.1 x.2.1)) fun y_1 =>
 (.fnW siftM_S (y_1,(z0,(s.2,(x.2.1,x.2.2.2)))) fun y_2 =>
 (.ret (.inl (y_2.2.1,(wm s.2)))))))))))
 (.ret (.inr (s.1))))
def heapM (x : ((List Int) × (Int × (Int × ((List I9) × Int))))) : (Bool × ((List Int) × (Bool × (Bool × Bool)))) :=
 (letV (run (heapM_l0_3_step x) (x.1,(w64 (Int.tdiv (w64 ((w64 (x.2.2.1 - x.2.1)) - (1:Int))) (2:Int))))) fun r =>
 (letV (run (heapM_l2_3_step x) (r,(w64 ((w64 (x.2.2.1 - x.2.1)) - (1:Int))))) fun r_1 =>
 (false,(r_1,(false,(false,false))))))
def heapM_pre (x : ((List Int) × (Int × (Int × ((List I9) × Int))))) : Prop :=
 (Term (heapM_l0_3_step x) (heapM_l0_3_pre x) (x.1,(w64 (Int.tdiv (w64 ((w64 (x.2.2.1 - x.2.1)) - (1:Int))) (2:Int)))) ∧
 letP (run (heapM_l0_3_step x) (x.1,(w64 (Int.tdiv (w64 ((w64 (x.2.2.1 - x.2.1)) - (1:Int))) (2:Int))))) fun r =>
 (Term (heapM_l2_3_step x) (heapM_l2_3_pre x) (r,(w64 ((w64 (x.2.2.1 - x.2.1)) - (1:Int)))) ∧
 letP (run (heapM_l2_3_step x) (r,(w64 ((w64 (x.2.2.1 - x.2.1)) - (1:Int))))) fun r_1 =>
 ((List.length r_1) = (List.length x.1))))
def heapM_t (x : ((List Int) × (Int × (Int × ((List I9) × Int))))) : Tr (Bool × ((List Int) × (Bool × (Bool × Bool)))) true :=
 (LoopD.lp (heapM_l0_3 x) (heapM_l0_3_t x) (x.1,(w64 (Int.tdiv (wm (w64 (x.2.2.1 - x.2.1))) (2:Int)))) fun r =>
 (LoopD.lp (heapM_l2_3 x) (heapM_l2_3_t x) (r,(wm (w64 (x.2.2.1 - x.2.1)))) fun r_1 =>
 (.pn 0 2
 (.og ((decide ((List.length r_1) = (List.length x.1))) && true) ((List.length r_1) = (List.length x.1)) (fun h => (and_t (decide_eq_true h) rfl))
 (.ret (false,(r_1,(false,(false,false)))))))))
abbrev heapM_S : FnW := ⟨(.pair (.row yi) (.pair (.val (.one yi)) (.pair (.val (.one yi)) (.val cmpP)))),.none,heapM_pre,heapM⟩
theorem heapM_ok : SpecOk Try.prog 57 (fnSpecW heapM_S) := SpecOk.trW heapM_S heapM_t (fn := Try.f57) tt_ok sp_siftM_ok mixed (by kernel_rfl) (ItsOk.nil _ _) (fun x => (LpsOk.tr tt_ok (SpecsOk.ctxI sp_siftM_ok (ItsOk.nil _ _)) mixed 0 (heapM_l0_3 x) (heapM_l0_3_t x) (LpsOk.tr tt_ok (SpecsOk.ctxI sp_siftM_ok (ItsOk.nil _ _)) mixed 2 (heapM_l2_3 x) (heapM_l2_3_t x) LpsOk.nil (by kernel_rfl) fun g s Q => (by kernel_rfl)) (by kernel_rfl) fun g s Q => (by kernel_rfl))) (fun x => (by kernel_rfl)) fun x r0 Q => (by kernel_rfl)
def sp_heapM : List (Nat × Ev.Spec) := (57,fnSpecW heapM_S) :: sp_siftM
theorem sp_heapM_ok : SpecsOk Try.prog sp_heapM := SpecsOk.add (fn := Try.f57) (by kernel_rfl) heapM_ok sp_siftM_ok
def order2M (x : ((List Int) × (Int × (Int × (Int × ((List I9) × Int)))))) : (I2 × (Bool × (Bool × (Bool × (Int × Bool))))) :=
 (letV (byM (x.2.2.2.2,((List.getD x.1 (Int.toNat x.2.2.1) (0:Int)),(List.getD x.1 (Int.toNat x.2.1) (0:Int))))) fun y =>
 (if (y < (0:Int)) then
 ((x.2.2.1,x.2.1),(false,(false,(false,((w64 (x.2.2.2.1 + (1:Int))),false))))) else
 ((x.2.1,x.2.2.1),(false,(false,(false,(x.2.2.2.1,false)))))))
def order2M_pre (x : ((List Int) × (Int × (Int × (Int × ((List I9) × Int)))))) : Prop :=
 ((((0:Int) ≤ x.2.2.1) ∧ (x.2.2.1 < (x.1.length:Int))) ∧
 (((Int.toNat x.2.2.1) < (List.length x.1)) ∧
 (((Int.toNat x.2.2.1) < (List.length x.1)) ∧
 ((((0:Int) ≤ x.2.1) ∧ (x.2.1 < (x.1.length:Int))) ∧
 (((Int.toNat x.2.1) < (List.length x.1)) ∧
 (((Int.toNat x.2.1) < (List.length x.1)) ∧
 (byM_pre (x.2.2.2.2,((List.getD x.1 (Int.toNat x.2.2.1) (0:Int)),(List.getD x.1 (Int.toNat x.2.1) (0:Int)))))))))))
def order2M_t (x : ((List Int) × (Int × (Int × (Int × ((List I9) × Int)))))) : Tr (I2 × (Bool × (Bool × (Bool × (Int × Bool))))) true :=
 (.oI2 x.2.2.1 x.1
 (.oI2 x.2.1 x.1
 (.fn byM_S (x.2.2.2.2,((gI x.1 x.2.2.1),(gI x.1 x.2.1))) fun y =>
 (.i00 (y < z0)
 (.pn 0 3
 (.ret ((x.2.2.1,x.2.1),(false,(false,(false,((w1 x.2.2.2.1),false)))))))
 (.pn 0 3
 (.ret ((x.2.1,x.2.2.1),(false,(false,(false,(x.2.2.2.1,false)))))))))))
abbrev order2M_S : FnW := ⟨(.pair (.val (.one (Ty.sl yi))) (.pair (.val (.one yi)) (.pair (.val (.one yi)) (.pair (.ptr yi 3) (.val cmpP))))),(.pair (.one yi) (.one yi)),order2M_pre,order2M⟩
theorem order2M_ok : SpecOk Try.prog 73 (fnSpecW order2M_S) := SpecOk.trW order2M_S order2M_t (fn := Try.f73) tt_ok sp_heapM_ok mixed (by kernel_rfl) (ItsOk.nil _ _) (fun x => LpsOk.nil) (fun x => (by kernel_rfl)) fun x r0 Q => (by kernel_rfl)
def sp_order2M : List (Nat × Ev.Spec) := (73,fnSpecW order2M_S) :: sp_heapM
theorem sp_order2M_ok : SpecsOk Try.prog sp_order2M := SpecsOk.add (fn := Try.f73) (by kernel_rfl) order2M_ok sp_heapM_ok
def medM (x : ((List Int) × (Int × (Int × (Int × (Int × ((List I9) × Int))))))) : (Int × (Bool × (Bool × (Bool × (Bool × (Int × Bool)))))) :=
 (letV (order2M (x.1,(x.2.1,(x.2.2.1,x.2.2.2.2)))) fun y =>
 (letV (order2M (x.1,(y.1.2,(x.2.2.2.1,(y.2.2.2.2.1,x.2.2.2.2.2))))) fun y_1 =>
 (letV (order2M (x.1,(y.1.1,(y_1.1.1,(y_1.2.2.2.2.1,x.2.2.2.2.2))))) fun y_2 =>
 (y_2.1.2,(false,(false,(false,(false,(y_2.2.2.2.2.1,false)))))))))
def medM_pre (x : ((List Int) × (Int × (Int × (Int × (Int × ((List I9) × Int))))))) : Prop :=
 ((order2M_pre (x.1,(x.2.1,(x.2.2.1,x.2.2.2.2)))) ∧
 letP (order2M (x.1,(x.2.1,(x.2.2.1,x.2.2.2.2)))) fun y =>
 ((order2M_pre (x.1,(y.1.2,(x.2.2.2.1,(y.2.2.2.2.1,x.2.2.2.2.2))))) ∧
 letP (order2M (x.1,(y.1.2,(x.2.2.2.1,(y.2.2.2.2.1,x.2.2.2.2.2))))) fun y_1 =>
 (order2M_pre (x.1,(y.1.1,(y_1.1.1,(y_1.2.2.2.2.1,x.2.2.2.2.2)))))))
def medM_t (x : ((List Int) × (Int × (Int × (Int × (Int × ((List I9) × Int))))))) : Tr (Int × (Bool × (Bool × (Bool × (Bool × (Int × Bool)))))) true :=
 (.fnW order2M_S (x.1,(x.2.1,(x.2.2.1,x.2.2.2.2))) fun y =>
 (.fnW order2M_S (x.1,(y.1.2,(x.2.2.2.1,(y.2.2.2.2.1,x.2.2.2.2.2)))) fun y_1 =>
 (.fnW order2M_S (x.1,(y.1.1,(y_1.1.1,(y_1.2.2.2.2.1,x.2.2.2.2.2)))) fun y_2 =>
 (.pn 0 3
 (.ret (y_2.1.2,(false,(false,(false,(false,(y_2.2.2.2.2.1,false)))))))))))
abbrev medM_S : FnW := ⟨(.pair (.val (.one (Ty.sl yi))) (.pair (.val (.one yi)) (.pair (.val (.one yi)) (.pair (.val (.one yi)) (.pair (.ptr yi 3) (.val cmpP)))))),(.one yi),medM_pre,medM⟩
theorem medM_ok : SpecOk Try.prog 72 (fnSpecW medM_S) := SpecOk.trW medM_S medM_t (fn := Try.f72) tt_ok sp_order2M_ok mixed (by kernel_rfl) (ItsOk.nil _ _) (fun x => LpsOk.nil) (fun x => (by kernel_rfl)) fun x r0 Q => (by kernel_rfl)
def sp_medM : List (Nat × Ev.Spec) := (72,fnSpecW medM_S) :: sp_order2M
theorem sp_medM_ok : SpecsOk Try.prog sp_medM := SpecsOk.add (fn := Try.f72) (by kernel_rfl) medM_ok sp_order2M_ok
def medAM (x : ((List Int) × (Int × (Int × ((List I9) × Int))))) : (Int × (Bool × (Bool × (Int × Bool)))) :=
 (letV (medM (x.1,((w64 (x.2.1 - (1:Int))),(x.2.1,((w64 (x.2.1 + (1:Int))),x.2.2))))) fun y =>
 (y.1,(false,(false,(y.2.2.2.2.2.1,false)))))
def medAM_pre (x : ((List Int) × (Int × (Int × ((List I9) × Int))))) : Prop :=
 (medM_pre (x.1,((w64 (x.2.1 - (1:Int))),(x.2.1,((w64 (x.2.1 + (1:Int))),x.2.2)))))
def medAM_t (x : ((List Int) × (Int × (Int × ((List I9) × Int))))) : Tr (Int × (Bool × (Bool × (Int × Bool)))) true :=
 (.fnW medM_S (x.1,((wm x.2.1),(x.2.1,((w1 x.2.1),x.2.2)))) fun y =>
 (.pn 0 3
 (.ret (y.1,(false,(false,(y.2.2.2.2.2.1,false)))))))
abbrev medAM_S : FnW := ⟨(.pair (.val (.one (Ty.sl yi))) (.pair (.val (.one yi)) (.pair (.ptr yi 3) (.val cmpP)))),(.one yi),medAM_pre,medAM⟩
theorem medAM_ok : SpecOk Try.prog 71 (fnSpecW medAM_S) := SpecOk.trW medAM_S medAM_t (fn := Try.f71) tt_ok sp_medM_ok mixed (by kernel_rfl) (ItsOk.nil _ _) (fun x => LpsOk.nil) (fun x => (by kernel_rfl)) fun x r0 Q => (by kernel_rfl)
def sp_medAM : List (Nat × Ev.Spec) := (71,fnSpecW medAM_S) :: sp_medM
theorem sp_medAM_ok : SpecsOk Try.prog sp_medAM := SpecsOk.add (fn := Try.f71) (by kernel_rfl) medAM_ok sp_medM_ok
def pivM (x : ((List Int) × (Int × (Int × ((List I9) × Int))))) : I2 :=
 (if ((w64 (x.2.2.1 - x.2.1)) ≥ (8:Int)) then
 (if ((w64 (x.2.2.1 - x.2.1)) ≥ (50:Int)) then
 (letV (medAM (x.1,((w64 (x.2.1 + (w64 ((w64 (Int.tdiv (w64 (x.2.2.1 - x.2.1)) (4:Int))) * (1:Int))))),((0:Int),x.2.2.2)))) fun y =>
 (letV (medAM (x.1,((w64 (x.2.1 + (w64 ((w64 (Int.tdiv (w64 (x.2.2.1 - x.2.1)) (4:Int))) * (2:Int))))),(y.2.2.2.1,x.2.2.2)))) fun y_1 =>
 (letV (medAM (x.1,((w64 (x.2.1 + (w64 ((w64 (Int.tdiv (w64 (x.2.2.1 - x.2.1)) (4:Int))) * (3:Int))))),(y_1.2.2.2.1,x.2.2.2)))) fun y_2 =>
 (letV (medM (x.1,(y.1,(y_1.1,(y_2.1,(y_2.2.2.2.1,x.2.2.2)))))) fun y_3 =>
 (if ((y_3.2.2.2.2.2.1 == (0:Int)) = true) then
 (y_3.1,(1:Int)) else
 (if ((y_3.2.2.2.2.2.1 == (12:Int)) = true) then
 (y_3.1,(2:Int)) else
 (y_3.1,(0:Int)))))))) else
 (letV (medM (x.1,((w64 (x.2.1 + (w64 ((w64 (Int.tdiv (w64 (x.2.2.1 - x.2.1)) (4:Int))) * (1:Int))))),((w64 (x.2.1 + (w64 ((w64 (Int.tdiv (w64 (x.2.2.1 - x.2.1)) (4:Int))) * (2:Int))))),((w64 (x.2.1 + (w64 ((w64 (Int.tdiv (w64 (x.2.2.1 - x.2.1)) (4:Int))) * (3:Int))))),((0:Int),x.2.2.2)))))) fun y =>
 (if ((y.2.2.2.2.2.1 == (0:Int)) = true) then
 (y.1,(1:Int)) else
 (if ((y.2.2.2.2.2.1 == (12:Int)) = true) then
 (y.1,(2:Int)) else
 (y.1,(0:Int)))))) else
 ((w64 (x.2.1 + (w64 ((w64 (Int.tdiv (w64 (x.2.2.1 - x.2.1)) (4:Int))) * (2:Int))))),(1:Int)))
def pivM_pre (x : ((List Int) × (Int × (Int × ((List I9) × Int))))) : Prop :=
 (((w64 (x.2.2.1 - x.2.1)) ≥ (8:Int)) →
 ((((w64 (x.2.2.1 - x.2.1)) ≥ (50:Int)) →
 ((medAM_pre (x.1,((w64 (x.2.1 + (w64 ((w64 (Int.tdiv (w64 (x.2.2.1 - x.2.1)) (4:Int))) * (1:Int))))),((0:Int),x.2.2.2)))) ∧
 letP (medAM (x.1,((w64 (x.2.1 + (w64 ((w64 (Int.tdiv (w64 (x.2.2.1 - x.2.1)) (4:Int))) * (1:Int))))),((0:Int),x.2.2.2)))) fun y =>
 ((medAM_pre (x.1,((w64 (x.2.1 + (w64 ((w64 (Int.tdiv (w64 (x.2.2.1 - x.2.1)) (4:Int))) * (2:Int))))),(y.2.2.2.1,x.2.2.2)))) ∧
 letP (medAM (x.1,((w64 (x.2.1 + (w64 ((w64 (Int.tdiv (w64 (x.2.2.1 - x.2.1)) (4:Int))) * (2:Int))))),(y.2.2.2.1,x.2.2.2)))) fun y_1 =>
 ((medAM_pre (x.1,((w64 (x.2.1 + (w64 ((w64 (Int.tdiv (w64 (x.2.2.1 - x.2.1)) (4:Int))) * (3:Int))))),(y_1.2.2.2.1,x.2.2.2)))) ∧
 letP (medAM (x.1,((w64 (x.2.1 + (w64 ((w64 (Int.tdiv (w64 (x.2.2.1 - x.2.1)) (4:Int))) * (3:Int))))),(y_1.2.2.2.1,x.2.2.2)))) fun y_2 =>
 (medM_pre (x.1,(y.1,(y_1.1,(y_2.1,(y_2.2.2.2.1,x.2.2.2)))))))))) ∧
 (¬ ((w64 (x.2.2.1 - x.2.1)) ≥ (50:Int)) →
 (medM_pre (x.1,((w64 (x.2.1 + (w64 ((w64 (Int.tdiv (w64 (x.2.2.1 - x.2.1)) (4:Int))) * (1:Int))))),((w64 (x.2.1 + (w64 ((w64 (Int.tdiv (w64 (x.2.2.1 - x.2.1)) (4:Int))) * (2:Int))))),((w64 (x.2.1 + (w64 ((w64 (Int.tdiv (w64 (x.2.2.1 - x.2.1)) (4:Int))) * (3:Int))))),((0:Int),x.2.2.2)))))))))
def pivM_t (x : ((List Int) × (Int × (Int × ((List I9) × Int))))) : Tr I2 true :=
 (.i10 ((w64 (x.2.2.1 - x.2.1)) ≥ (8:Int))
 (.i11 ((w64 (x.2.2.1 - x.2.1)) ≥ (50:Int))
 (.fnW medAM_S (x.1,((w64 (x.2.1 + (w64 ((w64 (Int.tdiv (w64 (x.2.2.1 - x.2.1)) (4:Int))) * z1)))),(z0,x.2.2.2))) fun y =>
 (.fnW medAM_S (x.1,((w64 (x.2.1 + (w64 ((w64 (Int.tdiv (w64 (x.2.2.1 - x.2.1)) (4:Int))) * (2:Int))))),(y.2.2.2.1,x.2.2.2))) fun y_1 =>
 (.fnW medAM_S (x.1,((w64 (x.2.1 + (w64 ((w64 (Int.tdiv (w64 (x.2.2.1 - x.2.1)) (4:Int))) * (3:Int))))),(y_1.2.2.2.1,x.2.2.2))) fun y_2 =>
 (.fnW medM_S (x.1,(y.1,(y_1.1,(y_2.1,(y_2.2.2.2.1,x.2.2.2))))) fun y_3 =>
 (.b00 (y_3.2.2.2.2.2.1 == z0)
 (.ret (y_3.1,z1))
 (.b00 (y_3.2.2.2.2.2.1 == (12:Int))
 (.ret (y_3.1,(2:Int)))
 (.ret (y_3.1,z0))))))))
 (.fnW medM_S (x.1,((w64 (x.2.1 + (w64 ((w64 (Int.tdiv (w64 (x.2.2.1 - x.2.1)) (4:Int))) * z1)))),((w64 (x.2.1 + (w64 ((w64 (Int.tdiv (w64 (x.2.2.1 - x.2.1)) (4:Int))) * (2:Int))))),((w64 (x.2.1 + (w64 ((w64 (Int.tdiv (w64 (x.2.2.1 - x.2.1)) (4:Int))) * (3:Int))))),(z0,x.2.2.2))))) fun y =>
 (.b00 (y.2.2.2.2.2.1 == z0)
 (.ret (y.1,z1))
 (.b00 (y.2.2.2.2.2.1 == (12:Int))
 (.ret (y.1,(2:Int)))
 (.ret (y.1,z0))))))
 (.ret ((w64 (x.2.1 + (w64 ((w64 (Int.tdiv (w64 (x.2.2.1 - x.2.1)) (4:Int))) * (2:Int))))),z1)))
abbrev pivM_S : FnS := ⟨(.pair (.one (Ty.sl yi)) (.pair (.one yi) (.pair (.one yi) cmpP))),(.pair (.one yi) (.one yi)),pivM_pre,pivM⟩
theorem pivM_ok : SpecOk Try.prog 59 (fnSpec pivM_S) := SpecOk.tr pivM_S pivM_t (fn := Try.f59) tt_ok sp_medAM_ok mixed (by kernel_rfl) (ItsOk.nil _ _) (fun x => LpsOk.nil) (fun x => (by kernel_rfl)) fun x Q => (by kernel_rfl)
def sp_pivM : List (Nat × Ev.Spec) := (59,fnSpec pivM_S) :: sp_medAM
theorem sp_pivM_ok : SpecsOk Try.prog sp_pivM := SpecsOk.add (fn := Try.f59) (by kernel_rfl) pivM_ok sp_medAM_ok
abbrev tab8 : ByteArray := (ByteArray.mk (List.toArray (([(OfNat.ofNat 0),(OfNat.ofNat 1),(OfNat.ofNat 2),(OfNat.ofNat 2),(OfNat.ofNat 3),(OfNat.ofNat 3),(OfNat.ofNat 3),(OfNat.ofNat 3),(OfNat.ofNat 4),(OfNat.ofNat 4),(OfNat.ofNat 4),(OfNat.ofNat 4),(OfNat.ofNat 4),(OfNat.ofNat 4),(OfNat.ofNat 4),(OfNat.ofNat 4),(OfNat.ofNat 5),(OfNat.ofNat 5),(OfNat.ofNat 5),(OfNat.ofNat 5),(OfNat.ofNat 5),(OfNat.ofNat 5),(OfNat.ofNat 5),(OfNat.ofNat 5),(OfNat.ofNat 5),(OfNat.ofNat 5),(OfNat.ofNat 5),(OfNat.ofNat 5),(OfNat.ofNat 5),(OfNat.ofNat 5),(OfNat.ofNat 5),(OfNat.ofNat 5),(OfNat.ofNat 6),(OfNat.ofNat 6),(OfNat.ofNat 6),(OfNat.ofNat 6),(OfNat.ofNat 6),(OfNat.ofNat 6),(OfNat.ofNat 6),(OfNat.ofNat 6),(OfNat.ofNat 6),(OfNat.ofNat 6),(OfNat.ofNat 6),(OfNat.ofNat 6),(OfNat.ofNat 6),(OfNat.ofNat 6),(OfNat.ofNat 6),(OfNat.ofNat 6),(OfNat.ofNat 6),(OfNat.ofNat 6),(OfNat.ofNat 6),(OfNat.ofNat 6),(OfNat.ofNat 6),(OfNat.ofNat 6),(OfNat.ofNat 6),(OfNat.ofNat 6),(OfNat.ofNat 6),(OfNat.ofNat 6),(OfNat.ofNat 6),(OfNat.ofNat 6),(OfNat.ofNat 6),(OfNat.ofNat 6),(OfNat.ofNat 6),(OfNat.ofNat 6)] ++ [(OfNat.ofNat 7),(OfNat.ofNat 7),(OfNat.ofNat 7),(OfNat.ofNat 7),(OfNat.ofNat 7),(OfNat.ofNat 7),(OfNat.ofNat 7),(OfNat.ofNat 7),(OfNat.ofNat 7),(OfNat.ofNat 7),(OfNat.ofNat 7),(OfNat.ofNat 7),(OfNat.ofNat 7),(OfNat.ofNat 7),(OfNat.ofNat 7),(OfNat.ofNat 7),(OfNat.ofNat 7),(OfNat.ofNat 7),(OfNat.ofNat 7),(OfNat.ofNat 7),(OfNat.ofNat 7),(OfNat.ofNat 7),(OfNat.ofNat 7),(OfNat.ofNat 7),(OfNat.ofNat 7),(OfNat.ofNat 7),(OfNat.ofNat 7),(OfNat.ofNat 7),(OfNat.ofNat 7),(OfNat.ofNat 7),(OfNat.ofNat 7),(OfNat.ofNat 7),(OfNat.ofNat 7),(OfNat.ofNat 7),(OfNat.ofNat 7),(OfNat.ofNat 7),(OfNat.ofNat 7),(OfNat.ofNat 7),(OfNat.ofNat 7),(OfNat.ofNat 7),(OfNat.ofNat 7),(OfNat.ofNat 7),(OfNat.ofNat 7),(OfNat.ofNat 7),(OfNat.ofNat 7),(OfNat.ofNat 7),(OfNat.ofNat 7),(OfNat.ofNat 7),(OfNat.ofNat 7),(OfNat.ofNat 7),(OfNat.ofNat 7),(OfNat.ofNat 7),(OfNat.ofNat 7),(OfNat.ofNat 7),(OfNat.ofNat 7),(OfNat.ofNat 7),(OfNat.ofNat 7),(OfNat.ofNat 7),(OfNat.ofNat 7),(OfNat.ofNat 7),(OfNat.ofNat 7),(OfNat.ofNat 7),(OfNat.ofNat 7),(OfNat.ofNat 7)]) ++ ([(OfNat.ofNat 8),(OfNat.ofNat 8),(OfNat.ofNat 8),(OfNat.ofNat 8),(OfNat.ofNat 8),(OfNat.ofNat 8),(OfNat.ofNat 8),(OfNat.ofNat 8),(OfNat.ofNat 8),(OfNat.ofNat 8),(OfNat.ofNat 8),(OfNat.ofNat 8),(OfNat.ofNat 8),(OfNat.ofNat 8),(OfNat.ofNat 8),(OfNat.ofNat 8),(OfNat.ofNat 8),(OfNat.ofNat 8),(OfNat.ofNat 8),(OfNat.ofNat 8),(OfNat.ofNat 8),(OfNat.ofNat 8),(OfNat.ofNat 8),(OfNat.ofNat 8),(OfNat.ofNat 8),(OfNat.ofNat 8),(OfNat.ofNat 8),(OfNat.ofNat 8),(OfNat.ofNat 8),(OfNat.ofNat 8),(OfNat.ofNat 8),(OfNat.ofNat 8),(OfNat.ofNat 8),(OfNat.ofNat 8),(OfNat.ofNat 8),(OfNat.ofNat 8),(OfNat.ofNat 8),(OfNat.ofNat 8),(OfNat.ofNat 8),(OfNat.ofNat 8),(OfNat.ofNat 8),(OfNat.ofNat 8),(OfNat.ofNat 8),(OfNat.ofNat 8),(OfNat.ofNat 8),(OfNat.ofNat 8),(OfNat.ofNat 8),(OfNat.ofNat 8),(OfNat.ofNat 8),(OfNat.ofNat 8),(OfNat.ofNat 8),(OfNat.ofNat 8),(OfNat.ofNat 8),(OfNat.ofNat 8),(OfNat.ofNat 8),(OfNat.ofNat 8),(OfNat.ofNat 8),(OfNat.ofNat 8),(OfNat.ofNat 8),(OfNat.ofNat 8),(OfNat.ofNat 8),(OfNat.ofNat 8),(OfNat.ofNat 8),(OfNat.ofNat 8)] ++ [(OfNat.ofNat 8),(OfNat.ofNat 8),(OfNat.ofNat 8),(OfNat.ofNat 8),(OfNat.ofNat 8),(OfNat.ofNat 8),(OfNat.ofNat 8),(OfNat.ofNat 8),(OfNat.ofNat 8),(OfNat.ofNat 8),(OfNat.ofNat 8),(OfNat.ofNat 8),(OfNat.ofNat 8),(OfNat.ofNat 8),(OfNat.ofNat 8),(OfNat.ofNat 8),(OfNat.ofNat 8),(OfNat.ofNat 8),(OfNat.ofNat 8),(OfNat.ofNat 8),(OfNat.ofNat 8),(OfNat.ofNat 8),(OfNat.ofNat 8),(OfNat.ofNat 8),(OfNat.ofNat 8),(OfNat.ofNat 8),(OfNat.ofNat 8),(OfNat.ofNat 8),(OfNat.ofNat 8),(OfNat.ofNat 8),(OfNat.ofNat 8),(OfNat.ofNat 8),(OfNat.ofNat 8),(OfNat.ofNat 8),(OfNat.ofNat 8),(OfNat.ofNat 8),(OfNat.ofNat 8),(OfNat.ofNat 8),(OfNat.ofNat 8),(OfNat.ofNat 8),(OfNat.ofNat 8),(OfNat.ofNat 8),(OfNat.ofNat 8),(OfNat.ofNat 8),(OfNat.ofNat 8),(OfNat.ofNat 8),(OfNat.ofNat 8),(OfNat.ofNat 8),(OfNat.ofNat 8),(OfNat.ofNat 8),(OfNat.ofNat 8),(OfNat.ofNat 8),(OfNat.ofNat 8),(OfNat.ofNat 8),(OfNat.ofNat 8),(OfNat.ofNat 8),(OfNat.ofNat 8),(OfNat.ofNat 8),(OfNat.ofNat 8),(OfNat.ofNat 8),(OfNat.ofNat 8),(OfNat.ofNat 8),(OfNat.ofNat 8),(OfNat.ofNat 8)]))))
def len64M (x:Int) : Int :=
 (if (x ≥ (4294967296:Int)) then
 (if ((Int.fdiv x (4294967296:Int)) ≥ (65536:Int)) then
 (if ((Int.fdiv (Int.fdiv x (4294967296:Int)) (65536:Int)) ≥ (256:Int)) then
 (w64 ((56:Int) + (w64 (((UInt8.toNat (ByteArray.get! tab8 (Int.toNat (IntKind.wrap IntKind.u8 (Int.fdiv (Int.fdiv (Int.fdiv x (4294967296:Int)) (65536:Int)) (256:Int)))))):Nat):Int)))) else
 (w64 ((48:Int) + (w64 (((UInt8.toNat (ByteArray.get! tab8 (Int.toNat (IntKind.wrap IntKind.u8 (Int.fdiv (Int.fdiv x (4294967296:Int)) (65536:Int)))))):Nat):Int))))) else
 (if ((Int.fdiv x (4294967296:Int)) ≥ (256:Int)) then
 (w64 ((40:Int) + (w64 (((UInt8.toNat (ByteArray.get! tab8 (Int.toNat (IntKind.wrap IntKind.u8 (Int.fdiv (Int.fdiv x (4294967296:Int)) (256:Int)))))):Nat):Int)))) else
 (w64 ((32:Int) + (w64 (((UInt8.toNat (ByteArray.get! tab8 (Int.toNat (IntKind.wrap IntKind.u8 (Int.fdiv x (4294967296:Int)))))):Nat):Int)))))) else
 (if (x ≥ (65536:Int)) then
 (if ((Int.fdiv x (65536:Int)) ≥ (256:Int)) then
 (w64 ((24:Int) + (w64 (((UInt8.toNat (ByteArray.get! tab8 (Int.toNat (IntKind.wrap IntKind.u8 (Int.fdiv (Int.fdiv x (65536:Int)) (256:Int)))))):Nat):Int)))) else
 (w64 ((16:Int) + (w64 (((UInt8.toNat (ByteArray.get! tab8 (Int.toNat (IntKind.wrap IntKind.u8 (Int.fdiv x (65536:Int)))))):Nat):Int))))) else
 (if (x ≥ (256:Int)) then
 (w64 ((8:Int) + (w64 (((UInt8.toNat (ByteArray.get! tab8 (Int.toNat (IntKind.wrap IntKind.u8 (Int.fdiv x (256:Int)))))):Nat):Int)))) else
 (w64 ((0:Int) + (w64 (((UInt8.toNat (ByteArray.get! tab8 (Int.toNat (IntKind.wrap IntKind.u8 x)))):Nat):Int)))))))
def len64M_pre (x:Int) : Prop :=
 (((x ≥ (4294967296:Int)) →
 ((((Int.fdiv x (4294967296:Int)) ≥ (65536:Int)) →
 ((((Int.fdiv (Int.fdiv x (4294967296:Int)) (65536:Int)) ≥ (256:Int)) →
 (((0:Int) ≤ (IntKind.wrap IntKind.u8 (Int.fdiv (Int.fdiv (Int.fdiv x (4294967296:Int)) (65536:Int)) (256:Int)))) ∧ ((IntKind.wrap IntKind.u8 (Int.fdiv (Int.fdiv (Int.fdiv x (4294967296:Int)) (65536:Int)) (256:Int))) < (256:Int)))) ∧
 (¬ ((Int.fdiv (Int.fdiv x (4294967296:Int)) (65536:Int)) ≥ (256:Int)) →
 (((0:Int) ≤ (IntKind.wrap IntKind.u8 (Int.fdiv (Int.fdiv x (4294967296:Int)) (65536:Int)))) ∧ ((IntKind.wrap IntKind.u8 (Int.fdiv (Int.fdiv x (4294967296:Int)) (65536:Int))) < (256:Int)))))) ∧
 (¬ ((Int.fdiv x (4294967296:Int)) ≥ (65536:Int)) →
 ((((Int.fdiv x (4294967296:Int)) ≥ (256:Int)) →
 (((0:Int) ≤ (IntKind.wrap IntKind.u8 (Int.fdiv (Int.fdiv x (4294967296:Int)) (256:Int)))) ∧ ((IntKind.wrap IntKind.u8 (Int.fdiv (Int.fdiv x (4294967296:Int)) (256:Int))) < (256:Int)))) ∧
 (¬ ((Int.fdiv x (4294967296:Int)) ≥ (256:Int)) →
 (((0:Int) ≤ (IntKind.wrap IntKind.u8 (Int.fdiv x (4294967296:Int)))) ∧ ((IntKind.wrap IntKind.u8 (Int.fdiv x (4294967296:Int))) < (256:Int)))))))) ∧
 (¬ (x ≥ (4294967296:Int)) →
 (((x ≥ (65536:Int)) →
 ((((Int.fdiv x (65536:Int)) ≥ (256:Int)) →
 (((0:Int) ≤ (IntKind.wrap IntKind.u8 (Int.fdiv (Int.fdiv x (65536:Int)) (256:Int)))) ∧ ((IntKind.wrap IntKind.u8 (Int.fdiv (Int.fdiv x (65536:Int)) (256:Int))) < (256:Int)))) ∧
 (¬ ((Int.fdiv x (65536:Int)) ≥ (256:Int)) →
 (((0:Int) ≤ (IntKind.wrap IntKind.u8 (Int.fdiv x (65536:Int)))) ∧ ((IntKind.wrap IntKind.u8 (Int.fdiv x (65536:Int))) < (256:Int)))))) ∧
 (¬ (x ≥ (65536:Int)) →
 (((x ≥ (256:Int)) →
 (((0:Int) ≤ (IntKind.wrap IntKind.u8 (Int.fdiv x (256:Int)))) ∧ ((IntKind.wrap IntKind.u8 (Int.fdiv x (256:Int))) < (256:Int)))) ∧
 (¬ (x ≥ (256:Int)) →
 (((0:Int) ≤ (IntKind.wrap IntKind.u8 x)) ∧ ((IntKind.wrap IntKind.u8 x) < (256:Int)))))))))
def len64M_t (x:Int) : Tr Int true :=
 (.i11 (x ≥ (4294967296:Int))
 (.i11 ((Int.fdiv x (4294967296:Int)) ≥ (65536:Int))
 (.i11 ((Int.fdiv (Int.fdiv x (4294967296:Int)) (65536:Int)) ≥ (256:Int))
 (.oR (IntKind.wrap IntKind.u8 (Int.fdiv (Int.fdiv (Int.fdiv x (4294967296:Int)) (65536:Int)) (256:Int))) (256:Int)
 (.ret (w64 ((56:Int) + (w64 (((UInt8.toNat (ByteArray.get! tab8 (tN (IntKind.wrap IntKind.u8 (Int.fdiv (Int.fdiv (Int.fdiv x (4294967296:Int)) (65536:Int)) (256:Int)))))):Nat):Int))))))
 (.oR (IntKind.wrap IntKind.u8 (Int.fdiv (Int.fdiv x (4294967296:Int)) (65536:Int))) (256:Int)
 (.ret (w64 ((48:Int) + (w64 (((UInt8.toNat (ByteArray.get! tab8 (tN (IntKind.wrap IntKind.u8 (Int.fdiv (Int.fdiv x (4294967296:Int)) (65536:Int)))))):Nat):Int)))))))
 (.i11 ((Int.fdiv x (4294967296:Int)) ≥ (256:Int))
 (.oR (IntKind.wrap IntKind.u8 (Int.fdiv (Int.fdiv x (4294967296:Int)) (256:Int))) (256:Int)
 (.ret (w64 ((40:Int) + (w64 (((UInt8.toNat (ByteArray.get! tab8 (tN (IntKind.wrap IntKind.u8 (Int.fdiv (Int.fdiv x (4294967296:Int)) (256:Int)))))):Nat):Int))))))
 (.oR (IntKind.wrap IntKind.u8 (Int.fdiv x (4294967296:Int))) (256:Int)
 (.ret (w64 ((32:Int) + (w64 (((UInt8.toNat (ByteArray.get! tab8 (tN (IntKind.wrap IntKind.u8 (Int.fdiv x (4294967296:Int)))))):Nat):Int))))))))
 (.i11 (x ≥ (65536:Int))
 (.i11 ((Int.fdiv x (65536:Int)) ≥ (256:Int))
 (.oR (IntKind.wrap IntKind.u8 (Int.fdiv (Int.fdiv x (65536:Int)) (256:Int))) (256:Int)
 (.ret (w64 ((24:Int) + (w64 (((UInt8.toNat (ByteArray.get! tab8 (tN (IntKind.wrap IntKind.u8 (Int.fdiv (Int.fdiv x (65536:Int)) (256:Int)))))):Nat):Int))))))
 (.oR (IntKind.wrap IntKind.u8 (Int.fdiv x (65536:Int))) (256:Int)
 (.ret (w64 ((16:Int) + (w64 (((UInt8.toNat (ByteArray.get! tab8 (tN (IntKind.wrap IntKind.u8 (Int.fdiv x (65536:Int)))))):Nat):Int)))))))
 (.i11 (x ≥ (256:Int))
 (.oR (IntKind.wrap IntKind.u8 (Int.fdiv x (256:Int))) (256:Int)
 (.ret (w64 ((8:Int) + (w64 (((UInt8.toNat (ByteArray.get! tab8 (tN (IntKind.wrap IntKind.u8 (Int.fdiv x (256:Int)))))):Nat):Int))))))
 (.oR (IntKind.wrap IntKind.u8 x) (256:Int)
 (.ret (w64 (z0 + (w64 (((UInt8.toNat (ByteArray.get! tab8 (tN (IntKind.wrap IntKind.u8 x)))):Nat):Int)))))))))
abbrev len64M_S : FnS := ⟨(.one (Ty.int IntKind.u64)),(.one yi),len64M_pre,len64M⟩
theorem len64M_ok : SpecOk Try.prog 65 (fnSpec len64M_S) := SpecOk.tr len64M_S len64M_t (fn := Try.f65) tt_ok sp_pivM_ok mixed (by kernel_rfl) (ItsOk.nil _ _) (fun x => LpsOk.nil) (fun x => (by kernel_rfl)) fun x Q => (by kernel_rfl)
def sp_len64M : List (Nat × Ev.Spec) := (65,fnSpec len64M_S) :: sp_pivM
theorem sp_len64M_ok : SpecsOk Try.prog sp_len64M := SpecsOk.add (fn := Try.f65) (by kernel_rfl) len64M_ok sp_pivM_ok
def lenM (x:Int) : Int :=
 (letV (len64M x) fun y =>
 y)
def lenM_pre (x:Int) : Prop :=
 (len64M_pre x)
def lenM_t (x:Int) : Tr Int true :=
 (.fn len64M_S x fun y =>
 (.ret y))
abbrev lenM_S : FnS := ⟨(.one (Ty.int IntKind.u64)),(.one yi),lenM_pre,lenM⟩
theorem lenM_ok : SpecOk Try.prog 52 (fnSpec lenM_S) := SpecOk.tr lenM_S lenM_t (fn := Try.f52) tt_ok sp_len64M_ok mixed (by kernel_rfl) (ItsOk.nil _ _) (fun x => LpsOk.nil) (fun x => (by kernel_rfl)) fun x Q => (by kernel_rfl)
def sp_lenM : List (Nat × Ev.Spec) := (52,fnSpec lenM_S) :: sp_len64M
theorem sp_lenM_ok : SpecsOk Try.prog sp_lenM := SpecsOk.add (fn := Try.f52) (by kernel_rfl) lenM_ok sp_len64M_ok
def npotM (x:Int) : Int :=
 (letV (lenM (IntKind.wrap IntKind.u64 x)) fun y =>
 (IntKind.wrap IntKind.u64 ((1:Int) * ((2:Int) ^ (Min.min (Int.toNat y) 64)))))
def npotM_pre (x:Int) : Prop :=
 ((lenM_pre (IntKind.wrap IntKind.u64 x)) ∧
 letP (lenM (IntKind.wrap IntKind.u64 x)) fun y =>
 ((0:Int) ≤ y))
def npotM_t (x:Int) : Tr Int true :=
 (.fn lenM_S (IntKind.wrap IntKind.u64 x) fun y =>
 (.od (z0 ≤ y)
 (.ret (IntKind.wrap IntKind.u64 (z1 * ((2:Int) ^ (Min.min (tN y) 64)))))))
abbrev npotM_S : FnS := ⟨(.one yi),(.one (Ty.int IntKind.u64)),npotM_pre,npotM⟩
theorem npotM_ok : SpecOk Try.prog 69 (fnSpec npotM_S) := SpecOk.tr npotM_S npotM_t (fn := Try.f69) tt_ok sp_lenM_ok mixed (by kernel_rfl) (ItsOk.nil _ _) (fun x => LpsOk.nil) (fun x => (by kernel_rfl)) fun x Q => (by kernel_rfl)
def sp_npotM : List (Nat × Ev.Spec) := (69,fnSpec npotM_S) :: sp_lenM
theorem sp_npotM_ok : SpecsOk Try.prog sp_npotM := SpecsOk.add (fn := Try.f69) (by kernel_rfl) npotM_ok sp_lenM_ok
def nextM (x:Int) : I2 :=
 ((IntKind.wrap IntKind.u64 (((BitVec.toNat ((BitVec.ofInt 64 (IntKind.wrap IntKind.u64 (((BitVec.toNat ((BitVec.ofInt 64 (IntKind.wrap IntKind.u64 (((BitVec.toNat ((BitVec.ofInt 64 x) ^^^ (BitVec.ofInt 64 (IntKind.wrap IntKind.u64 (x * (8192:Int)))))):Nat):Int))) ^^^ (BitVec.ofInt 64 (Int.fdiv (IntKind.wrap IntKind.u64 (((BitVec.toNat ((BitVec.ofInt 64 x) ^^^ (BitVec.ofInt 64 (IntKind.wrap IntKind.u64 (x * (8192:Int)))))):Nat):Int)) (128:Int))))):Nat):Int))) ^^^ (BitVec.ofInt 64 (IntKind.wrap IntKind.u64 ((IntKind.wrap IntKind.u64 (((BitVec.toNat ((BitVec.ofInt 64 (IntKind.wrap IntKind.u64 (((BitVec.toNat ((BitVec.ofInt 64 x) ^^^ (BitVec.ofInt 64 (IntKind.wrap IntKind.u64 (x * (8192:Int)))))):Nat):Int))) ^^^ (BitVec.ofInt 64 (Int.fdiv (IntKind.wrap IntKind.u64 (((BitVec.toNat ((BitVec.ofInt 64 x) ^^^ (BitVec.ofInt 64 (IntKind.wrap IntKind.u64 (x * (8192:Int)))))):Nat):Int)) (128:Int))))):Nat):Int)) * (131072:Int)))))):Nat):Int)),(IntKind.wrap IntKind.u64 (((BitVec.toNat ((BitVec.ofInt 64 (IntKind.wrap IntKind.u64 (((BitVec.toNat ((BitVec.ofInt 64 (IntKind.wrap IntKind.u64 (((BitVec.toNat ((BitVec.ofInt 64 x) ^^^ (BitVec.ofInt 64 (IntKind.wrap IntKind.u64 (x * (8192:Int)))))):Nat):Int))) ^^^ (BitVec.ofInt 64 (Int.fdiv (IntKind.wrap IntKind.u64 (((BitVec.toNat ((BitVec.ofInt 64 x) ^^^ (BitVec.ofInt 64 (IntKind.wrap IntKind.u64 (x * (8192:Int)))))):Nat):Int)) (128:Int))))):Nat):Int))) ^^^ (BitVec.ofInt 64 (IntKind.wrap IntKind.u64 ((IntKind.wrap IntKind.u64 (((BitVec.toNat ((BitVec.ofInt 64 (IntKind.wrap IntKind.u64 (((BitVec.toNat ((BitVec.ofInt 64 x) ^^^ (BitVec.ofInt 64 (IntKind.wrap IntKind.u64 (x * (8192:Int)))))):Nat):Int))) ^^^ (BitVec.ofInt 64 (Int.fdiv (IntKind.wrap IntKind.u64 (((BitVec.toNat ((BitVec.ofInt 64 x) ^^^ (BitVec.ofInt 64 (IntKind.wrap IntKind.u64 (x * (8192:Int)))))):Nat):Int)) (128:Int))))):Nat):Int)) * (131072:Int)))))):Nat):Int)))
def nextM_pre (_:Int) : Prop := True
def nextM_t (x:Int) : Tr I2 false :=
 (.pn 0 1
 (.ret ((IntKind.wrap IntKind.u64 (((BitVec.toNat ((BitVec.ofInt 64 (IntKind.wrap IntKind.u64 (((BitVec.toNat ((BitVec.ofInt 64 (IntKind.wrap IntKind.u64 (((BitVec.toNat ((BitVec.ofInt 64 x) ^^^ (BitVec.ofInt 64 (IntKind.wrap IntKind.u64 (x * (8192:Int)))))):Nat):Int))) ^^^ (BitVec.ofInt 64 (Int.fdiv (IntKind.wrap IntKind.u64 (((BitVec.toNat ((BitVec.ofInt 64 x) ^^^ (BitVec.ofInt 64 (IntKind.wrap IntKind.u64 (x * (8192:Int)))))):Nat):Int)) (128:Int))))):Nat):Int))) ^^^ (BitVec.ofInt 64 (IntKind.wrap IntKind.u64 ((IntKind.wrap IntKind.u64 (((BitVec.toNat ((BitVec.ofInt 64 (IntKind.wrap IntKind.u64 (((BitVec.toNat ((BitVec.ofInt 64 x) ^^^ (BitVec.ofInt 64 (IntKind.wrap IntKind.u64 (x * (8192:Int)))))):Nat):Int))) ^^^ (BitVec.ofInt 64 (Int.fdiv (IntKind.wrap IntKind.u64 (((BitVec.toNat ((BitVec.ofInt 64 x) ^^^ (BitVec.ofInt 64 (IntKind.wrap IntKind.u64 (x * (8192:Int)))))):Nat):Int)) (128:Int))))):Nat):Int)) * (131072:Int)))))):Nat):Int)),(IntKind.wrap IntKind.u64 (((BitVec.toNat ((BitVec.ofInt 64 (IntKind.wrap IntKind.u64 (((BitVec.toNat ((BitVec.ofInt 64 (IntKind.wrap IntKind.u64 (((BitVec.toNat ((BitVec.ofInt 64 x) ^^^ (BitVec.ofInt 64 (IntKind.wrap IntKind.u64 (x * (8192:Int)))))):Nat):Int))) ^^^ (BitVec.ofInt 64 (Int.fdiv (IntKind.wrap IntKind.u64 (((BitVec.toNat ((BitVec.ofInt 64 x) ^^^ (BitVec.ofInt 64 (IntKind.wrap IntKind.u64 (x * (8192:Int)))))):Nat):Int)) (128:Int))))):Nat):Int))) ^^^ (BitVec.ofInt 64 (IntKind.wrap IntKind.u64 ((IntKind.wrap IntKind.u64 (((BitVec.toNat ((BitVec.ofInt 64 (IntKind.wrap IntKind.u64 (((BitVec.toNat ((BitVec.ofInt 64 x) ^^^ (BitVec.ofInt 64 (IntKind.wrap IntKind.u64 (x * (8192:Int)))))):Nat):Int))) ^^^ (BitVec.ofInt 64 (Int.fdiv (IntKind.wrap IntKind.u64 (((BitVec.toNat ((BitVec.ofInt 64 x) ^^^ (BitVec.ofInt 64 (IntKind.wrap IntKind.u64 (x * (8192:Int)))))):Nat):Int)) (128:Int))))):Nat):Int)) * (131072:Int)))))):Nat):Int)))))
abbrev nextM_S : FnW := ⟨(.ptr (Ty.int IntKind.u64) 112),(.one (Ty.int IntKind.u64)),nextM_pre,nextM⟩
theorem nextM_ok : SpecOk Try.prog 70 (fnSpecW nextM_S) := SpecOk.trW nextM_S nextM_t (fn := Try.f70) tt_ok sp_npotM_ok mixed (by kernel_rfl) (ItsOk.nil _ _) (fun x => LpsOk.nil) (fun x => (by kernel_rfl)) fun x r0 Q => (by kernel_rfl)
def sp_nextM : List (Nat × Ev.Spec) := (70,fnSpecW nextM_S) :: sp_npotM
theorem sp_nextM_ok : SpecsOk Try.prog sp_nextM := SpecsOk.add (fn := Try.f70) (by kernel_rfl) nextM_ok sp_npotM_ok
def brkM_l0_3 (x : ((List Int) × (Int × (Int × ((List I9) × Int))))) : LoopD := ⟨[.env],⟨pvs 67 0 [(0,.v (.one (.full 0))),(1,.v (.one (.i .i64))),(8,.v (.one (.i .i64))),(9,.v (.one (.ptr 3 0))),(10,.v (.one (.i IntKind.u64))),(11,.v (.one (.i .i64)))],[.row yi 1,.row yy9 0,.pin 2,.cells [.i IntKind.u64] 112],3,none,[6],[0,1,5],[4,7,2,3],[(.l yi),.i,.i,.i],[.i x.2.1,.i (w64 (x.2.2.1 - x.2.1)),.l yy9 x.2.2.2.1]⟩,[⟨(.exit 0),.normal,⟨pvs 67 0 [],[.row yi 1,.row yy9 0,.pin 2],3,none,[2],[1],[0],[(.l yi)],[.l yy9 x.2.2.2.1]⟩⟩]⟩
def brkM_l0_3_step (x : ((List Int) × (Int × (Int × ((List I9) × Int))))) (s : ((List Int) × I3)) : ((List Int) × I3) ⊕ (List Int) :=
 (if (s.2.2.2 ≤ (w64 ((w64 (x.2.1 + (w64 ((w64 (Int.tdiv (w64 (x.2.2.1 - x.2.1)) (4:Int))) * (2:Int))))) + (1:Int)))) then
 (letV (nextM s.2.1) fun y =>
 (if ((w64 (IntKind.wrap IntKind.u64 (((BitVec.toNat ((BitVec.ofInt 64 y.1) &&& (BitVec.ofInt 64 (IntKind.wrap IntKind.u64 (s.2.2.1 - (1:Int)))))):Nat):Int))) ≥ (w64 (x.2.2.1 - x.2.1))) then
 (letV (List.set s.1 (Int.toNat s.2.2.2) (List.getD s.1 (Int.toNat (w64 (x.2.1 + (w64 ((w64 (IntKind.wrap IntKind.u64 (((BitVec.toNat ((BitVec.ofInt 64 y.1) &&& (BitVec.ofInt 64 (IntKind.wrap IntKind.u64 (s.2.2.1 - (1:Int)))))):Nat):Int))) - (w64 (x.2.2.1 - x.2.1))))))) (0:Int))) fun y_1 =>
 (letV (List.set y_1 (Int.toNat (w64 (x.2.1 + (w64 ((w64 (IntKind.wrap IntKind.u64 (((BitVec.toNat ((BitVec.ofInt 64 y.1) &&& (BitVec.ofInt 64 (IntKind.wrap IntKind.u64 (s.2.2.1 - (1:Int)))))):Nat):Int))) - (w64 (x.2.2.1 - x.2.1))))))) (List.getD s.1 (Int.toNat s.2.2.2) (0:Int))) fun y_2 =>
 (Sum.inl (y_2,(y.2,(s.2.2.1,(w64 (s.2.2.2 + (1:Int))))))))) else
 (letV (List.set s.1 (Int.toNat s.2.2.2) (List.getD s.1 (Int.toNat (w64 (x.2.1 + (w64 (IntKind.wrap IntKind.u64 (((BitVec.toNat ((BitVec.ofInt 64 y.1) &&& (BitVec.ofInt 64 (IntKind.wrap IntKind.u64 (s.2.2.1 - (1:Int)))))):Nat):Int)))))) (0:Int))) fun y_1 =>
 (letV (List.set y_1 (Int.toNat (w64 (x.2.1 + (w64 (IntKind.wrap IntKind.u64 (((BitVec.toNat ((BitVec.ofInt 64 y.1) &&& (BitVec.ofInt 64 (IntKind.wrap IntKind.u64 (s.2.2.1 - (1:Int)))))):Nat):Int)))))) (List.getD s.1 (Int.toNat s.2.2.2) (0:Int))) fun y_2 =>
 (Sum.inl (y_2,(y.2,(s.2.2.1,(w64 (s.2.2.2 + (1:Int))))))))))) else
 (Sum.inr (s.1)))
def brkM_l0_3_pre (x : ((List Int) × (Int × (Int × ((List I9) × Int))))) (s : ((List Int) × I3)) : Prop :=
 ((s.2.2.2 ≤ (w64 ((w64 (x.2.1 + (w64 ((w64 (Int.tdiv (w64 (x.2.2.1 - x.2.1)) (4:Int))) * (2:Int))))) + (1:Int)))) →
 (letP (nextM s.2.1) fun y =>
 ((((w64 (IntKind.wrap IntKind.u64 (((BitVec.toNat ((BitVec.ofInt 64 y.1) &&& (BitVec.ofInt 64 (IntKind.wrap IntKind.u64 (s.2.2.1 - (1:Int)))))):Nat):Int))) ≥ (w64 (x.2.2.1 - x.2.1))) →
 ((((0:Int) ≤ (w64 (x.2.1 + (w64 ((w64 (IntKind.wrap IntKind.u64 (((BitVec.toNat ((BitVec.ofInt 64 y.1) &&& (BitVec.ofInt 64 (IntKind.wrap IntKind.u64 (s.2.2.1 - (1:Int)))))):Nat):Int))) - (w64 (x.2.2.1 - x.2.1))))))) ∧ ((w64 (x.2.1 + (w64 ((w64 (IntKind.wrap IntKind.u64 (((BitVec.toNat ((BitVec.ofInt 64 y.1) &&& (BitVec.ofInt 64 (IntKind.wrap IntKind.u64 (s.2.2.1 - (1:Int)))))):Nat):Int))) - (w64 (x.2.2.1 - x.2.1)))))) < (s.1.length:Int))) ∧
 (((Int.toNat (w64 (x.2.1 + (w64 ((w64 (IntKind.wrap IntKind.u64 (((BitVec.toNat ((BitVec.ofInt 64 y.1) &&& (BitVec.ofInt 64 (IntKind.wrap IntKind.u64 (s.2.2.1 - (1:Int)))))):Nat):Int))) - (w64 (x.2.2.1 - x.2.1))))))) < (List.length s.1)) ∧
 (((Int.toNat (w64 (x.2.1 + (w64 ((w64 (IntKind.wrap IntKind.u64 (((BitVec.toNat ((BitVec.ofInt 64 y.1) &&& (BitVec.ofInt 64 (IntKind.wrap IntKind.u64 (s.2.2.1 - (1:Int)))))):Nat):Int))) - (w64 (x.2.2.1 - x.2.1))))))) < (List.length s.1)) ∧
 ((((0:Int) ≤ s.2.2.2) ∧ (s.2.2.2 < (s.1.length:Int))) ∧
 (((Int.toNat s.2.2.2) < (List.length s.1)) ∧
 (((Int.toNat s.2.2.2) < (List.length s.1)) ∧
 ((((0:Int) ≤ s.2.2.2) ∧ (s.2.2.2 < (s.1.length:Int))) ∧
 (((Int.toNat s.2.2.2) < (List.length s.1)) ∧
 (((Int.toNat s.2.2.2) < (List.length s.1)) ∧
 (letP (List.set s.1 (Int.toNat s.2.2.2) (List.getD s.1 (Int.toNat (w64 (x.2.1 + (w64 ((w64 (IntKind.wrap IntKind.u64 (((BitVec.toNat ((BitVec.ofInt 64 y.1) &&& (BitVec.ofInt 64 (IntKind.wrap IntKind.u64 (s.2.2.1 - (1:Int)))))):Nat):Int))) - (w64 (x.2.2.1 - x.2.1))))))) (0:Int))) fun y_1 =>
 ((((0:Int) ≤ (w64 (x.2.1 + (w64 ((w64 (IntKind.wrap IntKind.u64 (((BitVec.toNat ((BitVec.ofInt 64 y.1) &&& (BitVec.ofInt 64 (IntKind.wrap IntKind.u64 (s.2.2.1 - (1:Int)))))):Nat):Int))) - (w64 (x.2.2.1 - x.2.1))))))) ∧ ((w64 (x.2.1 + (w64 ((w64 (IntKind.wrap IntKind.u64 (((BitVec.toNat ((BitVec.ofInt 64 y.1) &&& (BitVec.ofInt 64 (IntKind.wrap IntKind.u64 (s.2.2.1 - (1:Int)))))):Nat):Int))) - (w64 (x.2.2.1 - x.2.1)))))) < (y_1.length:Int))) ∧
 (((Int.toNat (w64 (x.2.1 + (w64 ((w64 (IntKind.wrap IntKind.u64 (((BitVec.toNat ((BitVec.ofInt 64 y.1) &&& (BitVec.ofInt 64 (IntKind.wrap IntKind.u64 (s.2.2.1 - (1:Int)))))):Nat):Int))) - (w64 (x.2.2.1 - x.2.1))))))) < (List.length y_1)) ∧
 ((Int.toNat (w64 (x.2.1 + (w64 ((w64 (IntKind.wrap IntKind.u64 (((BitVec.toNat ((BitVec.ofInt 64 y.1) &&& (BitVec.ofInt 64 (IntKind.wrap IntKind.u64 (s.2.2.1 - (1:Int)))))):Nat):Int))) - (w64 (x.2.2.1 - x.2.1))))))) < (List.length y_1))))))))))))))) ∧
 (¬ ((w64 (IntKind.wrap IntKind.u64 (((BitVec.toNat ((BitVec.ofInt 64 y.1) &&& (BitVec.ofInt 64 (IntKind.wrap IntKind.u64 (s.2.2.1 - (1:Int)))))):Nat):Int))) ≥ (w64 (x.2.2.1 - x.2.1))) →
 ((((0:Int) ≤ (w64 (x.2.1 + (w64 (IntKind.wrap IntKind.u64 (((BitVec.toNat ((BitVec.ofInt 64 y.1) &&& (BitVec.ofInt 64 (IntKind.wrap IntKind.u64 (s.2.2.1 - (1:Int)))))):Nat):Int)))))) ∧ ((w64 (x.2.1 + (w64 (IntKind.wrap IntKind.u64 (((BitVec.toNat ((BitVec.ofInt 64 y.1) &&& (BitVec.ofInt 64 (IntKind.wrap IntKind.u64 (s.2.2.1 - (1:Int)))))):Nat):Int))))) < (s.1.length:Int))) ∧
 (((Int.toNat (w64 (x.2.1 + (w64 (IntKind.wrap IntKind.u64 (((BitVec.toNat ((BitVec.ofInt 64 y.1) &&& (BitVec.ofInt 64 (IntKind.wrap IntKind.u64 (s.2.2.1 - (1:Int)))))):Nat):Int)))))) < (List.length s.1)) ∧
 (((Int.toNat (w64 (x.2.1 + (w64 (IntKind.wrap IntKind.u64 (((BitVec.toNat ((BitVec.ofInt 64 y.1) &&& (BitVec.ofInt 64 (IntKind.wrap IntKind.u64 (s.2.2.1 - (1:Int)))))):Nat):Int)))))) < (List.length s.1)) ∧
 ((((0:Int) ≤ s.2.2.2) ∧ (s.2.2.2 < (s.1.length:Int))) ∧
 (((Int.toNat s.2.2.2) < (List.length s.1)) ∧
 (((Int.toNat s.2.2.2) < (List.length s.1)) ∧
 ((((0:Int) ≤ s.2.2.2) ∧ (s.2.2.2 < (s.1.length:Int))) ∧
 (((Int.toNat s.2.2.2) < (List.length s.1)) ∧
 (((Int.toNat s.2.2.2) < (List.length s.1)) ∧
 (letP (List.set s.1 (Int.toNat s.2.2.2) (List.getD s.1 (Int.toNat (w64 (x.2.1 + (w64 (IntKind.wrap IntKind.u64 (((BitVec.toNat ((BitVec.ofInt 64 y.1) &&& (BitVec.ofInt 64 (IntKind.wrap IntKind.u64 (s.2.2.1 - (1:Int)))))):Nat):Int)))))) (0:Int))) fun y_1 =>
 ((((0:Int) ≤ (w64 (x.2.1 + (w64 (IntKind.wrap IntKind.u64 (((BitVec.toNat ((BitVec.ofInt 64 y.1) &&& (BitVec.ofInt 64 (IntKind.wrap IntKind.u64 (s.2.2.1 - (1:Int)))))):Nat):Int)))))) ∧ ((w64 (x.2.1 + (w64 (IntKind.wrap IntKind.u64 (((BitVec.toNat ((BitVec.ofInt 64 y.1) &&& (BitVec.ofInt 64 (IntKind.wrap IntKind.u64 (s.2.2.1 - (1:Int)))))):Nat):Int))))) < (y_1.length:Int))) ∧
 (((Int.toNat (w64 (x.2.1 + (w64 (IntKind.wrap IntKind.u64 (((BitVec.toNat ((BitVec.ofInt 64 y.1) &&& (BitVec.ofInt 64 (IntKind.wrap IntKind.u64 (s.2.2.1 - (1:Int)))))):Nat):Int)))))) < (List.length y_1)) ∧
 ((Int.toNat (w64 (x.2.1 + (w64 (IntKind.wrap IntKind.u64 (((BitVec.toNat ((BitVec.ofInt 64 y.1) &&& (BitVec.ofInt 64 (IntKind.wrap IntKind.u64 (s.2.2.1 - (1:Int)))))):Nat):Int)))))) < (List.length y_1))))))))))))))))))
def brkM_l0_3_t (x : ((List Int) × (Int × (Int × ((List I9) × Int))))) (s : ((List Int) × I3)) : Tr (((List Int) × I3) ⊕ (List Int)) true :=
 (.i10 (s.2.2.2 ≤ (w1 (w64 (x.2.1 + (w64 ((w64 (Int.tdiv (w64 (x.2.2.1 - x.2.1)) (4:Int))) * (2:Int)))))))
 (.fnW0 nextM_S s.2.1 trivial fun y =>
 (.i11 ((w64 (IntKind.wrap IntKind.u64 (((BitVec.toNat ((BitVec.ofInt 64 y.1) &&& (BitVec.ofInt 64 (IntKind.wrap IntKind.u64 (s.2.2.1 - z1))))):Nat):Int))) ≥ (w64 (x.2.2.1 - x.2.1)))
 (.oI2 (w64 (x.2.1 + (w64 ((w64 (IntKind.wrap IntKind.u64 (((BitVec.toNat ((BitVec.ofInt 64 y.1) &&& (BitVec.ofInt 64 (IntKind.wrap IntKind.u64 (s.2.2.1 - z1))))):Nat):Int))) - (w64 (x.2.2.1 - x.2.1)))))) s.1
 (.oI2 s.2.2.2 s.1
 (.oI2 s.2.2.2 s.1
 (.lt (List.set s.1 (tN s.2.2.2) (gI s.1 (w64 (x.2.1 + (w64 ((w64 (IntKind.wrap IntKind.u64 (((BitVec.toNat ((BitVec.ofInt 64 y.1) &&& (BitVec.ofInt 64 (IntKind.wrap IntKind.u64 (s.2.2.1 - z1))))):Nat):Int))) - (w64 (x.2.2.1 - x.2.1)))))))) fun y_1 =>
 (.oI2 (w64 (x.2.1 + (w64 ((w64 (IntKind.wrap IntKind.u64 (((BitVec.toNat ((BitVec.ofInt 64 y.1) &&& (BitVec.ofInt 64 (IntKind.wrap IntKind.u64 (s.2.2.1 - z1))))):Nat):Int))) - (w64 (x.2.2.1 - x.2.1)))))) y_1
 (.lt (List.set y_1 (tN (w64 (x.2.1 + (w64 ((w64 (IntKind.wrap IntKind.u64 (((BitVec.toNat ((BitVec.ofInt 64 y.1) &&& (BitVec.ofInt 64 (IntKind.wrap IntKind.u64 (s.2.2.1 - z1))))):Nat):Int))) - (w64 (x.2.2.1 - x.2.1))))))) (gI s.1 s.2.2.2)) fun y_2 =>
 (.ret (.inl (y_2,(y.2,(s.2.2.1,(w1 s.2.2.2))))))))))))
 (.oI2 (w64 (x.2.1 + (w64 (IntKind.wrap IntKind.u64 (((BitVec.toNat ((BitVec.ofInt 64 y.1) &&& (BitVec.ofInt 64 (IntKind.wrap IntKind.u64 (s.2.2.1 - z1))))):Nat):Int))))) s.1
 (.oI2 s.2.2.2 s.1
 (.oI2 s.2.2.2 s.1
 (.lt (List.set s.1 (tN s.2.2.2) (gI s.1 (w64 (x.2.1 + (w64 (IntKind.wrap IntKind.u64 (((BitVec.toNat ((BitVec.ofInt 64 y.1) &&& (BitVec.ofInt 64 (IntKind.wrap IntKind.u64 (s.2.2.1 - z1))))):Nat):Int))))))) fun y_1 =>
 (.oI2 (w64 (x.2.1 + (w64 (IntKind.wrap IntKind.u64 (((BitVec.toNat ((BitVec.ofInt 64 y.1) &&& (BitVec.ofInt 64 (IntKind.wrap IntKind.u64 (s.2.2.1 - z1))))):Nat):Int))))) y_1
 (.lt (List.set y_1 (tN (w64 (x.2.1 + (w64 (IntKind.wrap IntKind.u64 (((BitVec.toNat ((BitVec.ofInt 64 y.1) &&& (BitVec.ofInt 64 (IntKind.wrap IntKind.u64 (s.2.2.1 - z1))))):Nat):Int)))))) (gI s.1 s.2.2.2)) fun y_2 =>
 (.ret (.inl (y_2,(y.2,(s.2.2.1,(w1 s.2.2.2))))))))))))))
 (.ret (.inr (s.1))))
def brkM (x : ((List Int) × (Int × (Int × ((List I9) × Int))))) : (Bool × ((List Int) × (Bool × (Bool × Bool)))) :=
 (if ((w64 (x.2.2.1 - x.2.1)) ≥ (8:Int)) then
 (letV (npotM (w64 (x.2.2.1 - x.2.1))) fun y =>
 (letV (run (brkM_l0_3_step x) (x.1,((IntKind.wrap IntKind.u64 (w64 (x.2.2.1 - x.2.1))),(y,(w64 ((w64 (x.2.1 + (w64 ((w64 (Int.tdiv (w64 (x.2.2.1 - x.2.1)) (4:Int))) * (2:Int))))) - (1:Int))))))) fun r =>
 (false,(r,(false,(false,false)))))) else
 (false,(x.1,(false,(false,false)))))
def brkM_pre (x : ((List Int) × (Int × (Int × ((List I9) × Int))))) : Prop :=
 ((((w64 (x.2.2.1 - x.2.1)) ≥ (8:Int)) →
 ((npotM_pre (w64 (x.2.2.1 - x.2.1))) ∧
 letP (npotM (w64 (x.2.2.1 - x.2.1))) fun y =>
 (Term (brkM_l0_3_step x) (brkM_l0_3_pre x) (x.1,((IntKind.wrap IntKind.u64 (w64 (x.2.2.1 - x.2.1))),(y,(w64 ((w64 (x.2.1 + (w64 ((w64 (Int.tdiv (w64 (x.2.2.1 - x.2.1)) (4:Int))) * (2:Int))))) - (1:Int)))))) ∧
 letP (run (brkM_l0_3_step x) (x.1,((IntKind.wrap IntKind.u64 (w64 (x.2.2.1 - x.2.1))),(y,(w64 ((w64 (x.2.1 + (w64 ((w64 (Int.tdiv (w64 (x.2.2.1 - x.2.1)) (4:Int))) * (2:Int))))) - (1:Int))))))) fun r =>
 ((List.length r) = (List.length x.1))))) ∧
 (¬ ((w64 (x.2.2.1 - x.2.1)) ≥ (8:Int)) →
 ((List.length x.1) = (List.length x.1))))
def brkM_t (x : ((List Int) × (Int × (Int × ((List I9) × Int))))) : Tr (Bool × ((List Int) × (Bool × (Bool × Bool)))) true :=
 (.i11 ((w64 (x.2.2.1 - x.2.1)) ≥ (8:Int))
 (.fn npotM_S (w64 (x.2.2.1 - x.2.1)) fun y =>
 (LoopD.lp (brkM_l0_3 x) (brkM_l0_3_t x) (x.1,((IntKind.wrap IntKind.u64 (w64 (x.2.2.1 - x.2.1))),(y,(wm (w64 (x.2.1 + (w64 ((w64 (Int.tdiv (w64 (x.2.2.1 - x.2.1)) (4:Int))) * (2:Int))))))))) fun r =>
 (.pn 0 2
 (.og ((decide ((List.length r) = (List.length x.1))) && true) ((List.length r) = (List.length x.1)) (fun h => (and_t (decide_eq_true h) rfl))
 (.ret (false,(r,(false,(false,false)))))))))
 (.pn 0 2
 (.og ((decide ((List.length x.1) = (List.length x.1))) && true) ((List.length x.1) = (List.length x.1)) (fun h => (and_t (decide_eq_true h) rfl))
 (.ret (false,(x.1,(false,(false,false))))))))
abbrev brkM_S : FnW := ⟨(.pair (.row yi) (.pair (.val (.one yi)) (.pair (.val (.one yi)) (.val cmpP)))),.none,brkM_pre,brkM⟩
theorem brkM_ok : SpecOk Try.prog 58 (fnSpecW brkM_S) := SpecOk.trW brkM_S brkM_t (fn := Try.f58) tt_ok sp_nextM_ok mixed (by kernel_rfl) (ItsOk.nil _ _) (fun x => (LpsOk.tr tt_ok (SpecsOk.ctxI sp_nextM_ok (ItsOk.nil _ _)) mixed 0 (brkM_l0_3 x) (brkM_l0_3_t x) LpsOk.nil (by kernel_rfl) fun g s Q => (by kernel_rfl))) (fun x => (by kernel_rfl)) fun x r0 Q => (by kernel_rfl)
def sp_brkM : List (Nat × Ev.Spec) := (58,fnSpecW brkM_S) :: sp_nextM
theorem sp_brkM_ok : SpecsOk Try.prog sp_brkM := SpecsOk.add (fn := Try.f58) (by kernel_rfl) brkM_ok sp_nextM_ok
def partEM_l2_3 (x : ((List Int) × (Int × (Int × (Int × ((List I9) × Int)))))) : LoopD := ⟨[.env],⟨pvs 90 0 [(0,.v (.one (.full 0))),(1,.v (.one (.i .i64))),(4,.v (.one (.mv 37 true [.full 1,.ext]))),(11,.v (.one (.i .i64))),(12,.v (.one (.i .i64)))],[.row yi 1,.row yy9 0,.pin 2],3,none,[6],[0,1,5],[4,2,3],[(.l yi),.i,.i],[.i x.2.1,.v (.int .i64 x.2.2.2.2.2),.l yy9 x.2.2.2.2.1]⟩,[⟨(.exit 2),.normal,⟨pvs 90 0 [(0,.v (.one (.full 0))),(1,.v (.one (.i .i64))),(4,.v (.one (.mv 37 true [.full 1,.ext]))),(11,.v (.one (.i .i64))),(12,.v (.one (.i .i64)))],[.row yi 1,.row yy9 0,.pin 2],3,none,[6],[0,1,5],[4,2,3],[(.l yi),.i,.i],[.i x.2.1,.v (.int .i64 x.2.2.2.2.2),.l yy9 x.2.2.2.2.1]⟩⟩]⟩
def partEM_l2_3_step (x : ((List Int) × (Int × (Int × (Int × ((List I9) × Int)))))) (s : ((List Int) × I2)) : ((List Int) × I2) ⊕ ((List Int) × I2) :=
 (if (s.2.1 ≤ s.2.2) then
 (letV (byM (x.2.2.2.2,((List.getD s.1 (Int.toNat x.2.1) (0:Int)),(List.getD s.1 (Int.toNat s.2.1) (0:Int))))) fun y =>
 (if ((!(decide (y < (0:Int)))) = true) then
 (Sum.inl (s.1,((w64 (s.2.1 + (1:Int))),s.2.2))) else
 (Sum.inr ((s.1,(s.2.1,s.2.2)))))) else
 (Sum.inr ((s.1,(s.2.1,s.2.2)))))
def partEM_l2_3_pre (x : ((List Int) × (Int × (Int × (Int × ((List I9) × Int)))))) (s : ((List Int) × I2)) : Prop :=
 ((s.2.1 ≤ s.2.2) →
 ((((0:Int) ≤ x.2.1) ∧ (x.2.1 < (s.1.length:Int))) ∧
 (((Int.toNat x.2.1) < (List.length s.1)) ∧
 (((Int.toNat x.2.1) < (List.length s.1)) ∧
 ((((0:Int) ≤ s.2.1) ∧ (s.2.1 < (s.1.length:Int))) ∧
 (((Int.toNat s.2.1) < (List.length s.1)) ∧
 (((Int.toNat s.2.1) < (List.length s.1)) ∧
 (byM_pre (x.2.2.2.2,((List.getD s.1 (Int.toNat x.2.1) (0:Int)),(List.getD s.1 (Int.toNat s.2.1) (0:Int))))))))))))
def partEM_l2_3_t (x : ((List Int) × (Int × (Int × (Int × ((List I9) × Int)))))) (s : ((List Int) × I2)) : Tr (((List Int) × I2) ⊕ ((List Int) × I2)) true :=
 (.i10 (s.2.1 ≤ s.2.2)
 (.oI2 x.2.1 s.1
 (.oI2 s.2.1 s.1
 (.fn byM_S (x.2.2.2.2,((gI s.1 x.2.1),(gI s.1 s.2.1))) fun y =>
 (.b00 (!(decide (y < z0)))
 (.ret (.inl (s.1,((w1 s.2.1),s.2.2))))
 (.ret (.inr ((s.1,(s.2.1,s.2.2)))))))))
 (.ret (.inr ((s.1,(s.2.1,s.2.2))))))
def partEM_l4_3 (x : ((List Int) × (Int × (Int × (Int × ((List I9) × Int)))))) : LoopD := ⟨[.env],⟨pvs 90 0 [(0,.v (.one (.full 0))),(1,.v (.one (.i .i64))),(4,.v (.one (.mv 37 true [.full 1,.ext]))),(11,.v (.one (.i .i64))),(12,.v (.one (.i .i64)))],[.row yi 1,.row yy9 0,.pin 2],3,none,[6],[0,1,5],[4,2,3],[(.l yi),.i,.i],[.i x.2.1,.v (.int .i64 x.2.2.2.2.2),.l yy9 x.2.2.2.2.1]⟩,[⟨(.exit 4),.normal,⟨pvs 90 0 [(0,.v (.one (.full 0))),(1,.v (.one (.i .i64))),(4,.v (.one (.mv 37 true [.full 1,.ext]))),(11,.v (.one (.i .i64))),(12,.v (.one (.i .i64)))],[.row yi 1,.row yy9 0,.pin 2],3,none,[6],[0,1,5],[4,2,3],[(.l yi),.i,.i],[.i x.2.1,.v (.int .i64 x.2.2.2.2.2),.l yy9 x.2.2.2.2.1]⟩⟩]⟩
def partEM_l4_3_step (x : ((List Int) × (Int × (Int × (Int × ((List I9) × Int)))))) (s : ((List Int) × I2)) : ((List Int) × I2) ⊕ ((List Int) × I2) :=
 (if (s.2.1 ≤ s.2.2) then
 (letV (byM (x.2.2.2.2,((List.getD s.1 (Int.toNat x.2.1) (0:Int)),(List.getD s.1 (Int.toNat s.2.2) (0:Int))))) fun y =>
 (if (y < (0:Int)) then
 (Sum.inl (s.1,(s.2.1,(w64 (s.2.2 - (1:Int)))))) else
 (Sum.inr ((s.1,(s.2.1,s.2.2)))))) else
 (Sum.inr ((s.1,(s.2.1,s.2.2)))))
def partEM_l4_3_pre (x : ((List Int) × (Int × (Int × (Int × ((List I9) × Int)))))) (s : ((List Int) × I2)) : Prop :=
 ((s.2.1 ≤ s.2.2) →
 ((((0:Int) ≤ x.2.1) ∧ (x.2.1 < (s.1.length:Int))) ∧
 (((Int.toNat x.2.1) < (List.length s.1)) ∧
 (((Int.toNat x.2.1) < (List.length s.1)) ∧
 ((((0:Int) ≤ s.2.2) ∧ (s.2.2 < (s.1.length:Int))) ∧
 (((Int.toNat s.2.2) < (List.length s.1)) ∧
 (((Int.toNat s.2.2) < (List.length s.1)) ∧
 (byM_pre (x.2.2.2.2,((List.getD s.1 (Int.toNat x.2.1) (0:Int)),(List.getD s.1 (Int.toNat s.2.2) (0:Int))))))))))))
def partEM_l4_3_t (x : ((List Int) × (Int × (Int × (Int × ((List I9) × Int)))))) (s : ((List Int) × I2)) : Tr (((List Int) × I2) ⊕ ((List Int) × I2)) true :=
 (.i10 (s.2.1 ≤ s.2.2)
 (.oI2 x.2.1 s.1
 (.oI2 s.2.2 s.1
 (.fn byM_S (x.2.2.2.2,((gI s.1 x.2.1),(gI s.1 s.2.2))) fun y =>
 (.i00 (y < z0)
 (.ret (.inl (s.1,(s.2.1,(wm s.2.2)))))
 (.ret (.inr ((s.1,(s.2.1,s.2.2)))))))))
 (.ret (.inr ((s.1,(s.2.1,s.2.2))))))
def partEM_l0_3 (x : ((List Int) × (Int × (Int × (Int × ((List I9) × Int)))))) : LoopD := ⟨[.env],⟨pvs 90 0 [(0,.v (.one (.full 0))),(1,.v (.one (.i .i64))),(4,.v (.one (.mv 37 true [.full 1,.ext]))),(11,.v (.one (.i .i64))),(12,.v (.one (.i .i64)))],[.row yi 1,.row yy9 0,.pin 2],3,none,[6],[0,1,5],[4,2,3],[(.l yi),.i,.i],[.i x.2.1,.v (.int .i64 x.2.2.2.2.2),.l yy9 x.2.2.2.2.1]⟩,[⟨(.exit 0),.normal,⟨pvs 90 0 [(11,.v (.one (.i .i64)))],[.row yi 1,.row yy9 0,.pin 2],3,none,[3],[2],[1,0],[(.l yi),.i],[.l yy9 x.2.2.2.2.1]⟩⟩]⟩
def partEM_l0_3_step (x : ((List Int) × (Int × (Int × (Int × ((List I9) × Int)))))) (s : ((List Int) × I2)) : ((List Int) × I2) ⊕ ((List Int) × Int) :=
 (letV (run (partEM_l2_3_step x) (s.1,(s.2.1,s.2.2))) fun r =>
 (letV (run (partEM_l4_3_step x) (r.1,(r.2.1,r.2.2))) fun r_1 =>
 (if (r_1.2.1 > r_1.2.2) then
 (Sum.inr ((r_1.1,r_1.2.1))) else
 (letV (List.set r_1.1 (Int.toNat r_1.2.1) (List.getD r_1.1 (Int.toNat r_1.2.2) (0:Int))) fun y =>
 (letV (List.set y (Int.toNat r_1.2.2) (List.getD r_1.1 (Int.toNat r_1.2.1) (0:Int))) fun y_1 =>
 (Sum.inl (y_1,((w64 (r_1.2.1 + (1:Int))),(w64 (r_1.2.2 - (1:Int)))))))))))
def partEM_l0_3_pre (x : ((List Int) × (Int × (Int × (Int × ((List I9) × Int)))))) (s : ((List Int) × I2)) : Prop :=
 (Term (partEM_l2_3_step x) (partEM_l2_3_pre x) (s.1,(s.2.1,s.2.2)) ∧
 letP (run (partEM_l2_3_step x) (s.1,(s.2.1,s.2.2))) fun r =>
 (Term (partEM_l4_3_step x) (partEM_l4_3_pre x) (r.1,(r.2.1,r.2.2)) ∧
 letP (run (partEM_l4_3_step x) (r.1,(r.2.1,r.2.2))) fun r_1 =>
 (¬ (r_1.2.1 > r_1.2.2) →
 ((((0:Int) ≤ r_1.2.2) ∧ (r_1.2.2 < (r_1.1.length:Int))) ∧
 (((Int.toNat r_1.2.2) < (List.length r_1.1)) ∧
 (((Int.toNat r_1.2.2) < (List.length r_1.1)) ∧
 ((((0:Int) ≤ r_1.2.1) ∧ (r_1.2.1 < (r_1.1.length:Int))) ∧
 (((Int.toNat r_1.2.1) < (List.length r_1.1)) ∧
 (((Int.toNat r_1.2.1) < (List.length r_1.1)) ∧
 ((((0:Int) ≤ r_1.2.1) ∧ (r_1.2.1 < (r_1.1.length:Int))) ∧
 (((Int.toNat r_1.2.1) < (List.length r_1.1)) ∧
 (((Int.toNat r_1.2.1) < (List.length r_1.1)) ∧
 (letP (List.set r_1.1 (Int.toNat r_1.2.1) (List.getD r_1.1 (Int.toNat r_1.2.2) (0:Int))) fun y =>
 ((((0:Int) ≤ r_1.2.2) ∧ (r_1.2.2 < (y.length:Int))) ∧
 (((Int.toNat r_1.2.2) < (List.length y)) ∧
 ((Int.toNat r_1.2.2) < (List.length y)))))))))))))))))
def partEM_l0_3_t (x : ((List Int) × (Int × (Int × (Int × ((List I9) × Int)))))) (s : ((List Int) × I2)) : Tr (((List Int) × I2) ⊕ ((List Int) × Int)) true :=
 (LoopD.lp (partEM_l2_3 x) (partEM_l2_3_t x) (s.1,(s.2.1,s.2.2)) fun r =>
 (LoopD.lp (partEM_l4_3 x) (partEM_l4_3_t x) (r.1,(r.2.1,r.2.2)) fun r_1 =>
 (.i01 (r_1.2.1 > r_1.2.2)
 (.ret (.inr ((r_1.1,r_1.2.1))))
 (.oI2 r_1.2.2 r_1.1
 (.oI2 r_1.2.1 r_1.1
 (.oI2 r_1.2.1 r_1.1
 (.lt (List.set r_1.1 (tN r_1.2.1) (gI r_1.1 r_1.2.2)) fun y =>
 (.oI2 r_1.2.2 y
 (.lt (List.set y (tN r_1.2.2) (gI r_1.1 r_1.2.1)) fun y_1 =>
 (.ret (.inl (y_1,((w1 r_1.2.1),(wm r_1.2.2))))))))))))))
def partEM (x : ((List Int) × (Int × (Int × (Int × ((List I9) × Int)))))) : (Int × ((List Int) × (Bool × (Bool × (Bool × Bool))))) :=
 (letV (List.set x.1 (Int.toNat x.2.1) (List.getD x.1 (Int.toNat x.2.2.2.1) (0:Int))) fun y =>
 (letV (List.set y (Int.toNat x.2.2.2.1) (List.getD x.1 (Int.toNat x.2.1) (0:Int))) fun y_1 =>
 (letV (run (partEM_l0_3_step x) (y_1,((w64 (x.2.1 + (1:Int))),(w64 (x.2.2.1 - (1:Int)))))) fun r =>
 (r.2,(r.1,(false,(false,(false,false))))))))
def partEM_pre (x : ((List Int) × (Int × (Int × (Int × ((List I9) × Int)))))) : Prop :=
 ((((0:Int) ≤ x.2.2.2.1) ∧ (x.2.2.2.1 < (x.1.length:Int))) ∧
 (((Int.toNat x.2.2.2.1) < (List.length x.1)) ∧
 (((Int.toNat x.2.2.2.1) < (List.length x.1)) ∧
 ((((0:Int) ≤ x.2.1) ∧ (x.2.1 < (x.1.length:Int))) ∧
 (((Int.toNat x.2.1) < (List.length x.1)) ∧
 (((Int.toNat x.2.1) < (List.length x.1)) ∧
 ((((0:Int) ≤ x.2.1) ∧ (x.2.1 < (x.1.length:Int))) ∧
 (((Int.toNat x.2.1) < (List.length x.1)) ∧
 (((Int.toNat x.2.1) < (List.length x.1)) ∧
 (letP (List.set x.1 (Int.toNat x.2.1) (List.getD x.1 (Int.toNat x.2.2.2.1) (0:Int))) fun y =>
 ((((0:Int) ≤ x.2.2.2.1) ∧ (x.2.2.2.1 < (y.length:Int))) ∧
 (((Int.toNat x.2.2.2.1) < (List.length y)) ∧
 (((Int.toNat x.2.2.2.1) < (List.length y)) ∧
 (letP (List.set y (Int.toNat x.2.2.2.1) (List.getD x.1 (Int.toNat x.2.1) (0:Int))) fun y_1 =>
 (Term (partEM_l0_3_step x) (partEM_l0_3_pre x) (y_1,((w64 (x.2.1 + (1:Int))),(w64 (x.2.2.1 - (1:Int))))) ∧
 letP (run (partEM_l0_3_step x) (y_1,((w64 (x.2.1 + (1:Int))),(w64 (x.2.2.1 - (1:Int)))))) fun r =>
 ((List.length r.1) = (List.length x.1)))))))))))))))))
def partEM_t (x : ((List Int) × (Int × (Int × (Int × ((List I9) × Int)))))) : Tr (Int × ((List Int) × (Bool × (Bool × (Bool × Bool))))) true :=
 (.oI2 x.2.2.2.1 x.1
 (.oI2 x.2.1 x.1
 (.oI2 x.2.1 x.1
 (.lt (List.set x.1 (tN x.2.1) (gI x.1 x.2.2.2.1)) fun y =>
 (.oI2 x.2.2.2.1 y
 (.lt (List.set y (tN x.2.2.2.1) (gI x.1 x.2.1)) fun y_1 =>
 (LoopD.lp (partEM_l0_3 x) (partEM_l0_3_t x) (y_1,((w1 x.2.1),(wm x.2.2.1))) fun r =>
 (.pn 0 2
 (.og ((decide ((List.length r.1) = (List.length x.1))) && true) ((List.length r.1) = (List.length x.1)) (fun h => (and_t (decide_eq_true h) rfl))
 (.ret (r.2,(r.1,(false,(false,(false,false)))))))))))))))
abbrev partEM_S : FnW := ⟨(.pair (.row yi) (.pair (.val (.one yi)) (.pair (.val (.one yi)) (.pair (.val (.one yi)) (.val cmpP))))),(.one yi),partEM_pre,partEM⟩
theorem partEM_ok : SpecOk Try.prog 62 (fnSpecW partEM_S) := SpecOk.trW partEM_S partEM_t (fn := Try.f62) tt_ok sp_brkM_ok mixed (by kernel_rfl) (ItsOk.nil _ _) (fun x => (LpsOk.tr tt_ok (SpecsOk.ctxI sp_brkM_ok (ItsOk.nil _ _)) mixed 0 (partEM_l0_3 x) (partEM_l0_3_t x) (LpsOk.tr tt_ok (SpecsOk.ctxI sp_brkM_ok (ItsOk.nil _ _)) mixed 2 (partEM_l2_3 x) (partEM_l2_3_t x) (LpsOk.tr tt_ok (SpecsOk.ctxI sp_brkM_ok (ItsOk.nil _ _)) mixed 4 (partEM_l4_3 x) (partEM_l4_3_t x) LpsOk.nil (by kernel_rfl) fun g s Q => (by kernel_rfl)) (by kernel_rfl) fun g s Q => (by kernel_rfl)) (by kernel_rfl) fun g s Q => (by kernel_rfl))) (fun x => (by kernel_rfl)) fun x r0 Q => (by kernel_rfl)
def sp_partEM : List (Nat × Ev.Spec) := (62,fnSpecW partEM_S) :: sp_brkM
theorem sp_partEM_ok : SpecsOk Try.prog sp_partEM := SpecsOk.add (fn := Try.f62) (by kernel_rfl) partEM_ok sp_brkM_ok
def partM_l0_3 (x : ((List Int) × (Int × (Int × (Int × ((List I9) × Int)))))) : LoopD := ⟨[.env],⟨pvs 178 0 [(0,.v (.one (.full 0))),(1,.v (.one (.i .i64))),(4,.v (.one (.mv 37 true [.full 1,.ext]))),(12,.v (.one (.i .i64))),(13,.v (.one (.i .i64)))],[.row yi 1,.row yy9 0,.pin 2],3,none,[6],[0,1,3,5],[4,2],[(.l yi),.i],[.i x.2.1,.v (.int .i64 x.2.2.2.2.2),.i (w64 (x.2.2.1 - (1:Int))),.l yy9 x.2.2.2.2.1]⟩,[⟨(.exit 0),.normal,⟨pvs 178 0 [(0,.v (.one (.full 0))),(1,.v (.one (.i .i64))),(4,.v (.one (.mv 37 true [.full 1,.ext]))),(12,.v (.one (.i .i64))),(13,.v (.one (.i .i64)))],[.row yi 1,.row yy9 0,.pin 2],3,none,[6],[0,1,3,5],[4,2],[(.l yi),.i],[.i x.2.1,.v (.int .i64 x.2.2.2.2.2),.i (w64 (x.2.2.1 - (1:Int))),.l yy9 x.2.2.2.2.1]⟩⟩]⟩
def partM_l0_3_step (x : ((List Int) × (Int × (Int × (Int × ((List I9) × Int)))))) (s : ((List Int) × Int)) : ((List Int) × Int) ⊕ ((List Int) × Int) :=
 (if (s.2 ≤ (w64 (x.2.2.1 - (1:Int)))) then
 (letV (byM (x.2.2.2.2,((List.getD s.1 (Int.toNat s.2) (0:Int)),(List.getD s.1 (Int.toNat x.2.1) (0:Int))))) fun y =>
 (if (y < (0:Int)) then
 (Sum.inl (s.1,(w64 (s.2 + (1:Int))))) else
 (Sum.inr ((s.1,s.2))))) else
 (Sum.inr ((s.1,s.2))))
def partM_l0_3_pre (x : ((List Int) × (Int × (Int × (Int × ((List I9) × Int)))))) (s : ((List Int) × Int)) : Prop :=
 ((s.2 ≤ (w64 (x.2.2.1 - (1:Int)))) →
 ((((0:Int) ≤ s.2) ∧ (s.2 < (s.1.length:Int))) ∧
 (((Int.toNat s.2) < (List.length s.1)) ∧
 (((Int.toNat s.2) < (List.length s.1)) ∧
 ((((0:Int) ≤ x.2.1) ∧ (x.2.1 < (s.1.length:Int))) ∧
 (((Int.toNat x.2.1) < (List.length s.1)) ∧
 (((Int.toNat x.2.1) < (List.length s.1)) ∧
 (byM_pre (x.2.2.2.2,((List.getD s.1 (Int.toNat s.2) (0:Int)),(List.getD s.1 (Int.toNat x.2.1) (0:Int))))))))))))
def partM_l0_3_t (x : ((List Int) × (Int × (Int × (Int × ((List I9) × Int)))))) (s : ((List Int) × Int)) : Tr (((List Int) × Int) ⊕ ((List Int) × Int)) true :=
 (.i10 (s.2 ≤ (wm x.2.2.1))
 (.oI2 s.2 s.1
 (.oI2 x.2.1 s.1
 (.fn byM_S (x.2.2.2.2,((gI s.1 s.2),(gI s.1 x.2.1))) fun y =>
 (.i00 (y < z0)
 (.ret (.inl (s.1,(w1 s.2))))
 (.ret (.inr ((s.1,s.2))))))))
 (.ret (.inr ((s.1,s.2)))))
def partM_l2_3 (x : ((List Int) × (Int × (Int × (Int × ((List I9) × Int)))))) : LoopD := ⟨[.env],⟨pvs 178 0 [(0,.v (.one (.full 0))),(1,.v (.one (.i .i64))),(4,.v (.one (.mv 37 true [.full 1,.ext]))),(12,.v (.one (.i .i64))),(13,.v (.one (.i .i64)))],[.row yi 1,.row yy9 0,.pin 2],3,none,[6],[0,1,5],[4,2,3],[(.l yi),.i,.i],[.i x.2.1,.v (.int .i64 x.2.2.2.2.2),.l yy9 x.2.2.2.2.1]⟩,[⟨(.exit 2),.normal,⟨pvs 178 0 [(0,.v (.one (.full 0))),(1,.v (.one (.i .i64))),(4,.v (.one (.mv 37 true [.full 1,.ext]))),(12,.v (.one (.i .i64))),(13,.v (.one (.i .i64)))],[.row yi 1,.row yy9 0,.pin 2],3,none,[6],[0,1,5],[4,2,3],[(.l yi),.i,.i],[.i x.2.1,.v (.int .i64 x.2.2.2.2.2),.l yy9 x.2.2.2.2.1]⟩⟩]⟩
def partM_l2_3_step (x : ((List Int) × (Int × (Int × (Int × ((List I9) × Int)))))) (s : ((List Int) × I2)) : ((List Int) × I2) ⊕ ((List Int) × I2) :=
 (if (s.2.1 ≤ s.2.2) then
 (letV (byM (x.2.2.2.2,((List.getD s.1 (Int.toNat s.2.2) (0:Int)),(List.getD s.1 (Int.toNat x.2.1) (0:Int))))) fun y =>
 (if ((!(decide (y < (0:Int)))) = true) then
 (Sum.inl (s.1,(s.2.1,(w64 (s.2.2 - (1:Int)))))) else
 (Sum.inr ((s.1,(s.2.1,s.2.2)))))) else
 (Sum.inr ((s.1,(s.2.1,s.2.2)))))
def partM_l2_3_pre (x : ((List Int) × (Int × (Int × (Int × ((List I9) × Int)))))) (s : ((List Int) × I2)) : Prop :=
 ((s.2.1 ≤ s.2.2) →
 ((((0:Int) ≤ s.2.2) ∧ (s.2.2 < (s.1.length:Int))) ∧
 (((Int.toNat s.2.2) < (List.length s.1)) ∧
 (((Int.toNat s.2.2) < (List.length s.1)) ∧
 ((((0:Int) ≤ x.2.1) ∧ (x.2.1 < (s.1.length:Int))) ∧
 (((Int.toNat x.2.1) < (List.length s.1)) ∧
 (((Int.toNat x.2.1) < (List.length s.1)) ∧
 (byM_pre (x.2.2.2.2,((List.getD s.1 (Int.toNat s.2.2) (0:Int)),(List.getD s.1 (Int.toNat x.2.1) (0:Int))))))))))))
def partM_l2_3_t (x : ((List Int) × (Int × (Int × (Int × ((List I9) × Int)))))) (s : ((List Int) × I2)) : Tr (((List Int) × I2) ⊕ ((List Int) × I2)) true :=
 (.i10 (s.2.1 ≤ s.2.2)
 (.oI2 s.2.2 s.1
 (.oI2 x.2.1 s.1
 (.fn byM_S (x.2.2.2.2,((gI s.1 s.2.2),(gI s.1 x.2.1))) fun y =>
 (.b00 (!(decide (y < z0)))
 (.ret (.inl (s.1,(s.2.1,(wm s.2.2)))))
 (.ret (.inr ((s.1,(s.2.1,s.2.2)))))))))
 (.ret (.inr ((s.1,(s.2.1,s.2.2))))))
def partM_l6_3 (x : ((List Int) × (Int × (Int × (Int × ((List I9) × Int)))))) : LoopD := ⟨[.env],⟨pvs 178 0 [(0,.v (.one (.full 0))),(1,.v (.one (.i .i64))),(4,.v (.one (.mv 37 true [.full 1,.ext]))),(12,.v (.one (.i .i64))),(13,.v (.one (.i .i64)))],[.row yi 1,.row yy9 0,.pin 2],3,none,[6],[0,1,5],[4,2,3],[(.l yi),.i,.i],[.i x.2.1,.v (.int .i64 x.2.2.2.2.2),.l yy9 x.2.2.2.2.1]⟩,[⟨(.exit 6),.normal,⟨pvs 178 0 [(0,.v (.one (.full 0))),(1,.v (.one (.i .i64))),(4,.v (.one (.mv 37 true [.full 1,.ext]))),(12,.v (.one (.i .i64))),(13,.v (.one (.i .i64)))],[.row yi 1,.row yy9 0,.pin 2],3,none,[6],[0,1,5],[4,2,3],[(.l yi),.i,.i],[.i x.2.1,.v (.int .i64 x.2.2.2.2.2),.l yy9 x.2.2.2.2.1]⟩⟩]⟩
def partM_l6_3_step (x : ((List Int) × (Int × (Int × (Int × ((List I9) × Int)))))) (s : ((List Int) × I2)) : ((List Int) × I2) ⊕ ((List Int) × I2) :=
 (if (s.2.1 ≤ s.2.2) then
 (letV (byM (x.2.2.2.2,((List.getD s.1 (Int.toNat s.2.1) (0:Int)),(List.getD s.1 (Int.toNat x.2.1) (0:Int))))) fun y =>
 (if (y < (0:Int)) then
 (Sum.inl (s.1,((w64 (s.2.1 + (1:Int))),s.2.2))) else
 (Sum.inr ((s.1,(s.2.1,s.2.2)))))) else
 (Sum.inr ((s.1,(s.2.1,s.2.2)))))
def partM_l6_3_pre (x : ((List Int) × (Int × (Int × (Int × ((List I9) × Int)))))) (s : ((List Int) × I2)) : Prop :=
 ((s.2.1 ≤ s.2.2) →
 ((((0:Int) ≤ s.2.1) ∧ (s.2.1 < (s.1.length:Int))) ∧
 (((Int.toNat s.2.1) < (List.length s.1)) ∧
 (((Int.toNat s.2.1) < (List.length s.1)) ∧
 ((((0:Int) ≤ x.2.1) ∧ (x.2.1 < (s.1.length:Int))) ∧
 (((Int.toNat x.2.1) < (List.length s.1)) ∧
 (((Int.toNat x.2.1) < (List.length s.1)) ∧
 (byM_pre (x.2.2.2.2,((List.getD s.1 (Int.toNat s.2.1) (0:Int)),(List.getD s.1 (Int.toNat x.2.1) (0:Int))))))))))))
def partM_l6_3_t (x : ((List Int) × (Int × (Int × (Int × ((List I9) × Int)))))) (s : ((List Int) × I2)) : Tr (((List Int) × I2) ⊕ ((List Int) × I2)) true :=
 (.i10 (s.2.1 ≤ s.2.2)
 (.oI2 s.2.1 s.1
 (.oI2 x.2.1 s.1
 (.fn byM_S (x.2.2.2.2,((gI s.1 s.2.1),(gI s.1 x.2.1))) fun y =>
 (.i00 (y < z0)
 (.ret (.inl (s.1,((w1 s.2.1),s.2.2))))
 (.ret (.inr ((s.1,(s.2.1,s.2.2)))))))))
 (.ret (.inr ((s.1,(s.2.1,s.2.2))))))
def partM_l8_3 (x : ((List Int) × (Int × (Int × (Int × ((List I9) × Int)))))) : LoopD := ⟨[.env],⟨pvs 178 0 [(0,.v (.one (.full 0))),(1,.v (.one (.i .i64))),(4,.v (.one (.mv 37 true [.full 1,.ext]))),(12,.v (.one (.i .i64))),(13,.v (.one (.i .i64)))],[.row yi 1,.row yy9 0,.pin 2],3,none,[6],[0,1,5],[4,2,3],[(.l yi),.i,.i],[.i x.2.1,.v (.int .i64 x.2.2.2.2.2),.l yy9 x.2.2.2.2.1]⟩,[⟨(.exit 8),.normal,⟨pvs 178 0 [(0,.v (.one (.full 0))),(1,.v (.one (.i .i64))),(4,.v (.one (.mv 37 true [.full 1,.ext]))),(12,.v (.one (.i .i64))),(13,.v (.one (.i .i64)))],[.row yi 1,.row yy9 0,.pin 2],3,none,[6],[0,1,5],[4,2,3],[(.l yi),.i,.i],[.i x.2.1,.v (.int .i64 x.2.2.2.2.2),.l yy9 x.2.2.2.2.1]⟩⟩]⟩
def partM_l8_3_step (x : ((List Int) × (Int × (Int × (Int × ((List I9) × Int)))))) (s : ((List Int) × I2)) : ((List Int) × I2) ⊕ ((List Int) × I2) :=
 (if (s.2.1 ≤ s.2.2) then
 (letV (byM (x.2.2.2.2,((List.getD s.1 (Int.toNat s.2.2) (0:Int)),(List.getD s.1 (Int.toNat x.2.1) (0:Int))))) fun y =>
 (if ((!(decide (y < (0:Int)))) = true) then
 (Sum.inl (s.1,(s.2.1,(w64 (s.2.2 - (1:Int)))))) else
 (Sum.inr ((s.1,(s.2.1,s.2.2)))))) else
 (Sum.inr ((s.1,(s.2.1,s.2.2)))))
def partM_l8_3_pre (x : ((List Int) × (Int × (Int × (Int × ((List I9) × Int)))))) (s : ((List Int) × I2)) : Prop :=
 ((s.2.1 ≤ s.2.2) →
 ((((0:Int) ≤ s.2.2) ∧ (s.2.2 < (s.1.length:Int))) ∧
 (((Int.toNat s.2.2) < (List.length s.1)) ∧
 (((Int.toNat s.2.2) < (List.length s.1)) ∧
 ((((0:Int) ≤ x.2.1) ∧ (x.2.1 < (s.1.length:Int))) ∧
 (((Int.toNat x.2.1) < (List.length s.1)) ∧
 (((Int.toNat x.2.1) < (List.length s.1)) ∧
 (byM_pre (x.2.2.2.2,((List.getD s.1 (Int.toNat s.2.2) (0:Int)),(List.getD s.1 (Int.toNat x.2.1) (0:Int))))))))))))
def partM_l8_3_t (x : ((List Int) × (Int × (Int × (Int × ((List I9) × Int)))))) (s : ((List Int) × I2)) : Tr (((List Int) × I2) ⊕ ((List Int) × I2)) true :=
 (.i10 (s.2.1 ≤ s.2.2)
 (.oI2 s.2.2 s.1
 (.oI2 x.2.1 s.1
 (.fn byM_S (x.2.2.2.2,((gI s.1 s.2.2),(gI s.1 x.2.1))) fun y =>
 (.b00 (!(decide (y < z0)))
 (.ret (.inl (s.1,(s.2.1,(wm s.2.2)))))
 (.ret (.inr ((s.1,(s.2.1,s.2.2)))))))))
 (.ret (.inr ((s.1,(s.2.1,s.2.2))))))
def partM_l4_3 (x : ((List Int) × (Int × (Int × (Int × ((List I9) × Int)))))) : LoopD := ⟨[.env],⟨pvs 178 0 [(0,.v (.one (.full 0))),(1,.v (.one (.i .i64))),(4,.v (.one (.mv 37 true [.full 1,.ext]))),(12,.v (.one (.i .i64))),(13,.v (.one (.i .i64)))],[.row yi 1,.row yy9 0,.pin 2],3,none,[6],[0,1,5],[4,2,3],[(.l yi),.i,.i],[.i x.2.1,.v (.int .i64 x.2.2.2.2.2),.l yy9 x.2.2.2.2.1]⟩,[⟨(.exit 4),.normal,⟨pvs 178 0 [(0,.v (.one (.full 0))),(1,.v (.one (.i .i64))),(13,.v (.one (.i .i64)))],[.row yi 1,.row yy9 0,.pin 2],3,none,[4],[0,3],[2,1],[(.l yi),.i],[.i x.2.1,.l yy9 x.2.2.2.2.1]⟩⟩]⟩
def partM_l4_3_step (x : ((List Int) × (Int × (Int × (Int × ((List I9) × Int)))))) (s : ((List Int) × I2)) : ((List Int) × I2) ⊕ ((List Int) × Int) :=
 (letV (run (partM_l6_3_step x) (s.1,(s.2.1,s.2.2))) fun r =>
 (letV (run (partM_l8_3_step x) (r.1,(r.2.1,r.2.2))) fun r_1 =>
 (if (r_1.2.1 > r_1.2.2) then
 (Sum.inr ((r_1.1,r_1.2.2))) else
 (letV (List.set r_1.1 (Int.toNat r_1.2.1) (List.getD r_1.1 (Int.toNat r_1.2.2) (0:Int))) fun y =>
 (letV (List.set y (Int.toNat r_1.2.2) (List.getD r_1.1 (Int.toNat r_1.2.1) (0:Int))) fun y_1 =>
 (Sum.inl (y_1,((w64 (r_1.2.1 + (1:Int))),(w64 (r_1.2.2 - (1:Int)))))))))))
def partM_l4_3_pre (x : ((List Int) × (Int × (Int × (Int × ((List I9) × Int)))))) (s : ((List Int) × I2)) : Prop :=
 (Term (partM_l6_3_step x) (partM_l6_3_pre x) (s.1,(s.2.1,s.2.2)) ∧
 letP (run (partM_l6_3_step x) (s.1,(s.2.1,s.2.2))) fun r =>
 (Term (partM_l8_3_step x) (partM_l8_3_pre x) (r.1,(r.2.1,r.2.2)) ∧
 letP (run (partM_l8_3_step x) (r.1,(r.2.1,r.2.2))) fun r_1 =>
 (¬ (r_1.2.1 > r_1.2.2) →
 ((((0:Int) ≤ r_1.2.2) ∧ (r_1.2.2 < (r_1.1.length:Int))) ∧
 (((Int.toNat r_1.2.2) < (List.length r_1.1)) ∧
 (((Int.toNat r_1.2.2) < (List.length r_1.1)) ∧
 ((((0:Int) ≤ r_1.2.1) ∧ (r_1.2.1 < (r_1.1.length:Int))) ∧
 (((Int.toNat r_1.2.1) < (List.length r_1.1)) ∧
 (((Int.toNat r_1.2.1) < (List.length r_1.1)) ∧
 ((((0:Int) ≤ r_1.2.1) ∧ (r_1.2.1 < (r_1.1.length:Int))) ∧
 (((Int.toNat r_1.2.1) < (List.length r_1.1)) ∧
 (((Int.toNat r_1.2.1) < (List.length r_1.1)) ∧
 (letP (List.set r_1.1 (Int.toNat r_1.2.1) (List.getD r_1.1 (Int.toNat r_1.2.2) (0:Int))) fun y =>
 ((((0:Int) ≤ r_1.2.2) ∧ (r_1.2.2 < (y.length:Int))) ∧
 (((Int.toNat r_1.2.2) < (List.length y)) ∧
 ((Int.toNat r_1.2.2) < (List.length y)))))))))))))))))
def partM_l4_3_t (x : ((List Int) × (Int × (Int × (Int × ((List I9) × Int)))))) (s : ((List Int) × I2)) : Tr (((List Int) × I2) ⊕ ((List Int) × Int)) true :=
 (LoopD.lp (partM_l6_3 x) (partM_l6_3_t x) (s.1,(s.2.1,s.2.2)) fun r =>
 (LoopD.lp (partM_l8_3 x) (partM_l8_3_t x) (r.1,(r.2.1,r.2.2)) fun r_1 =>
 (.i01 (r_1.2.1 > r_1.2.2)
 (.ret (.inr ((r_1.1,r_1.2.2))))
 (.oI2 r_1.2.2 r_1.1
 (.oI2 r_1.2.1 r_1.1
 (.oI2 r_1.2.1 r_1.1
 (.lt (List.set r_1.1 (tN r_1.2.1) (gI r_1.1 r_1.2.2)) fun y =>
 (.oI2 r_1.2.2 y
 (.lt (List.set y (tN r_1.2.2) (gI r_1.1 r_1.2.1)) fun y_1 =>
 (.ret (.inl (y_1,((w1 r_1.2.1),(wm r_1.2.2))))))))))))))
def partM (x : ((List Int) × (Int × (Int × (Int × ((List I9) × Int)))))) : ((Int × Bool) × ((List Int) × (Bool × (Bool × (Bool × Bool))))) :=
 (letV (List.set x.1 (Int.toNat x.2.1) (List.getD x.1 (Int.toNat x.2.2.2.1) (0:Int))) fun y =>
 (letV (List.set y (Int.toNat x.2.2.2.1) (List.getD x.1 (Int.toNat x.2.1) (0:Int))) fun y_1 =>
 (letV (run (partM_l0_3_step x) (y_1,(w64 (x.2.1 + (1:Int))))) fun r =>
 (letV (run (partM_l2_3_step x) (r.1,(r.2,(w64 (x.2.2.1 - (1:Int)))))) fun r_1 =>
 (if (r_1.2.1 > r_1.2.2) then
 (letV (List.set r_1.1 (Int.toNat r_1.2.2) (List.getD r_1.1 (Int.toNat x.2.1) (0:Int))) fun y_2 =>
 (letV (List.set y_2 (Int.toNat x.2.1) (List.getD r_1.1 (Int.toNat r_1.2.2) (0:Int))) fun y_3 =>
 ((r_1.2.2,true),(y_3,(false,(false,(false,false))))))) else
 (letV (List.set r_1.1 (Int.toNat r_1.2.1) (List.getD r_1.1 (Int.toNat r_1.2.2) (0:Int))) fun y_2 =>
 (letV (List.set y_2 (Int.toNat r_1.2.2) (List.getD r_1.1 (Int.toNat r_1.2.1) (0:Int))) fun y_3 =>
 (letV (run (partM_l4_3_step x) (y_3,((w64 (r_1.2.1 + (1:Int))),(w64 (r_1.2.2 - (1:Int)))))) fun r_2 =>
 (letV (List.set r_2.1 (Int.toNat r_2.2) (List.getD r_2.1 (Int.toNat x.2.1) (0:Int))) fun y_4 =>
 (letV (List.set y_4 (Int.toNat x.2.1) (List.getD r_2.1 (Int.toNat r_2.2) (0:Int))) fun y_5 =>
 ((r_2.2,false),(y_5,(false,(false,(false,false)))))))))))))))
def partM_pre (x : ((List Int) × (Int × (Int × (Int × ((List I9) × Int)))))) : Prop :=
 ((((0:Int) ≤ x.2.2.2.1) ∧ (x.2.2.2.1 < (x.1.length:Int))) ∧
 (((Int.toNat x.2.2.2.1) < (List.length x.1)) ∧
 (((Int.toNat x.2.2.2.1) < (List.length x.1)) ∧
 ((((0:Int) ≤ x.2.1) ∧ (x.2.1 < (x.1.length:Int))) ∧
 (((Int.toNat x.2.1) < (List.length x.1)) ∧
 (((Int.toNat x.2.1) < (List.length x.1)) ∧
 ((((0:Int) ≤ x.2.1) ∧ (x.2.1 < (x.1.length:Int))) ∧
 (((Int.toNat x.2.1) < (List.length x.1)) ∧
 (((Int.toNat x.2.1) < (List.length x.1)) ∧
 (letP (List.set x.1 (Int.toNat x.2.1) (List.getD x.1 (Int.toNat x.2.2.2.1) (0:Int))) fun y =>
 ((((0:Int) ≤ x.2.2.2.1) ∧ (x.2.2.2.1 < (y.length:Int))) ∧
 (((Int.toNat x.2.2.2.1) < (List.length y)) ∧
 (((Int.toNat x.2.2.2.1) < (List.length y)) ∧
 (letP (List.set y (Int.toNat x.2.2.2.1) (List.getD x.1 (Int.toNat x.2.1) (0:Int))) fun y_1 =>
 (Term (partM_l0_3_step x) (partM_l0_3_pre x) (y_1,(w64 (x.2.1 + (1:Int)))) ∧
 letP (run (partM_l0_3_step x) (y_1,(w64 (x.2.1 + (1:Int))))) fun r =>
 (Term (partM_l2_3_step x) (partM_l2_3_pre x) (r.1,(r.2,(w64 (x.2.2.1 - (1:Int))))) ∧
 letP (run (partM_l2_3_step x) (r.1,(r.2,(w64 (x.2.2.1 - (1:Int)))))) fun r_1 =>
 (((r_1.2.1 > r_1.2.2) →
 ((((0:Int) ≤ x.2.1) ∧ (x.2.1 < (r_1.1.length:Int))) ∧
 (((Int.toNat x.2.1) < (List.length r_1.1)) ∧
 (((Int.toNat x.2.1) < (List.length r_1.1)) ∧
 ((((0:Int) ≤ r_1.2.2) ∧ (r_1.2.2 < (r_1.1.length:Int))) ∧
 (((Int.toNat r_1.2.2) < (List.length r_1.1)) ∧
 (((Int.toNat r_1.2.2) < (List.length r_1.1)) ∧
 ((((0:Int) ≤ r_1.2.2) ∧ (r_1.2.2 < (r_1.1.length:Int))) ∧
 (((Int.toNat r_1.2.2) < (List.length r_1.1)) ∧
 (((Int.toNat r_1.2.2) < (List.length r_1.1)) ∧
 (letP (List.set r_1.1 (Int.toNat r_1.2.2) (List.getD r_1.1 (Int.toNat x.2.1) (0:Int))) fun y_2 =>
 ((((0:Int) ≤ x.2.1) ∧ (x.2.1 < (y_2.length:Int))) ∧
 (((Int.toNat x.2.1) < (List.length y_2)) ∧
 (((Int.toNat x.2.1) < (List.length y_2)) ∧
 (letP (List.set y_2 (Int.toNat x.2.1) (List.getD r_1.1 (Int.toNat r_1.2.2) (0:Int))) fun y_3 =>
 ((List.length y_3) = (List.length x.1))))))))))))))))) ∧
 (¬ (r_1.2.1 > r_1.2.2) →
 ((((0:Int) ≤ r_1.2.2) ∧ (r_1.2.2 < (r_1.1.length:Int))) ∧
 (((Int.toNat r_1.2.2) < (List.length r_1.1)) ∧
 (((Int.toNat r_1.2.2) < (List.length r_1.1)) ∧
 ((((0:Int) ≤ r_1.2.1) ∧ (r_1.2.1 < (r_1.1.length:Int))) ∧
 (((Int.toNat r_1.2.1) < (List.length r_1.1)) ∧
 (((Int.toNat r_1.2.1) < (List.length r_1.1)) ∧
 ((((0:Int) ≤ r_1.2.1) ∧ (r_1.2.1 < (r_1.1.length:Int))) ∧
 (((Int.toNat r_1.2.1) < (List.length r_1.1)) ∧
 (((Int.toNat r_1.2.1) < (List.length r_1.1)) ∧
 (letP (List.set r_1.1 (Int.toNat r_1.2.1) (List.getD r_1.1 (Int.toNat r_1.2.2) (0:Int))) fun y_2 =>
 ((((0:Int) ≤ r_1.2.2) ∧ (r_1.2.2 < (y_2.length:Int))) ∧
 (((Int.toNat r_1.2.2) < (List.length y_2)) ∧
 (((Int.toNat r_1.2.2) < (List.length y_2)) ∧
 (letP (List.set y_2 (Int.toNat r_1.2.2) (List.getD r_1.1 (Int.toNat r_1.2.1) (0:Int))) fun y_3 =>
 (Term (partM_l4_3_step x) (partM_l4_3_pre x) (y_3,((w64 (r_1.2.1 + (1:Int))),(w64 (r_1.2.2 - (1:Int))))) ∧
 letP (run (partM_l4_3_step x) (y_3,((w64 (r_1.2.1 + (1:Int))),(w64 (r_1.2.2 - (1:Int)))))) fun r_2 =>
 ((((0:Int) ≤ x.2.1) ∧ (x.2.1 < (r_2.1.length:Int))) ∧
 (((Int.toNat x.2.1) < (List.length r_2.1)) ∧
 (((Int.toNat x.2.1) < (List.length r_2.1)) ∧
 ((((0:Int) ≤ r_2.2) ∧ (r_2.2 < (r_2.1.length:Int))) ∧
 (((Int.toNat r_2.2) < (List.length r_2.1)) ∧
 (((Int.toNat r_2.2) < (List.length r_2.1)) ∧
 ((((0:Int) ≤ r_2.2) ∧ (r_2.2 < (r_2.1.length:Int))) ∧
 (((Int.toNat r_2.2) < (List.length r_2.1)) ∧
 (((Int.toNat r_2.2) < (List.length r_2.1)) ∧
 (letP (List.set r_2.1 (Int.toNat r_2.2) (List.getD r_2.1 (Int.toNat x.2.1) (0:Int))) fun y_4 =>
 ((((0:Int) ≤ x.2.1) ∧ (x.2.1 < (y_4.length:Int))) ∧
 (((Int.toNat x.2.1) < (List.length y_4)) ∧
 (((Int.toNat x.2.1) < (List.length y_4)) ∧
 (letP (List.set y_4 (Int.toNat x.2.1) (List.getD r_2.1 (Int.toNat r_2.2) (0:Int))) fun y_5 =>
 ((List.length y_5) = (List.length x.1)))))))))))))))))))))))))))))))))))))))))))))))))
def partM_t (x : ((List Int) × (Int × (Int × (Int × ((List I9) × Int)))))) : Tr ((Int × Bool) × ((List Int) × (Bool × (Bool × (Bool × Bool))))) true :=
 (.oI2 x.2.2.2.1 x.1
 (.oI2 x.2.1 x.1
 (.oI2 x.2.1 x.1
 (.lt (List.set x.1 (tN x.2.1) (gI x.1 x.2.2.2.1)) fun y =>
 (.oI2 x.2.2.2.1 y
 (.lt (List.set y (tN x.2.2.2.1) (gI x.1 x.2.1)) fun y_1 =>
 (LoopD.lp (partM_l0_3 x) (partM_l0_3_t x) (y_1,(w1 x.2.1)) fun r =>
 (LoopD.lp (partM_l2_3 x) (partM_l2_3_t x) (r.1,(r.2,(wm x.2.2.1))) fun r_1 =>
 (.i11 (r_1.2.1 > r_1.2.2)
 (.oI2 x.2.1 r_1.1
 (.oI2 r_1.2.2 r_1.1
 (.oI2 r_1.2.2 r_1.1
 (.lt (List.set r_1.1 (tN r_1.2.2) (gI r_1.1 x.2.1)) fun y_2 =>
 (.oI2 x.2.1 y_2
 (.lt (List.set y_2 (tN x.2.1) (gI r_1.1 r_1.2.2)) fun y_3 =>
 (.pn 0 2
 (.og ((decide ((List.length y_3) = (List.length x.1))) && true) ((List.length y_3) = (List.length x.1)) (fun h => (and_t (decide_eq_true h) rfl))
 (.ret ((r_1.2.2,true),(y_3,(false,(false,(false,false))))))))))))))
 (.oI2 r_1.2.2 r_1.1
 (.oI2 r_1.2.1 r_1.1
 (.oI2 r_1.2.1 r_1.1
 (.lt (List.set r_1.1 (tN r_1.2.1) (gI r_1.1 r_1.2.2)) fun y_2 =>
 (.oI2 r_1.2.2 y_2
 (.lt (List.set y_2 (tN r_1.2.2) (gI r_1.1 r_1.2.1)) fun y_3 =>
 (LoopD.lp (partM_l4_3 x) (partM_l4_3_t x) (y_3,((w1 r_1.2.1),(wm r_1.2.2))) fun r_2 =>
 (.oI2 x.2.1 r_2.1
 (.oI2 r_2.2 r_2.1
 (.oI2 r_2.2 r_2.1
 (.lt (List.set r_2.1 (tN r_2.2) (gI r_2.1 x.2.1)) fun y_4 =>
 (.oI2 x.2.1 y_4
 (.lt (List.set y_4 (tN x.2.1) (gI r_2.1 r_2.2)) fun y_5 =>
 (.pn 0 2
 (.og ((decide ((List.length y_5) = (List.length x.1))) && true) ((List.length y_5) = (List.length x.1)) (fun h => (and_t (decide_eq_true h) rfl))
 (.ret ((r_2.2,false),(y_5,(false,(false,(false,false))))))))))))))))))))))))))))))
abbrev partM_S : FnW := ⟨(.pair (.row yi) (.pair (.val (.one yi)) (.pair (.val (.one yi)) (.pair (.val (.one yi)) (.val cmpP))))),(.pair (.one yi) (.one Ty.bool)),partM_pre,partM⟩
theorem partM_ok : SpecOk Try.prog 63 (fnSpecW partM_S) := SpecOk.trW partM_S partM_t (fn := Try.f63) tt_ok sp_partEM_ok mixed (by kernel_rfl) (ItsOk.nil _ _) (fun x => (LpsOk.tr tt_ok (SpecsOk.ctxI sp_partEM_ok (ItsOk.nil _ _)) mixed 0 (partM_l0_3 x) (partM_l0_3_t x) (LpsOk.tr tt_ok (SpecsOk.ctxI sp_partEM_ok (ItsOk.nil _ _)) mixed 2 (partM_l2_3 x) (partM_l2_3_t x) (LpsOk.tr tt_ok (SpecsOk.ctxI sp_partEM_ok (ItsOk.nil _ _)) mixed 4 (partM_l4_3 x) (partM_l4_3_t x) (LpsOk.tr tt_ok (SpecsOk.ctxI sp_partEM_ok (ItsOk.nil _ _)) mixed 6 (partM_l6_3 x) (partM_l6_3_t x) (LpsOk.tr tt_ok (SpecsOk.ctxI sp_partEM_ok (ItsOk.nil _ _)) mixed 8 (partM_l8_3 x) (partM_l8_3_t x) LpsOk.nil (by kernel_rfl) fun g s Q => (by kernel_rfl)) (by kernel_rfl) fun g s Q => (by kernel_rfl)) (by kernel_rfl) fun g s Q => (by kernel_rfl)) (by kernel_rfl) fun g s Q => (by kernel_rfl)) (by kernel_rfl) fun g s Q => (by kernel_rfl))) (fun x => (by kernel_rfl)) fun x r0 Q => (by kernel_rfl)
def sp_partM : List (Nat × Ev.Spec) := (63,fnSpecW partM_S) :: sp_partEM
theorem sp_partM_ok : SpecsOk Try.prog sp_partM := SpecsOk.add (fn := Try.f63) (by kernel_rfl) partM_ok sp_partEM_ok
def pInsM_l2_3 (x : ((List Int) × (Int × (Int × ((List I9) × Int))))) : LoopD := ⟨[.env],⟨pvs 141 0 [(0,.v (.one (.full 0))),(1,.v (.one (.i .i64))),(2,.v (.one (.i .i64))),(3,.v (.one (.mv 37 true [.full 1,.ext]))),(9,.v (.one (.i .i64))),(10,.v (.one (.i .i64)))],[.row yi 1,.row yy9 0,.pin 2],3,none,[7],[0,1,2,6],[5,3,4],[(.l yi),.i,.i],[.i x.2.1,.i x.2.2.1,.v (.int .i64 x.2.2.2.2),.l yy9 x.2.2.2.1]⟩,[⟨(.exit 2),.normal,⟨pvs 141 0 [(0,.v (.one (.full 0))),(1,.v (.one (.i .i64))),(2,.v (.one (.i .i64))),(3,.v (.one (.mv 37 true [.full 1,.ext]))),(9,.v (.one (.i .i64))),(10,.v (.one (.i .i64)))],[.row yi 1,.row yy9 0,.pin 2],3,none,[7],[0,1,2,6],[5,3,4],[(.l yi),.i,.i],[.i x.2.1,.i x.2.2.1,.v (.int .i64 x.2.2.2.2),.l yy9 x.2.2.2.1]⟩⟩]⟩
def pInsM_l2_3_step (x : ((List Int) × (Int × (Int × ((List I9) × Int))))) (s : ((List Int) × I2)) : ((List Int) × I2) ⊕ ((List Int) × I2) :=
 (if (s.2.1 < x.2.2.1) then
 (letV (byM (x.2.2.2,((List.getD s.1 (Int.toNat s.2.1) (0:Int)),(List.getD s.1 (Int.toNat (w64 (s.2.1 - (1:Int)))) (0:Int))))) fun y =>
 (if ((!(decide (y < (0:Int)))) = true) then
 (Sum.inl (s.1,((w64 (s.2.1 + (1:Int))),s.2.2))) else
 (Sum.inr ((s.1,(s.2.1,s.2.2)))))) else
 (Sum.inr ((s.1,(s.2.1,s.2.2)))))
def pInsM_l2_3_pre (x : ((List Int) × (Int × (Int × ((List I9) × Int))))) (s : ((List Int) × I2)) : Prop :=
 ((s.2.1 < x.2.2.1) →
 ((((0:Int) ≤ s.2.1) ∧ (s.2.1 < (s.1.length:Int))) ∧
 (((Int.toNat s.2.1) < (List.length s.1)) ∧
 (((Int.toNat s.2.1) < (List.length s.1)) ∧
 ((((0:Int) ≤ (w64 (s.2.1 - (1:Int)))) ∧ ((w64 (s.2.1 - (1:Int))) < (s.1.length:Int))) ∧
 (((Int.toNat (w64 (s.2.1 - (1:Int)))) < (List.length s.1)) ∧
 (((Int.toNat (w64 (s.2.1 - (1:Int)))) < (List.length s.1)) ∧
 (byM_pre (x.2.2.2,((List.getD s.1 (Int.toNat s.2.1) (0:Int)),(List.getD s.1 (Int.toNat (w64 (s.2.1 - (1:Int)))) (0:Int))))))))))))
def pInsM_l2_3_t (x : ((List Int) × (Int × (Int × ((List I9) × Int))))) (s : ((List Int) × I2)) : Tr (((List Int) × I2) ⊕ ((List Int) × I2)) true :=
 (.i10 (s.2.1 < x.2.2.1)
 (.oI2 s.2.1 s.1
 (.oI2 (wm s.2.1) s.1
 (.fn byM_S (x.2.2.2,((gI s.1 s.2.1),(gI s.1 (wm s.2.1)))) fun y =>
 (.b00 (!(decide (y < z0)))
 (.ret (.inl (s.1,((w1 s.2.1),s.2.2))))
 (.ret (.inr ((s.1,(s.2.1,s.2.2)))))))))
 (.ret (.inr ((s.1,(s.2.1,s.2.2))))))
def pInsM_l4_3 (x : ((List Int) × (Int × (Int × ((List I9) × Int))))) : LoopD := ⟨[.env],⟨pvs 141 0 [(0,.v (.one (.full 0))),(1,.v (.one (.i .i64))),(2,.v (.one (.i .i64))),(3,.v (.one (.mv 37 true [.full 1,.ext]))),(9,.v (.one (.i .i64))),(10,.v (.one (.i .i64))),(11,.v (.one (.i .i64)))],[.row yi 1,.row yy9 0,.pin 2],3,none,[8],[0,1,2,7],[6,3,4,5],[(.l yi),.i,.i,.i],[.i x.2.1,.i x.2.2.1,.v (.int .i64 x.2.2.2.2),.l yy9 x.2.2.2.1]⟩,[⟨(.exit 4),.normal,⟨pvs 141 0 [(0,.v (.one (.full 0))),(1,.v (.one (.i .i64))),(2,.v (.one (.i .i64))),(3,.v (.one (.mv 37 true [.full 1,.ext]))),(9,.v (.one (.i .i64))),(10,.v (.one (.i .i64)))],[.row yi 1,.row yy9 0,.pin 2],3,none,[7],[0,1,2,6],[5,3,4],[(.l yi),.i,.i],[.i x.2.1,.i x.2.2.1,.v (.int .i64 x.2.2.2.2),.l yy9 x.2.2.2.1]⟩⟩]⟩
def pInsM_l4_3_step (x : ((List Int) × (Int × (Int × ((List I9) × Int))))) (s : ((List Int) × I3)) : ((List Int) × I3) ⊕ ((List Int) × I2) :=
 (if (s.2.2.2 ≥ (1:Int)) then
 (letV (byM (x.2.2.2,((List.getD s.1 (Int.toNat s.2.2.2) (0:Int)),(List.getD s.1 (Int.toNat (w64 (s.2.2.2 - (1:Int)))) (0:Int))))) fun y =>
 (if ((!(decide (y < (0:Int)))) = true) then
 (Sum.inr ((s.1,(s.2.1,s.2.2.1)))) else
 (letV (List.set s.1 (Int.toNat s.2.2.2) (List.getD s.1 (Int.toNat (w64 (s.2.2.2 - (1:Int)))) (0:Int))) fun y_1 =>
 (letV (List.set y_1 (Int.toNat (w64 (s.2.2.2 - (1:Int)))) (List.getD s.1 (Int.toNat s.2.2.2) (0:Int))) fun y_2 =>
 (Sum.inl (y_2,(s.2.1,(s.2.2.1,(w64 (s.2.2.2 - (1:Int))))))))))) else
 (Sum.inr ((s.1,(s.2.1,s.2.2.1)))))
def pInsM_l4_3_pre (x : ((List Int) × (Int × (Int × ((List I9) × Int))))) (s : ((List Int) × I3)) : Prop :=
 ((s.2.2.2 ≥ (1:Int)) →
 ((((0:Int) ≤ s.2.2.2) ∧ (s.2.2.2 < (s.1.length:Int))) ∧
 (((Int.toNat s.2.2.2) < (List.length s.1)) ∧
 (((Int.toNat s.2.2.2) < (List.length s.1)) ∧
 ((((0:Int) ≤ (w64 (s.2.2.2 - (1:Int)))) ∧ ((w64 (s.2.2.2 - (1:Int))) < (s.1.length:Int))) ∧
 (((Int.toNat (w64 (s.2.2.2 - (1:Int)))) < (List.length s.1)) ∧
 (((Int.toNat (w64 (s.2.2.2 - (1:Int)))) < (List.length s.1)) ∧
 ((byM_pre (x.2.2.2,((List.getD s.1 (Int.toNat s.2.2.2) (0:Int)),(List.getD s.1 (Int.toNat (w64 (s.2.2.2 - (1:Int)))) (0:Int))))) ∧
 letP (byM (x.2.2.2,((List.getD s.1 (Int.toNat s.2.2.2) (0:Int)),(List.getD s.1 (Int.toNat (w64 (s.2.2.2 - (1:Int)))) (0:Int))))) fun y =>
 (¬ ((!(decide (y < (0:Int)))) = true) →
 ((((0:Int) ≤ (w64 (s.2.2.2 - (1:Int)))) ∧ ((w64 (s.2.2.2 - (1:Int))) < (s.1.length:Int))) ∧
 (((Int.toNat (w64 (s.2.2.2 - (1:Int)))) < (List.length s.1)) ∧
 (((Int.toNat (w64 (s.2.2.2 - (1:Int)))) < (List.length s.1)) ∧
 ((((0:Int) ≤ s.2.2.2) ∧ (s.2.2.2 < (s.1.length:Int))) ∧
 (((Int.toNat s.2.2.2) < (List.length s.1)) ∧
 (((Int.toNat s.2.2.2) < (List.length s.1)) ∧
 ((((0:Int) ≤ s.2.2.2) ∧ (s.2.2.2 < (s.1.length:Int))) ∧
 (((Int.toNat s.2.2.2) < (List.length s.1)) ∧
 (((Int.toNat s.2.2.2) < (List.length s.1)) ∧
 (letP (List.set s.1 (Int.toNat s.2.2.2) (List.getD s.1 (Int.toNat (w64 (s.2.2.2 - (1:Int)))) (0:Int))) fun y_1 =>
 ((((0:Int) ≤ (w64 (s.2.2.2 - (1:Int)))) ∧ ((w64 (s.2.2.2 - (1:Int))) < (y_1.length:Int))) ∧
 (((Int.toNat (w64 (s.2.2.2 - (1:Int)))) < (List.length y_1)) ∧
 ((Int.toNat (w64 (s.2.2.2 - (1:Int)))) < (List.length y_1)))))))))))))))))))))))
def pInsM_l4_3_t (x : ((List Int) × (Int × (Int × ((List I9) × Int))))) (s : ((List Int) × I3)) : Tr (((List Int) × I3) ⊕ ((List Int) × I2)) true :=
 (.i10 (s.2.2.2 ≥ z1)
 (.oI2 s.2.2.2 s.1
 (.oI2 (wm s.2.2.2) s.1
 (.fn byM_S (x.2.2.2,((gI s.1 s.2.2.2),(gI s.1 (wm s.2.2.2)))) fun y =>
 (.b01 (!(decide (y < z0)))
 (.ret (.inr ((s.1,(s.2.1,s.2.2.1)))))
 (.oI2 (wm s.2.2.2) s.1
 (.oI2 s.2.2.2 s.1
 (.oI2 s.2.2.2 s.1
 (.lt (List.set s.1 (tN s.2.2.2) (gI s.1 (wm s.2.2.2))) fun y_1 =>
 (.oI2 (wm s.2.2.2) y_1
 (.lt (List.set y_1 (tN (wm s.2.2.2)) (gI s.1 s.2.2.2)) fun y_2 =>
 (.ret (.inl (y_2,(s.2.1,(s.2.2.1,(wm s.2.2.2))))))))))))))))
 (.ret (.inr ((s.1,(s.2.1,s.2.2.1))))))
def pInsM_l6_3 (x : ((List Int) × (Int × (Int × ((List I9) × Int))))) : LoopD := ⟨[.env],⟨pvs 141 0 [(0,.v (.one (.full 0))),(1,.v (.one (.i .i64))),(2,.v (.one (.i .i64))),(3,.v (.one (.mv 37 true [.full 1,.ext]))),(9,.v (.one (.i .i64))),(10,.v (.one (.i .i64))),(12,.v (.one (.i .i64)))],[.row yi 1,.row yy9 0,.pin 2],3,none,[8],[0,1,2,7],[6,3,4,5],[(.l yi),.i,.i,.i],[.i x.2.1,.i x.2.2.1,.v (.int .i64 x.2.2.2.2),.l yy9 x.2.2.2.1]⟩,[⟨(.exit 6),.normal,⟨pvs 141 0 [(0,.v (.one (.full 0))),(1,.v (.one (.i .i64))),(2,.v (.one (.i .i64))),(3,.v (.one (.mv 37 true [.full 1,.ext]))),(9,.v (.one (.i .i64))),(10,.v (.one (.i .i64)))],[.row yi 1,.row yy9 0,.pin 2],3,none,[7],[0,1,2,6],[5,3,4],[(.l yi),.i,.i],[.i x.2.1,.i x.2.2.1,.v (.int .i64 x.2.2.2.2),.l yy9 x.2.2.2.1]⟩⟩]⟩
def pInsM_l6_3_step (x : ((List Int) × (Int × (Int × ((List I9) × Int))))) (s : ((List Int) × I3)) : ((List Int) × I3) ⊕ ((List Int) × I2) :=
 (if (s.2.2.2 < x.2.2.1) then
 (letV (byM (x.2.2.2,((List.getD s.1 (Int.toNat s.2.2.2) (0:Int)),(List.getD s.1 (Int.toNat (w64 (s.2.2.2 - (1:Int)))) (0:Int))))) fun y =>
 (if ((!(decide (y < (0:Int)))) = true) then
 (Sum.inr ((s.1,(s.2.1,s.2.2.1)))) else
 (letV (List.set s.1 (Int.toNat s.2.2.2) (List.getD s.1 (Int.toNat (w64 (s.2.2.2 - (1:Int)))) (0:Int))) fun y_1 =>
 (letV (List.set y_1 (Int.toNat (w64 (s.2.2.2 - (1:Int)))) (List.getD s.1 (Int.toNat s.2.2.2) (0:Int))) fun y_2 =>
 (Sum.inl (y_2,(s.2.1,(s.2.2.1,(w64 (s.2.2.2 + (1:Int))))))))))) else
 (Sum.inr ((s.1,(s.2.1,s.2.2.1)))))
def pInsM_l6_3_pre (x : ((List Int) × (Int × (Int × ((List I9) × Int))))) (s : ((List Int) × I3)) : Prop :=
 ((s.2.2.2 < x.2.2.1) →
 ((((0:Int) ≤ s.2.2.2) ∧ (s.2.2.2 < (s.1.length:Int))) ∧
 (((Int.toNat s.2.2.2) < (List.length s.1)) ∧
 (((Int.toNat s.2.2.2) < (List.length s.1)) ∧
 ((((0:Int) ≤ (w64 (s.2.2.2 - (1:Int)))) ∧ ((w64 (s.2.2.2 - (1:Int))) < (s.1.length:Int))) ∧
 (((Int.toNat (w64 (s.2.2.2 - (1:Int)))) < (List.length s.1)) ∧
 (((Int.toNat (w64 (s.2.2.2 - (1:Int)))) < (List.length s.1)) ∧
 ((byM_pre (x.2.2.2,((List.getD s.1 (Int.toNat s.2.2.2) (0:Int)),(List.getD s.1 (Int.toNat (w64 (s.2.2.2 - (1:Int)))) (0:Int))))) ∧
 letP (byM (x.2.2.2,((List.getD s.1 (Int.toNat s.2.2.2) (0:Int)),(List.getD s.1 (Int.toNat (w64 (s.2.2.2 - (1:Int)))) (0:Int))))) fun y =>
 (¬ ((!(decide (y < (0:Int)))) = true) →
 ((((0:Int) ≤ (w64 (s.2.2.2 - (1:Int)))) ∧ ((w64 (s.2.2.2 - (1:Int))) < (s.1.length:Int))) ∧
 (((Int.toNat (w64 (s.2.2.2 - (1:Int)))) < (List.length s.1)) ∧
 (((Int.toNat (w64 (s.2.2.2 - (1:Int)))) < (List.length s.1)) ∧
 ((((0:Int) ≤ s.2.2.2) ∧ (s.2.2.2 < (s.1.length:Int))) ∧
 (((Int.toNat s.2.2.2) < (List.length s.1)) ∧
 (((Int.toNat s.2.2.2) < (List.length s.1)) ∧
 ((((0:Int) ≤ s.2.2.2) ∧ (s.2.2.2 < (s.1.length:Int))) ∧
 (((Int.toNat s.2.2.2) < (List.length s.1)) ∧
 (((Int.toNat s.2.2.2) < (List.length s.1)) ∧
 (letP (List.set s.1 (Int.toNat s.2.2.2) (List.getD s.1 (Int.toNat (w64 (s.2.2.2 - (1:Int)))) (0:Int))) fun y_1 =>
 ((((0:Int) ≤ (w64 (s.2.2.2 - (1:Int)))) ∧ ((w64 (s.2.2.2 - (1:Int))) < (y_1.length:Int))) ∧
 (((Int.toNat (w64 (s.2.2.2 - (1:Int)))) < (List.length y_1)) ∧
 ((Int.toNat (w64 (s.2.2.2 - (1:Int)))) < (List.length y_1)))))))))))))))))))))))
def pInsM_l6_3_t (x : ((List Int) × (Int × (Int × ((List I9) × Int))))) (s : ((List Int) × I3)) : Tr (((List Int) × I3) ⊕ ((List Int) × I2)) true :=
 (.i10 (s.2.2.2 < x.2.2.1)
 (.oI2 s.2.2.2 s.1
 (.oI2 (wm s.2.2.2) s.1
 (.fn byM_S (x.2.2.2,((gI s.1 s.2.2.2),(gI s.1 (wm s.2.2.2)))) fun y =>
 (.b01 (!(decide (y < z0)))
 (.ret (.inr ((s.1,(s.2.1,s.2.2.1)))))
 (.oI2 (wm s.2.2.2) s.1
 (.oI2 s.2.2.2 s.1
 (.oI2 s.2.2.2 s.1
 (.lt (List.set s.1 (tN s.2.2.2) (gI s.1 (wm s.2.2.2))) fun y_1 =>
 (.oI2 (wm s.2.2.2) y_1
 (.lt (List.set y_1 (tN (wm s.2.2.2)) (gI s.1 s.2.2.2)) fun y_2 =>
 (.ret (.inl (y_2,(s.2.1,(s.2.2.1,(w1 s.2.2.2))))))))))))))))
 (.ret (.inr ((s.1,(s.2.1,s.2.2.1))))))
def pInsM_l0_3 (x : ((List Int) × (Int × (Int × ((List I9) × Int))))) : LoopD := ⟨[.env],⟨pvs 141 0 [(0,.v (.one (.full 0))),(1,.v (.one (.i .i64))),(2,.v (.one (.i .i64))),(3,.v (.one (.mv 37 true [.full 1,.ext]))),(9,.v (.one (.i .i64))),(10,.v (.one (.i .i64)))],[.row yi 1,.row yy9 0,.pin 2],3,none,[7],[0,1,2,6],[5,3,4],[(.l yi),.i,.i],[.i x.2.1,.i x.2.2.1,.v (.int .i64 x.2.2.2.2),.l yy9 x.2.2.2.1]⟩,[⟨.ret,.ret,⟨pvs 141 0 [(8,.v (.one (.b)))],[.row yi 1,.row yy9 0,.pin 2],3,none,[3],[2],[1,0],[(.l yi),.b],[.l yy9 x.2.2.2.1]⟩⟩,⟨(.exit 0),.normal,⟨pvs 141 0 [],[.row yi 1,.row yy9 0,.pin 2],3,none,[2],[1],[0],[(.l yi)],[.l yy9 x.2.2.2.1]⟩⟩]⟩
def pInsM_l0_3_step (x : ((List Int) × (Int × (Int × ((List I9) × Int))))) (s : ((List Int) × I2)) : ((List Int) × I2) ⊕ (((List Int) × Bool) ⊕ (List Int)) :=
 (if (s.2.2 < (5:Int)) then
 (letV (run (pInsM_l2_3_step x) (s.1,(s.2.1,s.2.2))) fun r =>
 (if ((r.2.1 == x.2.2.1) = true) then
 (Sum.inr (Sum.inl (r.1,true))) else
 (if ((w64 (x.2.2.1 - x.2.1)) < (50:Int)) then
 (Sum.inr (Sum.inl (r.1,false))) else
 (letV (List.set r.1 (Int.toNat r.2.1) (List.getD r.1 (Int.toNat (w64 (r.2.1 - (1:Int)))) (0:Int))) fun y =>
 (letV (List.set y (Int.toNat (w64 (r.2.1 - (1:Int)))) (List.getD r.1 (Int.toNat r.2.1) (0:Int))) fun y_1 =>
 (if ((w64 (r.2.1 - x.2.1)) ≥ (2:Int)) then
 (letV (run (pInsM_l4_3_step x) (y_1,(r.2.1,(r.2.2,(w64 (r.2.1 - (1:Int))))))) fun r_1 =>
 (if ((w64 (x.2.2.1 - r_1.2.1)) ≥ (2:Int)) then
 (letV (run (pInsM_l6_3_step x) (r_1.1,(r_1.2.1,(r_1.2.2,(w64 (r_1.2.1 + (1:Int))))))) fun r_2 =>
 (Sum.inl (r_2.1,(r_2.2.1,(w64 (r_2.2.2 + (1:Int))))))) else
 (Sum.inl (r_1.1,(r_1.2.1,(w64 (r_1.2.2 + (1:Int)))))))) else
 (if ((w64 (x.2.2.1 - r.2.1)) ≥ (2:Int)) then
 (letV (run (pInsM_l6_3_step x) (y_1,(r.2.1,(r.2.2,(w64 (r.2.1 + (1:Int))))))) fun r_1 =>
 (Sum.inl (r_1.1,(r_1.2.1,(w64 (r_1.2.2 + (1:Int))))))) else
 (Sum.inl (y_1,(r.2.1,(w64 (r.2.2 + (1:Int))))))))))))) else
 (Sum.inr (Sum.inr (s.1))))
def pInsM_l0_3_pre (x : ((List Int) × (Int × (Int × ((List I9) × Int))))) (s : ((List Int) × I2)) : Prop :=
 ((s.2.2 < (5:Int)) →
 (Term (pInsM_l2_3_step x) (pInsM_l2_3_pre x) (s.1,(s.2.1,s.2.2)) ∧
 letP (run (pInsM_l2_3_step x) (s.1,(s.2.1,s.2.2))) fun r =>
 (¬ ((r.2.1 == x.2.2.1) = true) →
 (¬ ((w64 (x.2.2.1 - x.2.1)) < (50:Int)) →
 ((((0:Int) ≤ (w64 (r.2.1 - (1:Int)))) ∧ ((w64 (r.2.1 - (1:Int))) < (r.1.length:Int))) ∧
 (((Int.toNat (w64 (r.2.1 - (1:Int)))) < (List.length r.1)) ∧
 (((Int.toNat (w64 (r.2.1 - (1:Int)))) < (List.length r.1)) ∧
 ((((0:Int) ≤ r.2.1) ∧ (r.2.1 < (r.1.length:Int))) ∧
 (((Int.toNat r.2.1) < (List.length r.1)) ∧
 (((Int.toNat r.2.1) < (List.length r.1)) ∧
 ((((0:Int) ≤ r.2.1) ∧ (r.2.1 < (r.1.length:Int))) ∧
 (((Int.toNat r.2.1) < (List.length r.1)) ∧
 (((Int.toNat r.2.1) < (List.length r.1)) ∧
 (letP (List.set r.1 (Int.toNat r.2.1) (List.getD r.1 (Int.toNat (w64 (r.2.1 - (1:Int)))) (0:Int))) fun y =>
 ((((0:Int) ≤ (w64 (r.2.1 - (1:Int)))) ∧ ((w64 (r.2.1 - (1:Int))) < (y.length:Int))) ∧
 (((Int.toNat (w64 (r.2.1 - (1:Int)))) < (List.length y)) ∧
 (((Int.toNat (w64 (r.2.1 - (1:Int)))) < (List.length y)) ∧
 (letP (List.set y (Int.toNat (w64 (r.2.1 - (1:Int)))) (List.getD r.1 (Int.toNat r.2.1) (0:Int))) fun y_1 =>
 ((((w64 (r.2.1 - x.2.1)) ≥ (2:Int)) →
 (Term (pInsM_l4_3_step x) (pInsM_l4_3_pre x) (y_1,(r.2.1,(r.2.2,(w64 (r.2.1 - (1:Int)))))) ∧
 letP (run (pInsM_l4_3_step x) (y_1,(r.2.1,(r.2.2,(w64 (r.2.1 - (1:Int))))))) fun r_1 =>
 (((w64 (x.2.2.1 - r_1.2.1)) ≥ (2:Int)) →
 (Term (pInsM_l6_3_step x) (pInsM_l6_3_pre x) (r_1.1,(r_1.2.1,(r_1.2.2,(w64 (r_1.2.1 + (1:Int)))))))))) ∧
 (¬ ((w64 (r.2.1 - x.2.1)) ≥ (2:Int)) →
 (((w64 (x.2.2.1 - r.2.1)) ≥ (2:Int)) →
 (Term (pInsM_l6_3_step x) (pInsM_l6_3_pre x) (y_1,(r.2.1,(r.2.2,(w64 (r.2.1 + (1:Int))))))))))))))))))))))))))))
def pInsM_l0_3_t (x : ((List Int) × (Int × (Int × ((List I9) × Int))))) (s : ((List Int) × I2)) : Tr (((List Int) × I2) ⊕ (((List Int) × Bool) ⊕ (List Int))) true :=
 (.i10 (s.2.2 < (5:Int))
 (LoopD.lp (pInsM_l2_3 x) (pInsM_l2_3_t x) (s.1,(s.2.1,s.2.2)) fun r =>
 (.b01 (r.2.1 == x.2.2.1)
 (.ret (.inr (Sum.inl (r.1,true))))
 (.i01 ((w64 (x.2.2.1 - x.2.1)) < (50:Int))
 (.ret (.inr (Sum.inl (r.1,false))))
 (.oI2 (wm r.2.1) r.1
 (.oI2 r.2.1 r.1
 (.oI2 r.2.1 r.1
 (.lt (List.set r.1 (tN r.2.1) (gI r.1 (wm r.2.1))) fun y =>
 (.oI2 (wm r.2.1) y
 (.lt (List.set y (tN (wm r.2.1)) (gI r.1 r.2.1)) fun y_1 =>
 (.i11 ((w64 (r.2.1 - x.2.1)) ≥ (2:Int))
 (LoopD.lp (pInsM_l4_3 x) (pInsM_l4_3_t x) (y_1,(r.2.1,(r.2.2,(wm r.2.1)))) fun r_1 =>
 (.i10 ((w64 (x.2.2.1 - r_1.2.1)) ≥ (2:Int))
 (LoopD.lp (pInsM_l6_3 x) (pInsM_l6_3_t x) (r_1.1,(r_1.2.1,(r_1.2.2,(w1 r_1.2.1)))) fun r_2 =>
 (.ret (.inl (r_2.1,(r_2.2.1,(w1 r_2.2.2))))))
 (.ret (.inl (r_1.1,(r_1.2.1,(w1 r_1.2.2)))))))
 (.i10 ((w64 (x.2.2.1 - r.2.1)) ≥ (2:Int))
 (LoopD.lp (pInsM_l6_3 x) (pInsM_l6_3_t x) (y_1,(r.2.1,(r.2.2,(w1 r.2.1)))) fun r_1 =>
 (.ret (.inl (r_1.1,(r_1.2.1,(w1 r_1.2.2))))))
 (.ret (.inl (y_1,(r.2.1,(w1 r.2.2))))))))))))))))
 (.ret (.inr (Sum.inr (s.1)))))
def pInsM (x : ((List Int) × (Int × (Int × ((List I9) × Int))))) : (Bool × ((List Int) × (Bool × (Bool × Bool)))) :=
 (letV (run (pInsM_l0_3_step x) (x.1,((w64 (x.2.1 + (1:Int))),(0:Int)))) fun r =>
 (Sum.elim (fun a =>
 (a.2,(a.1,(false,(false,false))))) (fun b =>
 (false,(b,(false,(false,false))))) r))
def pInsM_pre (x : ((List Int) × (Int × (Int × ((List I9) × Int))))) : Prop :=
 (Term (pInsM_l0_3_step x) (pInsM_l0_3_pre x) (x.1,((w64 (x.2.1 + (1:Int))),(0:Int))) ∧
 letP (run (pInsM_l0_3_step x) (x.1,((w64 (x.2.1 + (1:Int))),(0:Int)))) fun r =>
 (cS r (fun a =>
 ((List.length a.1) = (List.length x.1))) (fun b =>
 ((List.length b) = (List.length x.1)))))
def pInsM_t (x : ((List Int) × (Int × (Int × ((List I9) × Int))))) : Tr (Bool × ((List Int) × (Bool × (Bool × Bool)))) true :=
 (LoopD.lp (pInsM_l0_3 x) (pInsM_l0_3_t x) (x.1,((w1 x.2.1),z0)) fun r =>
 (.s11 r (fun a =>
 (.pn 0 2
 (.og ((decide ((List.length a.1) = (List.length x.1))) && true) ((List.length a.1) = (List.length x.1)) (fun h => (and_t (decide_eq_true h) rfl))
 (.ret (a.2,(a.1,(false,(false,false)))))))) (fun b =>
 (.pn 0 2
 (.og ((decide ((List.length b) = (List.length x.1))) && true) ((List.length b) = (List.length x.1)) (fun h => (and_t (decide_eq_true h) rfl))
 (.ret (false,(b,(false,(false,false))))))))))
abbrev pInsM_S : FnW := ⟨(.pair (.row yi) (.pair (.val (.one yi)) (.pair (.val (.one yi)) (.val cmpP)))),(.one Ty.bool),pInsM_pre,pInsM⟩
theorem pInsM_ok : SpecOk Try.prog 61 (fnSpecW pInsM_S) := SpecOk.trW pInsM_S pInsM_t (fn := Try.f61) tt_ok sp_partM_ok mixed (by kernel_rfl) (ItsOk.nil _ _) (fun x => (LpsOk.tr tt_ok (SpecsOk.ctxI sp_partM_ok (ItsOk.nil _ _)) mixed 0 (pInsM_l0_3 x) (pInsM_l0_3_t x) (LpsOk.tr tt_ok (SpecsOk.ctxI sp_partM_ok (ItsOk.nil _ _)) mixed 2 (pInsM_l2_3 x) (pInsM_l2_3_t x) (LpsOk.tr tt_ok (SpecsOk.ctxI sp_partM_ok (ItsOk.nil _ _)) mixed 4 (pInsM_l4_3 x) (pInsM_l4_3_t x) (LpsOk.tr tt_ok (SpecsOk.ctxI sp_partM_ok (ItsOk.nil _ _)) mixed 6 (pInsM_l6_3 x) (pInsM_l6_3_t x) LpsOk.nil (by kernel_rfl) fun g s Q => (by kernel_rfl)) (by kernel_rfl) fun g s Q => (by kernel_rfl)) (by kernel_rfl) fun g s Q => (by kernel_rfl)) (by kernel_rfl) fun g s Q => (by kernel_rfl))) (fun x => (by kernel_rfl)) fun x r0 Q => (by kernel_rfl)
def sp_pInsM : List (Nat × Ev.Spec) := (61,fnSpecW pInsM_S) :: sp_partM
theorem sp_pInsM_ok : SpecsOk Try.prog sp_pInsM := SpecsOk.add (fn := Try.f61) (by kernel_rfl) pInsM_ok sp_partM_ok
end Go.Proofs.Ytaipcbdilkcdbaa
