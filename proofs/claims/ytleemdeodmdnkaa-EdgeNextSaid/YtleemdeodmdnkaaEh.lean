/- Models of law 14's EdgeNext. -/
import Derived.Test.YtleemdeodmdnkaaEg
noncomputable section
set_option linter.unusedSectionVars false
set_option linter.unusedVariables false
set_option linter.unusedSimpArgs false
namespace Go.Proofs.Ytleemdeodmdnkaa
open Go Go.Ev Go.Proofs
def shared14_l0 (x : ((List (Int × (Int × (List Int)))) × I2)) : LoopD := ⟨[],⟨pvs 30 0 [(0,.v (.one (.full 0))),(1,.v (.one (.i .i64))),(2,.v (.one (.i .i64))),(7,.v (.one (.i .i64)))],[.row (Ty.prod yi (Ty.prod yi (Ty.sl yi))) 0],0,none,[],[0,1,3],[2],[.i],[.i x.2.1,.i x.2.2,.l (Ty.prod yi (Ty.prod yi (Ty.sl yi))) x.1]⟩,[⟨.ret,.ret,⟨pvs 30 0 [(6,.v (.one (.b)))],[],0,none,[],[0],[],[],[.b true]⟩⟩,⟨(.exit 0),.normal,⟨pvs 30 0 [],[],0,none,[],[],[],[],[]⟩⟩]⟩
def shared14_l0_step (x : ((List (Int × (Int × (List Int)))) × I2)) (s:Int) : Int ⊕ (Unit ⊕ Unit) :=
 (if (s < (x.1.length:Int)) then
 (letV (in14 ((List.getD x.1 (Int.toNat s) ((0:Int),((0:Int),[]))).2.2,x.2.1)) fun y =>
 (if (y = true) then
 (letV (in14 ((List.getD x.1 (Int.toNat s) ((0:Int),((0:Int),[]))).2.2,x.2.2)) fun y_1 =>
 (if (y_1 = true) then
 (Sum.inr (Sum.inl ())) else
 (Sum.inl (w64 (s + (1:Int)))))) else
 (Sum.inl (w64 (s + (1:Int)))))) else
 (Sum.inr (Sum.inr (()))))
def shared14_l0_pre (x : ((List (Int × (Int × (List Int)))) × I2)) (s:Int) : Prop :=
 ((s < (x.1.length:Int)) →
 ((((0:Int) ≤ s) ∧ (s < (x.1.length:Int))) ∧
 (((Int.toNat s) < (List.length x.1)) ∧
 (((Int.toNat s) < (List.length x.1)) ∧
 (((Int.toNat s) < (List.length x.1)) ∧
 ((in14_pre ((List.getD x.1 (Int.toNat s) ((0:Int),((0:Int),[]))).2.2,x.2.1)) ∧
 letP (in14 ((List.getD x.1 (Int.toNat s) ((0:Int),((0:Int),[]))).2.2,x.2.1)) fun y =>
 ((y = true) →
 ((((0:Int) ≤ s) ∧ (s < (x.1.length:Int))) ∧
 (((Int.toNat s) < (List.length x.1)) ∧
 (((Int.toNat s) < (List.length x.1)) ∧
 (((Int.toNat s) < (List.length x.1)) ∧
 (in14_pre ((List.getD x.1 (Int.toNat s) ((0:Int),((0:Int),[]))).2.2,x.2.2)))))))))))))
def shared14_l0_t (x : ((List (Int × (Int × (List Int)))) × I2)) (s:Int) : Tr (Int ⊕ (Unit ⊕ Unit)) true :=
 (.i10 (s < (nL x.1))
 (.oI3 s x.1
 (.fn in14_S ((gT x.1 s (z0,(z0,[]))).2.2,x.2.1) fun y =>
 (.b10 y
 (.oI3 s x.1
 (.fn in14_S ((gT x.1 s (z0,(z0,[]))).2.2,x.2.2) fun y_1 =>
 (.b00 y_1
 (.ret (.inr (Sum.inl ())))
 (.ret (.inl (w1 s))))))
 (.ret (.inl (w1 s))))))
 (.ret (.inr (Sum.inr (())))))
def shared14 (x : ((List (Int × (Int × (List Int)))) × I2)) : Bool :=
 (letV (run (shared14_l0_step x) (0:Int)) fun r =>
 (Sum.elim (fun a =>
 true) (fun b =>
 false) r))
def shared14_pre (x : ((List (Int × (Int × (List Int)))) × I2)) : Prop :=
 (Term (shared14_l0_step x) (shared14_l0_pre x) (0:Int))
def shared14_t (x : ((List (Int × (Int × (List Int)))) × I2)) : Tr Bool true :=
 (LoopD.lp (shared14_l0 x) (shared14_l0_t x) z0 fun r =>
 (.s00 r (fun a =>
 (.ret true)) (fun b =>
 (.ret false))))
abbrev shared14_S : FnS := ⟨(.pair (.one (Ty.sl (Ty.prod yi (Ty.prod yi (Ty.sl yi))))) (.pair (.one yi) (.one yi))),(.one Ty.bool),shared14_pre,shared14⟩
theorem shared14_ok : SpecOk Try.prog 27 (fnSpec shared14_S) := SpecOk.tr shared14_S shared14_t (fn := Try.f27) tt_ok sp_in14_ok mixed (by kernel_rfl) (ItsOk.nil _ _) (fun x => (LpsOk.tr tt_ok (SpecsOk.ctxI sp_in14_ok (ItsOk.nil _ _)) mixed 0 (shared14_l0 x) (shared14_l0_t x) LpsOk.nil (by kernel_rfl) fun g s Q => (by kernel_rfl))) (fun x => (by kernel_rfl)) fun x Q => (by kernel_rfl)
def sp_shared14 : List (Nat × Ev.Spec) := (27,fnSpec shared14_S) :: sp_in14
theorem sp_shared14_ok : SpecsOk Try.prog sp_shared14 := SpecsOk.add (fn := Try.f27) (by kernel_rfl) shared14_ok sp_in14_ok
def edgeNext_l2 (x : ((List I3) × ((List I2) × ((List I3) × (List I9))))) : LoopD := ⟨[],⟨pvs 144 0 [(1,.v (.one (.ptr 0 0))),(3,.v (.one (.full 5))),(5,.v (.one (.full 6))),(7,.v (.one (.i .i64))),(8,.v (.one (.full 7))),(10,.v (.one (.i .i64)))],[.cells [.full 1,.full 2,.full 3,.full 4] 26,.row yy3 0,.row yy2 0,.row yy3 0,.row yy9 0,.row (Ty.prod yi (Ty.prod yi (Ty.sl yi))) 2,.row yi 2,.row yi 2],0,none,[],[2,3,4,5],[6,7,0,8,1],[(.l (Ty.prod yi (Ty.prod yi (Ty.sl yi)))),(.l yi),.i,(.l yi),.i],[.l yy3 x.1,.l yy2 x.2.1,.l yy3 x.2.2.1,.l yy9 x.2.2.2]⟩,[⟨.ret,.ret,⟨pvs 144 0 [(2,.v (.one (.b)))],[],0,none,[],[0],[],[],[.b false]⟩⟩,⟨(.exit 2),.normal,⟨pvs 144 0 [(1,.v (.one (.ptr 0 0))),(3,.v (.one (.full 5))),(5,.v (.one (.full 6))),(7,.v (.one (.i .i64)))],[.cells [.full 1,.full 2,.full 3,.full 4] 26,.row yy3 0,.row yy2 0,.row yy3 0,.row yy9 0,.row (Ty.prod yi (Ty.prod yi (Ty.sl yi))) 2,.row yi 2],0,none,[],[1,2,3,4],[5,6,0],[(.l (Ty.prod yi (Ty.prod yi (Ty.sl yi)))),(.l yi),.i],[.l yy3 x.1,.l yy2 x.2.1,.l yy3 x.2.2.1,.l yy9 x.2.2.2]⟩⟩]⟩
def edgeNext_l2_step (x : ((List I3) × ((List I2) × ((List I3) × (List I9))))) (s : ((List (Int × (Int × (List Int)))) × ((List Int) × (Int × ((List Int) × Int))))) : ((List (Int × (Int × (List Int)))) × ((List Int) × (Int × ((List Int) × Int)))) ⊕ (Unit ⊕ ((List (Int × (Int × (List Int)))) × ((List Int) × Int))) :=
 (if (s.2.2.2.2 < (s.2.2.2.1.length:Int)) then
 (if ((List.getD s.2.2.2.1 (Int.toNat s.2.2.2.2) (0:Int)) < (0:Int)) then
 (Sum.inr (Sum.inl ())) else
 (if ((List.getD s.2.2.2.1 (Int.toNat s.2.2.2.2) (0:Int)) ≥ (x.2.2.2.length:Int)) then
 (Sum.inr (Sum.inl ())) else
 (if (((List.getD s.2.2.2.1 (Int.toNat s.2.2.2.2) (0:Int)) == s.2.2.1) = true) then
 (Sum.inr (Sum.inl ())) else
 (if (((List.getD s.2.1 (Int.toNat (List.getD s.2.2.2.1 (Int.toNat s.2.2.2.2) (0:Int))) (0:Int)) != (List.getD s.2.1 (Int.toNat s.2.2.1) (0:Int))) = true) then
 (Sum.inr (Sum.inl ())) else
 (if (s.2.2.2.2 > (0:Int)) then
 (if ((List.getD s.2.2.2.1 (Int.toNat (w64 (s.2.2.2.2 - (1:Int)))) (0:Int)) ≥ (List.getD s.2.2.2.1 (Int.toNat s.2.2.2.2) (0:Int))) then
 (Sum.inr (Sum.inl ())) else
 (letV (enext (x,(List.getD s.2.2.2.1 (Int.toNat s.2.2.2.2) (0:Int)))) fun y =>
 (letV (in14 (y.1,s.2.2.1)) fun y_1 =>
 (if ((!y_1) = true) then
 (Sum.inr (Sum.inl ())) else
 (letV (shared14 (s.1,(s.2.2.1,(List.getD s.2.2.2.1 (Int.toNat s.2.2.2.2) (0:Int))))) fun y_2 =>
 (if ((!y_2) = true) then
 (Sum.inr (Sum.inl ())) else
 (Sum.inl (s.1,(s.2.1,(s.2.2.1,(s.2.2.2.1,(w64 (s.2.2.2.2 + (1:Int)))))))))))))) else
 (letV (enext (x,(List.getD s.2.2.2.1 (Int.toNat s.2.2.2.2) (0:Int)))) fun y =>
 (letV (in14 (y.1,s.2.2.1)) fun y_1 =>
 (if ((!y_1) = true) then
 (Sum.inr (Sum.inl ())) else
 (letV (shared14 (s.1,(s.2.2.1,(List.getD s.2.2.2.1 (Int.toNat s.2.2.2.2) (0:Int))))) fun y_2 =>
 (if ((!y_2) = true) then
 (Sum.inr (Sum.inl ())) else
 (Sum.inl (s.1,(s.2.1,(s.2.2.1,(s.2.2.2.1,(w64 (s.2.2.2.2 + (1:Int)))))))))))))))))) else
 (Sum.inr (Sum.inr ((s.1,(s.2.1,s.2.2.1))))))
def edgeNext_l2_pre (x : ((List I3) × ((List I2) × ((List I3) × (List I9))))) (s : ((List (Int × (Int × (List Int)))) × ((List Int) × (Int × ((List Int) × Int))))) : Prop :=
 ((s.2.2.2.2 < (s.2.2.2.1.length:Int)) →
 ((((0:Int) ≤ s.2.2.2.2) ∧ (s.2.2.2.2 < (s.2.2.2.1.length:Int))) ∧
 (((Int.toNat s.2.2.2.2) < (List.length s.2.2.2.1)) ∧
 (((Int.toNat s.2.2.2.2) < (List.length s.2.2.2.1)) ∧
 (¬ ((List.getD s.2.2.2.1 (Int.toNat s.2.2.2.2) (0:Int)) < (0:Int)) →
 ((((0:Int) ≤ s.2.2.2.2) ∧ (s.2.2.2.2 < (s.2.2.2.1.length:Int))) ∧
 (((Int.toNat s.2.2.2.2) < (List.length s.2.2.2.1)) ∧
 (((Int.toNat s.2.2.2.2) < (List.length s.2.2.2.1)) ∧
 (¬ ((List.getD s.2.2.2.1 (Int.toNat s.2.2.2.2) (0:Int)) ≥ (x.2.2.2.length:Int)) →
 ((((0:Int) ≤ s.2.2.2.2) ∧ (s.2.2.2.2 < (s.2.2.2.1.length:Int))) ∧
 (((Int.toNat s.2.2.2.2) < (List.length s.2.2.2.1)) ∧
 (((Int.toNat s.2.2.2.2) < (List.length s.2.2.2.1)) ∧
 (¬ (((List.getD s.2.2.2.1 (Int.toNat s.2.2.2.2) (0:Int)) == s.2.2.1) = true) →
 ((((0:Int) ≤ s.2.2.2.2) ∧ (s.2.2.2.2 < (s.2.2.2.1.length:Int))) ∧
 (((Int.toNat s.2.2.2.2) < (List.length s.2.2.2.1)) ∧
 (((Int.toNat s.2.2.2.2) < (List.length s.2.2.2.1)) ∧
 ((((0:Int) ≤ (List.getD s.2.2.2.1 (Int.toNat s.2.2.2.2) (0:Int))) ∧ ((List.getD s.2.2.2.1 (Int.toNat s.2.2.2.2) (0:Int)) < (s.2.1.length:Int))) ∧
 (((Int.toNat (List.getD s.2.2.2.1 (Int.toNat s.2.2.2.2) (0:Int))) < (List.length s.2.1)) ∧
 (((Int.toNat (List.getD s.2.2.2.1 (Int.toNat s.2.2.2.2) (0:Int))) < (List.length s.2.1)) ∧
 ((((0:Int) ≤ s.2.2.1) ∧ (s.2.2.1 < (s.2.1.length:Int))) ∧
 (((Int.toNat s.2.2.1) < (List.length s.2.1)) ∧
 (((Int.toNat s.2.2.1) < (List.length s.2.1)) ∧
 (¬ (((List.getD s.2.1 (Int.toNat (List.getD s.2.2.2.1 (Int.toNat s.2.2.2.2) (0:Int))) (0:Int)) != (List.getD s.2.1 (Int.toNat s.2.2.1) (0:Int))) = true) →
 (((s.2.2.2.2 > (0:Int)) →
 ((((0:Int) ≤ (w64 (s.2.2.2.2 - (1:Int)))) ∧ ((w64 (s.2.2.2.2 - (1:Int))) < (s.2.2.2.1.length:Int))) ∧
 (((Int.toNat (w64 (s.2.2.2.2 - (1:Int)))) < (List.length s.2.2.2.1)) ∧
 (((Int.toNat (w64 (s.2.2.2.2 - (1:Int)))) < (List.length s.2.2.2.1)) ∧
 ((((0:Int) ≤ s.2.2.2.2) ∧ (s.2.2.2.2 < (s.2.2.2.1.length:Int))) ∧
 (((Int.toNat s.2.2.2.2) < (List.length s.2.2.2.1)) ∧
 (((Int.toNat s.2.2.2.2) < (List.length s.2.2.2.1)) ∧
 (¬ ((List.getD s.2.2.2.1 (Int.toNat (w64 (s.2.2.2.2 - (1:Int)))) (0:Int)) ≥ (List.getD s.2.2.2.1 (Int.toNat s.2.2.2.2) (0:Int))) →
 ((((0:Int) ≤ s.2.2.2.2) ∧ (s.2.2.2.2 < (s.2.2.2.1.length:Int))) ∧
 (((Int.toNat s.2.2.2.2) < (List.length s.2.2.2.1)) ∧
 (((Int.toNat s.2.2.2.2) < (List.length s.2.2.2.1)) ∧
 ((enext_pre (x,(List.getD s.2.2.2.1 (Int.toNat s.2.2.2.2) (0:Int)))) ∧
 letP (enext (x,(List.getD s.2.2.2.1 (Int.toNat s.2.2.2.2) (0:Int)))) fun y =>
 ((in14_pre (y.1,s.2.2.1)) ∧
 letP (in14 (y.1,s.2.2.1)) fun y_1 =>
 (¬ ((!y_1) = true) →
 ((((0:Int) ≤ s.2.2.2.2) ∧ (s.2.2.2.2 < (s.2.2.2.1.length:Int))) ∧
 (((Int.toNat s.2.2.2.2) < (List.length s.2.2.2.1)) ∧
 (((Int.toNat s.2.2.2.2) < (List.length s.2.2.2.1)) ∧
 (shared14_pre (s.1,(s.2.2.1,(List.getD s.2.2.2.1 (Int.toNat s.2.2.2.2) (0:Int)))))))))))))))))))))) ∧
 (¬ (s.2.2.2.2 > (0:Int)) →
 ((((0:Int) ≤ s.2.2.2.2) ∧ (s.2.2.2.2 < (s.2.2.2.1.length:Int))) ∧
 (((Int.toNat s.2.2.2.2) < (List.length s.2.2.2.1)) ∧
 (((Int.toNat s.2.2.2.2) < (List.length s.2.2.2.1)) ∧
 ((enext_pre (x,(List.getD s.2.2.2.1 (Int.toNat s.2.2.2.2) (0:Int)))) ∧
 letP (enext (x,(List.getD s.2.2.2.1 (Int.toNat s.2.2.2.2) (0:Int)))) fun y =>
 ((in14_pre (y.1,s.2.2.1)) ∧
 letP (in14 (y.1,s.2.2.1)) fun y_1 =>
 (¬ ((!y_1) = true) →
 ((((0:Int) ≤ s.2.2.2.2) ∧ (s.2.2.2.2 < (s.2.2.2.1.length:Int))) ∧
 (((Int.toNat s.2.2.2.2) < (List.length s.2.2.2.1)) ∧
 (((Int.toNat s.2.2.2.2) < (List.length s.2.2.2.1)) ∧
 (shared14_pre (s.1,(s.2.2.1,(List.getD s.2.2.2.1 (Int.toNat s.2.2.2.2) (0:Int)))))))))))))))))))))))))))))))))))))))
def edgeNext_l2_t (x : ((List I3) × ((List I2) × ((List I3) × (List I9))))) (s : ((List (Int × (Int × (List Int)))) × ((List Int) × (Int × ((List Int) × Int))))) : Tr (((List (Int × (Int × (List Int)))) × ((List Int) × (Int × ((List Int) × Int)))) ⊕ (Unit ⊕ ((List (Int × (Int × (List Int)))) × ((List Int) × Int)))) true :=
 (.i10 (s.2.2.2.2 < (nL s.2.2.2.1))
 (.oI2 s.2.2.2.2 s.2.2.2.1
 (.i01 ((gI s.2.2.2.1 s.2.2.2.2) < z0)
 (.ret (.inr (Sum.inl ())))
 (.oI2 s.2.2.2.2 s.2.2.2.1
 (.i01 ((gI s.2.2.2.1 s.2.2.2.2) ≥ (nL x.2.2.2))
 (.ret (.inr (Sum.inl ())))
 (.oI2 s.2.2.2.2 s.2.2.2.1
 (.b01 ((gI s.2.2.2.1 s.2.2.2.2) == s.2.2.1)
 (.ret (.inr (Sum.inl ())))
 (.oI2 s.2.2.2.2 s.2.2.2.1
 (.oI2 (gI s.2.2.2.1 s.2.2.2.2) s.2.1
 (.oI2 s.2.2.1 s.2.1
 (.b01 ((gI s.2.1 (gI s.2.2.2.1 s.2.2.2.2)) != (gI s.2.1 s.2.2.1))
 (.ret (.inr (Sum.inl ())))
 (.i11 (s.2.2.2.2 > z0)
 (.oI2 (wm s.2.2.2.2) s.2.2.2.1
 (.oI2 s.2.2.2.2 s.2.2.2.1
 (.i01 ((gI s.2.2.2.1 (wm s.2.2.2.2)) ≥ (gI s.2.2.2.1 s.2.2.2.2))
 (.ret (.inr (Sum.inl ())))
 (.oI2 s.2.2.2.2 s.2.2.2.1
 (.fn enext_S (x,(gI s.2.2.2.1 s.2.2.2.2)) fun y =>
 (.fn in14_S (y.1,s.2.2.1) fun y_1 =>
 (.b01 (!y_1)
 (.ret (.inr (Sum.inl ())))
 (.oI2 s.2.2.2.2 s.2.2.2.1
 (.fn shared14_S (s.1,(s.2.2.1,(gI s.2.2.2.1 s.2.2.2.2))) fun y_2 =>
 (.b00 (!y_2)
 (.ret (.inr (Sum.inl ())))
 (.ret (.inl (s.1,(s.2.1,(s.2.2.1,(s.2.2.2.1,(w1 s.2.2.2.2)))))))))))))))))
 (.oI2 s.2.2.2.2 s.2.2.2.1
 (.fn enext_S (x,(gI s.2.2.2.1 s.2.2.2.2)) fun y =>
 (.fn in14_S (y.1,s.2.2.1) fun y_1 =>
 (.b01 (!y_1)
 (.ret (.inr (Sum.inl ())))
 (.oI2 s.2.2.2.2 s.2.2.2.1
 (.fn shared14_S (s.1,(s.2.2.1,(gI s.2.2.2.1 s.2.2.2.2))) fun y_2 =>
 (.b00 (!y_2)
 (.ret (.inr (Sum.inl ())))
 (.ret (.inl (s.1,(s.2.1,(s.2.2.1,(s.2.2.2.1,(w1 s.2.2.2.2)))))))))))))))))))))))))
 (.ret (.inr (Sum.inr ((s.1,(s.2.1,s.2.2.1)))))))
def edgeNext_l0 (x : ((List I3) × ((List I2) × ((List I3) × (List I9))))) : LoopD := ⟨[],⟨pvs 144 0 [(1,.v (.one (.ptr 0 0))),(3,.v (.one (.full 5))),(5,.v (.one (.full 6))),(7,.v (.one (.i .i64)))],[.cells [.full 1,.full 2,.full 3,.full 4] 26,.row yy3 0,.row yy2 0,.row yy3 0,.row yy9 0,.row (Ty.prod yi (Ty.prod yi (Ty.sl yi))) 2,.row yi 2],0,none,[],[1,2,3,4],[5,6,0],[(.l (Ty.prod yi (Ty.prod yi (Ty.sl yi)))),(.l yi),.i],[.l yy3 x.1,.l yy2 x.2.1,.l yy3 x.2.2.1,.l yy9 x.2.2.2]⟩,[⟨.ret,.ret,⟨pvs 144 0 [(2,.v (.one (.b)))],[],0,none,[],[0],[],[],[.b false]⟩⟩,⟨(.exit 0),.normal,⟨pvs 144 0 [],[],0,none,[],[],[],[],[]⟩⟩]⟩
def edgeNext_l0_step (x : ((List I3) × ((List I2) × ((List I3) × (List I9))))) (s : ((List (Int × (Int × (List Int)))) × ((List Int) × Int))) : ((List (Int × (Int × (List Int)))) × ((List Int) × Int)) ⊕ (Unit ⊕ Unit) :=
 (if (s.2.2 < (x.2.2.2.length:Int)) then
 (letV (enext (x,s.2.2)) fun y =>
 (if ((y.2 != (0:Int)) = true) then
 (Sum.inr (Sum.inl ())) else
 (letV (run (edgeNext_l2_step x) (s.1,(s.2.1,(s.2.2,(y.1,(0:Int)))))) fun r =>
 (Sum.elim (fun a =>
 (Sum.inr (Sum.inl ()))) (fun b =>
 (Sum.inl (b.1,(b.2.1,(w64 (b.2.2 + (1:Int))))))) r)))) else
 (Sum.inr (Sum.inr (()))))
def edgeNext_l0_pre (x : ((List I3) × ((List I2) × ((List I3) × (List I9))))) (s : ((List (Int × (Int × (List Int)))) × ((List Int) × Int))) : Prop :=
 ((s.2.2 < (x.2.2.2.length:Int)) →
 ((enext_pre (x,s.2.2)) ∧
 letP (enext (x,s.2.2)) fun y =>
 (¬ ((y.2 != (0:Int)) = true) →
 (Term (edgeNext_l2_step x) (edgeNext_l2_pre x) (s.1,(s.2.1,(s.2.2,(y.1,(0:Int)))))))))
def edgeNext_l0_t (x : ((List I3) × ((List I2) × ((List I3) × (List I9))))) (s : ((List (Int × (Int × (List Int)))) × ((List Int) × Int))) : Tr (((List (Int × (Int × (List Int)))) × ((List Int) × Int)) ⊕ (Unit ⊕ Unit)) true :=
 (.i10 (s.2.2 < (nL x.2.2.2))
 (.fn enext_S (x,s.2.2) fun y =>
 (.b01 (y.2 != z0)
 (.ret (.inr (Sum.inl ())))
 (LoopD.lp (edgeNext_l2 x) (edgeNext_l2_t x) (s.1,(s.2.1,(s.2.2,(y.1,z0)))) fun r =>
 (.s00 r (fun a =>
 (.ret (.inr (Sum.inl ())))) (fun b =>
 (.ret (.inl (b.1,(b.2.1,(w1 b.2.2))))))))))
 (.ret (.inr (Sum.inr (())))))
def edgeNext (x : ((List I3) × ((List I2) × ((List I3) × (List I9))))) : Bool :=
 (letV (few14 x) fun y =>
 (if ((!y) = true) then
 (letV (edged false) fun y_1 =>
 y_1) else
 (letV (meshis x) fun y_1 =>
 (if ((!y_1) = true) then
 (letV (edged false) fun y_2 =>
 y_2) else
 (letV (eedges x) fun y_2 =>
 (letV (eparts x) fun y_3 =>
 (if ((y_2.2 != (0:Int)) = true) then
 false else
 (if ((y_3.2 != (0:Int)) = true) then
 false else
 (if (((y_3.1.length:Int) != (x.2.2.2.length:Int)) = true) then
 false else
 (letV (run (edgeNext_l0_step x) (y_2.1,(y_3.1,(0:Int)))) fun r =>
 (Sum.elim (fun a =>
 false) (fun b =>
 (letV (edged false) fun y_4 =>
 y_4)) r)))))))))))
def edgeNext_pre (x : ((List I3) × ((List I2) × ((List I3) × (List I9))))) : Prop :=
 (letP (few14 x) fun y =>
 ((((!y) = true) →
 (edged_pre false)) ∧
 (¬ ((!y) = true) →
 ((meshis_pre x) ∧
 letP (meshis x) fun y_1 =>
 ((((!y_1) = true) →
 (edged_pre false)) ∧
 (¬ ((!y_1) = true) →
 ((eedges_pre x) ∧
 letP (eedges x) fun y_2 =>
 ((eparts_pre x) ∧
 letP (eparts x) fun y_3 =>
 (¬ ((y_2.2 != (0:Int)) = true) →
 (¬ ((y_3.2 != (0:Int)) = true) →
 (¬ (((y_3.1.length:Int) != (x.2.2.2.length:Int)) = true) →
 (Term (edgeNext_l0_step x) (edgeNext_l0_pre x) (y_2.1,(y_3.1,(0:Int))) ∧
 letP (run (edgeNext_l0_step x) (y_2.1,(y_3.1,(0:Int)))) fun r =>
 (cS r (fun a =>
 True) (fun b =>
 (edged_pre false)))))))))))))))
def edgeNext_t (x : ((List I3) × ((List I2) × ((List I3) × (List I9))))) : Tr Bool true :=
 (.fn0 few14_S x trivial fun y =>
 (.b11 (!y)
 (.fn edged_S false fun y_1 =>
 (.ret y_1))
 (.fn meshis_S x fun y_1 =>
 (.b11 (!y_1)
 (.fn edged_S false fun y_2 =>
 (.ret y_2))
 (.fn eedges_S x fun y_2 =>
 (.fn eparts_S x fun y_3 =>
 (.b01 (y_2.2 != z0)
 (.ret false)
 (.b01 (y_3.2 != z0)
 (.ret false)
 (.b01 ((nL y_3.1) != (nL x.2.2.2))
 (.ret false)
 (LoopD.lp (edgeNext_l0 x) (edgeNext_l0_t x) (y_2.1,(y_3.1,z0)) fun r =>
 (.s01 r (fun a =>
 (.ret false)) (fun b =>
 (.fn edged_S false fun y_4 =>
 (.ret y_4))))))))))))))
abbrev edgeNext_S : FnS := ⟨(.agg (Ty.prod (Ty.sl yy3) (Ty.prod (Ty.sl yy2) (Ty.prod (Ty.sl yy3) (Ty.sl yy9))))),(.one Ty.bool),edgeNext_pre,edgeNext⟩
theorem edgeNext_ok : SpecOk Try.prog 4 (fnSpec edgeNext_S) := SpecOk.tr edgeNext_S edgeNext_t (fn := Try.f4) tt_ok sp_shared14_ok mixed (by kernel_rfl) (ItsOk.nil _ _) (fun x => (LpsOk.tr tt_ok (SpecsOk.ctxI sp_shared14_ok (ItsOk.nil _ _)) mixed 0 (edgeNext_l0 x) (edgeNext_l0_t x) (LpsOk.tr tt_ok (SpecsOk.ctxI sp_shared14_ok (ItsOk.nil _ _)) mixed 2 (edgeNext_l2 x) (edgeNext_l2_t x) LpsOk.nil (by kernel_rfl) fun g s Q => (by kernel_rfl)) (by kernel_rfl) fun g s Q => (by kernel_rfl))) (fun x => (by kernel_rfl)) fun x Q => (by kernel_rfl)
end Go.Proofs.Ytleemdeodmdnkaa
