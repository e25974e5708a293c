/- Models: the laws. -/
import Derived.Test.YtaipcbdilkcdbaaUc
noncomputable section
set_option linter.unusedSectionVars false
set_option linter.unusedVariables false
set_option linter.unusedSimpArgs false
namespace Go.Proofs.Ytaipcbdilkcdbaa
open Go Go.Ev Go.Proofs
def sameI_l0 (x : ((List Int) × (List Int))) : LoopD := ⟨[],⟨pvs 26 0 [(0,.v (.one (.full 0))),(1,.v (.one (.full 1))),(5,.v (.one (.i .i64)))],[.row yi 0,.row yi 0],0,none,[],[1,2],[0],[.i],[.l yi x.1,.l yi x.2]⟩,[⟨.ret,.ret,⟨pvs 26 0 [(4,.v (.one (.b)))],[],0,none,[],[0],[],[],[.b false]⟩⟩,⟨(.exit 0),.normal,⟨pvs 26 0 [],[],0,none,[],[],[],[],[]⟩⟩]⟩
def sameI_l0_step (x : ((List Int) × (List Int))) (s:Int) : Int ⊕ (Unit ⊕ Unit) :=
 (if (s < (x.1.length:Int)) then
 (if (((List.getD x.1 (Int.toNat s) (0:Int)) != (List.getD x.2 (Int.toNat s) (0:Int))) = true) then
 (Sum.inr (Sum.inl ())) else
 (Sum.inl (w64 (s + (1:Int))))) else
 (Sum.inr (Sum.inr (()))))
def sameI_l0_pre (x : ((List Int) × (List Int))) (s:Int) : Prop :=
 ((s < (x.1.length:Int)) →
 ((((0:Int) ≤ s) ∧ (s < (x.1.length:Int))) ∧
 (((Int.toNat s) < (List.length x.1)) ∧
 (((Int.toNat s) < (List.length x.1)) ∧
 ((((0:Int) ≤ s) ∧ (s < (x.2.length:Int))) ∧
 (((Int.toNat s) < (List.length x.2)) ∧
 ((Int.toNat s) < (List.length x.2))))))))
def sameI_l0_t (x : ((List Int) × (List Int))) (s:Int) : Tr (Int ⊕ (Unit ⊕ Unit)) true :=
 (.i10 (s < (nL x.1))
 (.oI2 s x.1
 (.oI2 s x.2
 (.b00 ((gI x.1 s) != (gI x.2 s))
 (.ret (.inr (Sum.inl ())))
 (.ret (.inl (w1 s))))))
 (.ret (.inr (Sum.inr (())))))
def sameI (x : ((List Int) × (List Int))) : Bool :=
 (if (((x.1.length:Int) != (x.2.length:Int)) = true) then
 false else
 (letV (run (sameI_l0_step x) (0:Int)) fun r =>
 (Sum.elim (fun a =>
 false) (fun b =>
 true) r)))
def sameI_pre (x : ((List Int) × (List Int))) : Prop :=
 (¬ (((x.1.length:Int) != (x.2.length:Int)) = true) →
 (Term (sameI_l0_step x) (sameI_l0_pre x) (0:Int)))
def sameI_t (x : ((List Int) × (List Int))) : Tr Bool true :=
 (.b01 ((nL x.1) != (nL x.2))
 (.ret false)
 (LoopD.lp (sameI_l0 x) (sameI_l0_t x) z0 fun r =>
 (.s00 r (fun a =>
 (.ret false)) (fun b =>
 (.ret true)))))
abbrev sameI_S : FnS := ⟨(.pair (.one (Ty.sl yi)) (.one (Ty.sl yi))),(.one Ty.bool),sameI_pre,sameI⟩
theorem sameI_ok : SpecOk Try.prog 21 (fnSpec sameI_S) := SpecOk.tr sameI_S sameI_t (fn := Try.f21) tt_ok sp_depthT_ok mixed (by kernel_rfl) (ItsOk.nil _ _) (fun x => (LpsOk.tr tt_ok (SpecsOk.ctxI sp_depthT_ok (ItsOk.nil _ _)) mixed 0 (sameI_l0 x) (sameI_l0_t x) LpsOk.nil (by kernel_rfl) fun g s Q => (by kernel_rfl))) (fun x => (by kernel_rfl)) fun x Q => (by kernel_rfl)
def sp_sameI : List (Nat × Ev.Spec) := (21,fnSpec sameI_S) :: sp_depthT
theorem sp_sameI_ok : SpecsOk Try.prog sp_sameI := SpecsOk.add (fn := Try.f21) (by kernel_rfl) sameI_ok sp_depthT_ok
def alongM (x:Int) : I9 :=
 ((x,((0:Int),(0:Int))),(((w64 (x + (5:Int))),((0:Int),(0:Int))),(x,((1:Int),(0:Int)))))
def alongM_pre (_:Int) : Prop := True
def alongM_t (x:Int) : Tr I9 false :=
 (.ret ((x,zz2),(((w64 (x + (5:Int))),zz2),(x,(z1,z0)))))
abbrev alongM_S : FnS := ⟨(.one yi),(.agg yy9),alongM_pre,alongM⟩
theorem alongM_ok : SpecOk Try.prog 20 (fnSpec alongM_S) := SpecOk.tr alongM_S alongM_t (fn := Try.f20) tt_ok sp_sameI_ok mixed (by kernel_rfl) (ItsOk.nil _ _) (fun x => LpsOk.nil) (fun x => (by kernel_rfl)) fun x Q => (by kernel_rfl)
def sp_alongM : List (Nat × Ev.Spec) := (20,fnSpec alongM_S) :: sp_sameI
theorem sp_alongM_ok : SpecsOk Try.prog sp_alongM := SpecsOk.add (fn := Try.f20) (by kernel_rfl) alongM_ok sp_sameI_ok
def grownM (x : Bool) : Bool :=
 (letV (alongM (0:Int)) fun y =>
 (letV (alongM (10:Int)) fun y_1 =>
 (letV (alongM (20:Int)) fun y_2 =>
 (letV (buildT [y,y_1,y_2]) fun y_3 =>
 (letV (splitN ([y,y_1,y_2],[(2:Int),(0:Int),(1:Int)])) fun y_4 =>
 (letV (splitN ([y,y_1,y_2],[(2:Int),(3:Int)])) fun y_5 =>
 (if ((y_3.2 == (0:Int)) = true) then
 (if (((y_3.1.length:Int) == (3:Int)) = true) then
 (if (((List.getD y_3.1 0 ((((0:Int),((0:Int),(0:Int))),((0:Int),((0:Int),(0:Int)))),((0:Int),((0:Int),[])))).2.1 == (1:Int)) = true) then
 (if (((List.getD y_3.1 0 ((((0:Int),((0:Int),(0:Int))),((0:Int),((0:Int),(0:Int)))),((0:Int),((0:Int),[])))).2.2.1 == (2:Int)) = true) then
 (letV (sameI ((List.getD y_3.1 1 ((((0:Int),((0:Int),(0:Int))),((0:Int),((0:Int),(0:Int)))),((0:Int),((0:Int),[])))).2.2.2,[(0:Int)])) fun y_6 =>
 (if (y_6 = true) then
 (letV (sameI ((List.getD y_3.1 2 ((((0:Int),((0:Int),(0:Int))),((0:Int),((0:Int),(0:Int)))),((0:Int),((0:Int),[])))).2.2.2,[(1:Int),(2:Int)])) fun y_7 =>
 (if (y_7 = true) then
 (if ((y_4.2.2 == y_3.2) = true) then
 (letV (sameI (y_4.1,[(0:Int)])) fun y_8 =>
 (if (y_8 = true) then
 (letV (sameI (y_4.2.1,[(1:Int),(2:Int)])) fun y_9 =>
 (if (y_9 = true) then
 (if ((y_5.2.2 == (1:Int)) = true) then
 (letV (isT (y_3.1,[y,y_1,y_2])) fun y_10 =>
 (if (y_10 = true) then
 (letV (isT ([],[])) fun y_11 =>
 (if ((!y_11) = true) then
 (letV (depthT y_3.1) fun y_12 =>
 (y_12 == (2:Int))) else
 false)) else
 false)) else
 false) else
 false)) else
 false)) else
 false) else
 false)) else
 false)) else
 false) else
 false) else
 false) else
 false)))))))
def grownM_pre (x : Bool) : Prop :=
 (letP (alongM (0:Int)) fun y =>
 (letP (alongM (10:Int)) fun y_1 =>
 (letP (alongM (20:Int)) fun y_2 =>
 ((buildT_pre [y,y_1,y_2]) ∧
 letP (buildT [y,y_1,y_2]) fun y_3 =>
 ((splitN_pre ([y,y_1,y_2],[(2:Int),(0:Int),(1:Int)])) ∧
 letP (splitN ([y,y_1,y_2],[(2:Int),(0:Int),(1:Int)])) fun y_4 =>
 ((splitN_pre ([y,y_1,y_2],[(2:Int),(3:Int)])) ∧
 letP (splitN ([y,y_1,y_2],[(2:Int),(3:Int)])) fun y_5 =>
 (((y_3.2 == (0:Int)) = true) →
 ((((y_3.1.length:Int) == (3:Int)) = true) →
 (((0:Int) < (y_3.1.length:Int)) ∧
 ((0 < (List.length y_3.1)) ∧
 ((0 < (List.length y_3.1)) ∧
 ((0 < (List.length y_3.1)) ∧
 ((((List.getD y_3.1 0 ((((0:Int),((0:Int),(0:Int))),((0:Int),((0:Int),(0:Int)))),((0:Int),((0:Int),[])))).2.1 == (1:Int)) = true) →
 (((0:Int) < (y_3.1.length:Int)) ∧
 ((0 < (List.length y_3.1)) ∧
 ((0 < (List.length y_3.1)) ∧
 ((0 < (List.length y_3.1)) ∧
 ((((List.getD y_3.1 0 ((((0:Int),((0:Int),(0:Int))),((0:Int),((0:Int),(0:Int)))),((0:Int),((0:Int),[])))).2.2.1 == (2:Int)) = true) →
 (((1:Int) < (y_3.1.length:Int)) ∧
 ((1 < (List.length y_3.1)) ∧
 ((1 < (List.length y_3.1)) ∧
 ((1 < (List.length y_3.1)) ∧
 ((sameI_pre ((List.getD y_3.1 1 ((((0:Int),((0:Int),(0:Int))),((0:Int),((0:Int),(0:Int)))),((0:Int),((0:Int),[])))).2.2.2,[(0:Int)])) ∧
 letP (sameI ((List.getD y_3.1 1 ((((0:Int),((0:Int),(0:Int))),((0:Int),((0:Int),(0:Int)))),((0:Int),((0:Int),[])))).2.2.2,[(0:Int)])) fun y_6 =>
 ((y_6 = true) →
 (((2:Int) < (y_3.1.length:Int)) ∧
 ((2 < (List.length y_3.1)) ∧
 ((2 < (List.length y_3.1)) ∧
 ((2 < (List.length y_3.1)) ∧
 ((sameI_pre ((List.getD y_3.1 2 ((((0:Int),((0:Int),(0:Int))),((0:Int),((0:Int),(0:Int)))),((0:Int),((0:Int),[])))).2.2.2,[(1:Int),(2:Int)])) ∧
 letP (sameI ((List.getD y_3.1 2 ((((0:Int),((0:Int),(0:Int))),((0:Int),((0:Int),(0:Int)))),((0:Int),((0:Int),[])))).2.2.2,[(1:Int),(2:Int)])) fun y_7 =>
 ((y_7 = true) →
 (((y_4.2.2 == y_3.2) = true) →
 ((sameI_pre (y_4.1,[(0:Int)])) ∧
 letP (sameI (y_4.1,[(0:Int)])) fun y_8 =>
 ((y_8 = true) →
 ((sameI_pre (y_4.2.1,[(1:Int),(2:Int)])) ∧
 letP (sameI (y_4.2.1,[(1:Int),(2:Int)])) fun y_9 =>
 ((y_9 = true) →
 (((y_5.2.2 == (1:Int)) = true) →
 ((isT_pre (y_3.1,[y,y_1,y_2])) ∧
 letP (isT (y_3.1,[y,y_1,y_2])) fun y_10 =>
 ((y_10 = true) →
 ((isT_pre ([],[])) ∧
 letP (isT ([],[])) fun y_11 =>
 (((!y_11) = true) →
 (depthT_pre y_3.1)))))))))))))))))))))))))))))))))))))))))
def grownM_t (x : Bool) : Tr Bool true :=
 (.fn0 alongM_S z0 trivial fun y =>
 (.fn0 alongM_S (10:Int) trivial fun y_1 =>
 (.fn0 alongM_S (20:Int) trivial fun y_2 =>
 (.fn buildT_S [y,y_1,y_2] fun y_3 =>
 (.fn splitN_S ([y,y_1,y_2],[(2:Int),z0,z1]) fun y_4 =>
 (.fn splitN_S ([y,y_1,y_2],[(2:Int),(3:Int)]) fun y_5 =>
 (.b10 (y_3.2 == z0)
 (.b10 ((nL y_3.1) == (3:Int))
 (.og (true && (decide (z0 < (nL y_3.1)))) (z0 < (nL y_3.1)) (fun h => (and_t rfl (decide_eq_true h)))
 (.od (0 < (List.length y_3.1))
 (.od (0 < (List.length y_3.1))
 (.od (0 < (List.length y_3.1))
 (.b10 ((List.getD y_3.1 0 ((zz3,zz3),(z0,(z0,[])))).2.1 == z1)
 (.og (true && (decide (z0 < (nL y_3.1)))) (z0 < (nL y_3.1)) (fun h => (and_t rfl (decide_eq_true h)))
 (.od (0 < (List.length y_3.1))
 (.od (0 < (List.length y_3.1))
 (.od (0 < (List.length y_3.1))
 (.b10 ((List.getD y_3.1 0 ((zz3,zz3),(z0,(z0,[])))).2.2.1 == (2:Int))
 (.og (true && (decide (z1 < (nL y_3.1)))) (z1 < (nL y_3.1)) (fun h => (and_t rfl (decide_eq_true h)))
 (.od (1 < (List.length y_3.1))
 (.od (1 < (List.length y_3.1))
 (.od (1 < (List.length y_3.1))
 (.fn sameI_S ((List.getD y_3.1 1 ((zz3,zz3),(z0,(z0,[])))).2.2.2,[z0]) fun y_6 =>
 (.b10 y_6
 (.og (true && (decide ((2:Int) < (nL y_3.1)))) ((2:Int) < (nL y_3.1)) (fun h => (and_t rfl (decide_eq_true h)))
 (.od (2 < (List.length y_3.1))
 (.od (2 < (List.length y_3.1))
 (.od (2 < (List.length y_3.1))
 (.fn sameI_S ((List.getD y_3.1 2 ((zz3,zz3),(z0,(z0,[])))).2.2.2,[z1,(2:Int)]) fun y_7 =>
 (.b10 y_7
 (.b10 (y_4.2.2 == y_3.2)
 (.fn sameI_S (y_4.1,[z0]) fun y_8 =>
 (.b10 y_8
 (.fn sameI_S (y_4.2.1,[z1,(2:Int)]) fun y_9 =>
 (.b10 y_9
 (.b10 (y_5.2.2 == z1)
 (.fn isT_S (y_3.1,[y,y_1,y_2]) fun y_10 =>
 (.b10 y_10
 (.fn isT_S ([],[]) fun y_11 =>
 (.b10 (!y_11)
 (.fn depthT_S y_3.1 fun y_12 =>
 (.ret (y_12 == (2:Int))))
 (.ret false)))
 (.ret false)))
 (.ret false))
 (.ret false)))
 (.ret false)))
 (.ret false))
 (.ret false)))))))
 (.ret false)))))))
 (.ret false))))))
 (.ret false))))))
 (.ret false))
 (.ret false))))))))
abbrev grownM_S : FnS := ⟨.none,(.one Ty.bool),grownM_pre,grownM⟩
theorem grownM_ok : SpecOk Try.prog 8 (fnSpec grownM_S) := SpecOk.tr grownM_S grownM_t (fn := Try.f8) tt_ok sp_alongM_ok mixed (by kernel_rfl) (ItsOk.nil _ _) (fun x => LpsOk.nil) (fun x => (by kernel_rfl)) fun x Q => (by kernel_rfl)
def sp_grownM : List (Nat × Ev.Spec) := (8,fnSpec grownM_S) :: sp_alongM
theorem sp_grownM_ok : SpecsOk Try.prog sp_grownM := SpecsOk.add (fn := Try.f8) (by kernel_rfl) grownM_ok sp_alongM_ok
def lawRight_l2 (x : (List I9)) : LoopD := ⟨[],⟨pvs 121 0 [(0,.v (.one (.full 0))),(3,.v (.one (.full 1))),(5,.v (.one (.i .i64))),(6,.v (.one (.i .i64))),(7,.v (.one (.full 2))),(8,.v (.one (.i .i64))),(9,.v (.one (.i .i64)))],[.row yy9 0,.row (Ty.prod (Ty.prod yy3 yy3) (Ty.prod yi (Ty.prod yi (Ty.sl yi)))) 2,.row yi 2],0,none,[],[4],[5,0,1,6,2,3],[(.l (Ty.prod (Ty.prod yy3 yy3) (Ty.prod yi (Ty.prod yi (Ty.sl yi))))),.i,.i,(.l yi),.i,.i],[.l yy9 x]⟩,[⟨.ret,.ret,⟨pvs 121 0 [(2,.v (.one (.b)))],[],0,none,[],[0],[],[],[.b false]⟩⟩,⟨(.exit 2),.normal,⟨pvs 121 0 [(0,.v (.one (.full 0))),(3,.v (.one (.full 1))),(5,.v (.one (.i .i64))),(6,.v (.one (.i .i64))),(7,.v (.one (.full 2))),(8,.v (.one (.i .i64)))],[.row yy9 0,.row (Ty.prod (Ty.prod yy3 yy3) (Ty.prod yi (Ty.prod yi (Ty.sl yi)))) 2,.row yi 2],0,none,[],[3],[4,0,1,5,2],[(.l (Ty.prod (Ty.prod yy3 yy3) (Ty.prod yi (Ty.prod yi (Ty.sl yi))))),.i,.i,(.l yi),.i],[.l yy9 x]⟩⟩]⟩
def lawRight_l2_step (x : (List I9)) (s : ((List ((I3 × I3) × (Int × (Int × (List Int))))) × (Int × (Int × ((List Int) × I2))))) : ((List ((I3 × I3) × (Int × (Int × (List Int))))) × (Int × (Int × ((List Int) × I2)))) ⊕ (Unit ⊕ ((List ((I3 × I3) × (Int × (Int × (List Int))))) × (Int × (Int × ((List Int) × Int))))) :=
 (if (s.2.2.2.2.2 < ((List.getD s.1 (Int.toNat s.2.2.2.2.1) ((((0:Int),((0:Int),(0:Int))),((0:Int),((0:Int),(0:Int)))),((0:Int),((0:Int),[])))).2.2.2.length:Int)) then
 (if ((List.getD (List.getD s.1 (Int.toNat s.2.2.2.2.1) ((((0:Int),((0:Int),(0:Int))),((0:Int),((0:Int),(0:Int)))),((0:Int),((0:Int),[])))).2.2.2 (Int.toNat s.2.2.2.2.2) (0:Int)) < (0:Int)) then
 (Sum.inr (Sum.inl ())) else
 (if ((List.getD (List.getD s.1 (Int.toNat s.2.2.2.2.1) ((((0:Int),((0:Int),(0:Int))),((0:Int),((0:Int),(0:Int)))),((0:Int),((0:Int),[])))).2.2.2 (Int.toNat s.2.2.2.2.2) (0:Int)) ≥ (x.length:Int)) then
 (Sum.inr (Sum.inl ())) else
 (letV (List.set s.2.2.2.1 (Int.toNat (List.getD (List.getD s.1 (Int.toNat s.2.2.2.2.1) ((((0:Int),((0:Int),(0:Int))),((0:Int),((0:Int),(0:Int)))),((0:Int),((0:Int),[])))).2.2.2 (Int.toNat s.2.2.2.2.2) (0:Int))) (w64 ((List.getD s.2.2.2.1 (Int.toNat (List.getD (List.getD s.1 (Int.toNat s.2.2.2.2.1) ((((0:Int),((0:Int),(0:Int))),((0:Int),((0:Int),(0:Int)))),((0:Int),((0:Int),[])))).2.2.2 (Int.toNat s.2.2.2.2.2) (0:Int))) (0:Int)) + (1:Int)))) fun y =>
 (Sum.inl (s.1,(s.2.1,(s.2.2.1,(y,(s.2.2.2.2.1,(w64 (s.2.2.2.2.2 + (1:Int)))))))))))) else
 (Sum.inr (Sum.inr ((s.1,(s.2.1,(s.2.2.1,(s.2.2.2.1,s.2.2.2.2.1))))))))
def lawRight_l2_pre (x : (List I9)) (s : ((List ((I3 × I3) × (Int × (Int × (List Int))))) × (Int × (Int × ((List Int) × I2))))) : Prop :=
 ((((0:Int) ≤ s.2.2.2.2.1) ∧ (s.2.2.2.2.1 < (s.1.length:Int))) ∧
 (((Int.toNat s.2.2.2.2.1) < (List.length s.1)) ∧
 (((Int.toNat s.2.2.2.2.1) < (List.length s.1)) ∧
 (((Int.toNat s.2.2.2.2.1) < (List.length s.1)) ∧
 ((s.2.2.2.2.2 < ((List.getD s.1 (Int.toNat s.2.2.2.2.1) ((((0:Int),((0:Int),(0:Int))),((0:Int),((0:Int),(0:Int)))),((0:Int),((0:Int),[])))).2.2.2.length:Int)) →
 ((((0:Int) ≤ s.2.2.2.2.1) ∧ (s.2.2.2.2.1 < (s.1.length:Int))) ∧
 (((Int.toNat s.2.2.2.2.1) < (List.length s.1)) ∧
 (((Int.toNat s.2.2.2.2.1) < (List.length s.1)) ∧
 (((Int.toNat s.2.2.2.2.1) < (List.length s.1)) ∧
 ((((0:Int) ≤ s.2.2.2.2.2) ∧ (s.2.2.2.2.2 < ((List.getD s.1 (Int.toNat s.2.2.2.2.1) ((((0:Int),((0:Int),(0:Int))),((0:Int),((0:Int),(0:Int)))),((0:Int),((0:Int),[])))).2.2.2.length:Int))) ∧
 (((Int.toNat s.2.2.2.2.2) < (List.length (List.getD s.1 (Int.toNat s.2.2.2.2.1) ((((0:Int),((0:Int),(0:Int))),((0:Int),((0:Int),(0:Int)))),((0:Int),((0:Int),[])))).2.2.2)) ∧
 (((Int.toNat s.2.2.2.2.2) < (List.length (List.getD s.1 (Int.toNat s.2.2.2.2.1) ((((0:Int),((0:Int),(0:Int))),((0:Int),((0:Int),(0:Int)))),((0:Int),((0:Int),[])))).2.2.2)) ∧
 (¬ ((List.getD (List.getD s.1 (Int.toNat s.2.2.2.2.1) ((((0:Int),((0:Int),(0:Int))),((0:Int),((0:Int),(0:Int)))),((0:Int),((0:Int),[])))).2.2.2 (Int.toNat s.2.2.2.2.2) (0:Int)) < (0:Int)) →
 (¬ ((List.getD (List.getD s.1 (Int.toNat s.2.2.2.2.1) ((((0:Int),((0:Int),(0:Int))),((0:Int),((0:Int),(0:Int)))),((0:Int),((0:Int),[])))).2.2.2 (Int.toNat s.2.2.2.2.2) (0:Int)) ≥ (x.length:Int)) →
 ((((0:Int) ≤ (List.getD (List.getD s.1 (Int.toNat s.2.2.2.2.1) ((((0:Int),((0:Int),(0:Int))),((0:Int),((0:Int),(0:Int)))),((0:Int),((0:Int),[])))).2.2.2 (Int.toNat s.2.2.2.2.2) (0:Int))) ∧ ((List.getD (List.getD s.1 (Int.toNat s.2.2.2.2.1) ((((0:Int),((0:Int),(0:Int))),((0:Int),((0:Int),(0:Int)))),((0:Int),((0:Int),[])))).2.2.2 (Int.toNat s.2.2.2.2.2) (0:Int)) < (s.2.2.2.1.length:Int))) ∧
 (((Int.toNat (List.getD (List.getD s.1 (Int.toNat s.2.2.2.2.1) ((((0:Int),((0:Int),(0:Int))),((0:Int),((0:Int),(0:Int)))),((0:Int),((0:Int),[])))).2.2.2 (Int.toNat s.2.2.2.2.2) (0:Int))) < (List.length s.2.2.2.1)) ∧
 (((Int.toNat (List.getD (List.getD s.1 (Int.toNat s.2.2.2.2.1) ((((0:Int),((0:Int),(0:Int))),((0:Int),((0:Int),(0:Int)))),((0:Int),((0:Int),[])))).2.2.2 (Int.toNat s.2.2.2.2.2) (0:Int))) < (List.length s.2.2.2.1)) ∧
 ((((0:Int) ≤ (List.getD (List.getD s.1 (Int.toNat s.2.2.2.2.1) ((((0:Int),((0:Int),(0:Int))),((0:Int),((0:Int),(0:Int)))),((0:Int),((0:Int),[])))).2.2.2 (Int.toNat s.2.2.2.2.2) (0:Int))) ∧ ((List.getD (List.getD s.1 (Int.toNat s.2.2.2.2.1) ((((0:Int),((0:Int),(0:Int))),((0:Int),((0:Int),(0:Int)))),((0:Int),((0:Int),[])))).2.2.2 (Int.toNat s.2.2.2.2.2) (0:Int)) < (s.2.2.2.1.length:Int))) ∧
 (((Int.toNat (List.getD (List.getD s.1 (Int.toNat s.2.2.2.2.1) ((((0:Int),((0:Int),(0:Int))),((0:Int),((0:Int),(0:Int)))),((0:Int),((0:Int),[])))).2.2.2 (Int.toNat s.2.2.2.2.2) (0:Int))) < (List.length s.2.2.2.1)) ∧
 ((Int.toNat (List.getD (List.getD s.1 (Int.toNat s.2.2.2.2.1) ((((0:Int),((0:Int),(0:Int))),((0:Int),((0:Int),(0:Int)))),((0:Int),((0:Int),[])))).2.2.2 (Int.toNat s.2.2.2.2.2) (0:Int))) < (List.length s.2.2.2.1)))))))))))))))))))))
def lawRight_l2_t (x : (List I9)) (s : ((List ((I3 × I3) × (Int × (Int × (List Int))))) × (Int × (Int × ((List Int) × I2))))) : Tr (((List ((I3 × I3) × (Int × (Int × (List Int))))) × (Int × (Int × ((List Int) × I2)))) ⊕ (Unit ⊕ ((List ((I3 × I3) × (Int × (Int × (List Int))))) × (Int × (Int × ((List Int) × Int)))))) true :=
 (.oI3 s.2.2.2.2.1 s.1
 (.i10 (s.2.2.2.2.2 < (nL (gT s.1 s.2.2.2.2.1 ((zz3,zz3),(z0,(z0,[])))).2.2.2))
 (.oI3 s.2.2.2.2.1 s.1
 (.oI2 s.2.2.2.2.2 (gT s.1 s.2.2.2.2.1 ((zz3,zz3),(z0,(z0,[])))).2.2.2
 (.i01 ((gI (gT s.1 s.2.2.2.2.1 ((zz3,zz3),(z0,(z0,[])))).2.2.2 s.2.2.2.2.2) < z0)
 (.ret (.inr (Sum.inl ())))
 (.i01 ((gI (gT s.1 s.2.2.2.2.1 ((zz3,zz3),(z0,(z0,[])))).2.2.2 s.2.2.2.2.2) ≥ (nL x))
 (.ret (.inr (Sum.inl ())))
 (.oI2 (gI (gT s.1 s.2.2.2.2.1 ((zz3,zz3),(z0,(z0,[])))).2.2.2 s.2.2.2.2.2) s.2.2.2.1
 (.oI2 (gI (gT s.1 s.2.2.2.2.1 ((zz3,zz3),(z0,(z0,[])))).2.2.2 s.2.2.2.2.2) s.2.2.2.1
 (.lt (List.set s.2.2.2.1 (tN (gI (gT s.1 s.2.2.2.2.1 ((zz3,zz3),(z0,(z0,[])))).2.2.2 s.2.2.2.2.2)) (w1 (gI s.2.2.2.1 (gI (gT s.1 s.2.2.2.2.1 ((zz3,zz3),(z0,(z0,[])))).2.2.2 s.2.2.2.2.2)))) fun y =>
 (.ret (.inl (s.1,(s.2.1,(s.2.2.1,(y,(s.2.2.2.2.1,(w1 s.2.2.2.2.2)))))))))))))))
 (.ret (.inr (Sum.inr ((s.1,(s.2.1,(s.2.2.1,(s.2.2.2.1,s.2.2.2.2.1))))))))))
def lawRight_l0 (x : (List I9)) : LoopD := ⟨[],⟨pvs 121 0 [(0,.v (.one (.full 0))),(3,.v (.one (.full 1))),(5,.v (.one (.i .i64))),(6,.v (.one (.i .i64))),(7,.v (.one (.full 2))),(8,.v (.one (.i .i64)))],[.row yy9 0,.row (Ty.prod (Ty.prod yy3 yy3) (Ty.prod yi (Ty.prod yi (Ty.sl yi)))) 2,.row yi 2],0,none,[],[3],[4,0,1,5,2],[(.l (Ty.prod (Ty.prod yy3 yy3) (Ty.prod yi (Ty.prod yi (Ty.sl yi))))),.i,.i,(.l yi),.i],[.l yy9 x]⟩,[⟨.ret,.ret,⟨pvs 121 0 [(2,.v (.one (.b)))],[],0,none,[],[0],[],[],[.b false]⟩⟩,⟨(.exit 0),.normal,⟨pvs 121 0 [(0,.v (.one (.full 0))),(3,.v (.one (.full 1))),(5,.v (.one (.i .i64))),(6,.v (.one (.i .i64))),(7,.v (.one (.full 2)))],[.row yy9 0,.row (Ty.prod (Ty.prod yy3 yy3) (Ty.prod yi (Ty.prod yi (Ty.sl yi)))) 2,.row yi 2],0,none,[],[2],[3,0,1,4],[(.l (Ty.prod (Ty.prod yy3 yy3) (Ty.prod yi (Ty.prod yi (Ty.sl yi))))),.i,.i,(.l yi)],[.l yy9 x]⟩⟩]⟩
def lawRight_l0_step (x : (List I9)) (s : ((List ((I3 × I3) × (Int × (Int × (List Int))))) × (Int × (Int × ((List Int) × Int))))) : ((List ((I3 × I3) × (Int × (Int × (List Int))))) × (Int × (Int × ((List Int) × Int)))) ⊕ (Unit ⊕ ((List ((I3 × I3) × (Int × (Int × (List Int))))) × (Int × (Int × (List Int))))) :=
 (if (s.2.2.2.2 < (s.1.length:Int)) then
 (if (((List.getD s.1 (Int.toNat s.2.2.2.2) ((((0:Int),((0:Int),(0:Int))),((0:Int),((0:Int),(0:Int)))),((0:Int),((0:Int),[])))).2.1 == (0:Int)) = true) then
 (if (((List.getD s.1 (Int.toNat s.2.2.2.2) ((((0:Int),((0:Int),(0:Int))),((0:Int),((0:Int),(0:Int)))),((0:Int),((0:Int),[])))).2.2.2.length:Int) > (2:Int)) then
 (Sum.inr (Sum.inl ())) else
 (letV (run (lawRight_l2_step x) (s.1,(s.2.1,((w64 (s.2.2.1 + (1:Int))),(s.2.2.2.1,(s.2.2.2.2,(0:Int))))))) fun r =>
 (Sum.elim (fun a =>
 (Sum.inr (Sum.inl ()))) (fun b =>
 (Sum.inl (b.1,(b.2.1,(b.2.2.1,(b.2.2.2.1,(w64 (b.2.2.2.2 + (1:Int))))))))) r))) else
 (letV (run (lawRight_l2_step x) (s.1,((w64 (s.2.1 + (1:Int))),(s.2.2.1,(s.2.2.2.1,(s.2.2.2.2,(0:Int))))))) fun r =>
 (Sum.elim (fun a =>
 (Sum.inr (Sum.inl ()))) (fun b =>
 (Sum.inl (b.1,(b.2.1,(b.2.2.1,(b.2.2.2.1,(w64 (b.2.2.2.2 + (1:Int))))))))) r))) else
 (Sum.inr (Sum.inr ((s.1,(s.2.1,(s.2.2.1,s.2.2.2.1)))))))
def lawRight_l0_pre (x : (List I9)) (s : ((List ((I3 × I3) × (Int × (Int × (List Int))))) × (Int × (Int × ((List Int) × Int))))) : Prop :=
 ((s.2.2.2.2 < (s.1.length:Int)) →
 ((((0:Int) ≤ s.2.2.2.2) ∧ (s.2.2.2.2 < (s.1.length:Int))) ∧
 (((Int.toNat s.2.2.2.2) < (List.length s.1)) ∧
 (((Int.toNat s.2.2.2.2) < (List.length s.1)) ∧
 (((Int.toNat s.2.2.2.2) < (List.length s.1)) ∧
 (((((List.getD s.1 (Int.toNat s.2.2.2.2) ((((0:Int),((0:Int),(0:Int))),((0:Int),((0:Int),(0:Int)))),((0:Int),((0:Int),[])))).2.1 == (0:Int)) = true) →
 ((((0:Int) ≤ s.2.2.2.2) ∧ (s.2.2.2.2 < (s.1.length:Int))) ∧
 (((Int.toNat s.2.2.2.2) < (List.length s.1)) ∧
 (((Int.toNat s.2.2.2.2) < (List.length s.1)) ∧
 (((Int.toNat s.2.2.2.2) < (List.length s.1)) ∧
 (¬ (((List.getD s.1 (Int.toNat s.2.2.2.2) ((((0:Int),((0:Int),(0:Int))),((0:Int),((0:Int),(0:Int)))),((0:Int),((0:Int),[])))).2.2.2.length:Int) > (2:Int)) →
 (Term (lawRight_l2_step x) (lawRight_l2_pre x) (s.1,(s.2.1,((w64 (s.2.2.1 + (1:Int))),(s.2.2.2.1,(s.2.2.2.2,(0:Int))))))))))))) ∧
 (¬ (((List.getD s.1 (Int.toNat s.2.2.2.2) ((((0:Int),((0:Int),(0:Int))),((0:Int),((0:Int),(0:Int)))),((0:Int),((0:Int),[])))).2.1 == (0:Int)) = true) →
 (Term (lawRight_l2_step x) (lawRight_l2_pre x) (s.1,((w64 (s.2.1 + (1:Int))),(s.2.2.1,(s.2.2.2.1,(s.2.2.2.2,(0:Int))))))))))))))
def lawRight_l0_t (x : (List I9)) (s : ((List ((I3 × I3) × (Int × (Int × (List Int))))) × (Int × (Int × ((List Int) × Int))))) : Tr (((List ((I3 × I3) × (Int × (Int × (List Int))))) × (Int × (Int × ((List Int) × Int)))) ⊕ (Unit ⊕ ((List ((I3 × I3) × (Int × (Int × (List Int))))) × (Int × (Int × (List Int)))))) true :=
 (.i10 (s.2.2.2.2 < (nL s.1))
 (.oI3 s.2.2.2.2 s.1
 (.b11 ((gT s.1 s.2.2.2.2 ((zz3,zz3),(z0,(z0,[])))).2.1 == z0)
 (.oI3 s.2.2.2.2 s.1
 (.i01 ((nL (gT s.1 s.2.2.2.2 ((zz3,zz3),(z0,(z0,[])))).2.2.2) > (2:Int))
 (.ret (.inr (Sum.inl ())))
 (LoopD.lp (lawRight_l2 x) (lawRight_l2_t x) (s.1,(s.2.1,((w1 s.2.2.1),(s.2.2.2.1,(s.2.2.2.2,z0))))) fun r =>
 (.s00 r (fun a =>
 (.ret (.inr (Sum.inl ())))) (fun b =>
 (.ret (.inl (b.1,(b.2.1,(b.2.2.1,(b.2.2.2.1,(w1 b.2.2.2.2))))))))))))
 (LoopD.lp (lawRight_l2 x) (lawRight_l2_t x) (s.1,((w1 s.2.1),(s.2.2.1,(s.2.2.2.1,(s.2.2.2.2,z0))))) fun r =>
 (.s00 r (fun a =>
 (.ret (.inr (Sum.inl ())))) (fun b =>
 (.ret (.inl (b.1,(b.2.1,(b.2.2.1,(b.2.2.2.1,(w1 b.2.2.2.2))))))))))))
 (.ret (.inr (Sum.inr ((s.1,(s.2.1,(s.2.2.1,s.2.2.2.1))))))))
def lawRight_l4 (x : (List I9)) : LoopD := ⟨[],⟨pvs 121 0 [(0,.v (.one (.full 0))),(3,.v (.one (.full 1))),(5,.v (.one (.i .i64))),(6,.v (.one (.i .i64))),(7,.v (.one (.full 2))),(11,.v (.one (.i .i64)))],[.row yy9 0,.row (Ty.prod (Ty.prod yy3 yy3) (Ty.prod yi (Ty.prod yi (Ty.sl yi)))) 2,.row yi 2],0,none,[],[3],[4,0,1,5,2],[(.l (Ty.prod (Ty.prod yy3 yy3) (Ty.prod yi (Ty.prod yi (Ty.sl yi))))),.i,.i,(.l yi),.i],[.l yy9 x]⟩,[⟨.ret,.ret,⟨pvs 121 0 [(2,.v (.one (.b)))],[],0,none,[],[0],[],[],[.b false]⟩⟩,⟨(.exit 4),.normal,⟨pvs 121 0 [(0,.v (.one (.full 0))),(3,.v (.one (.full 1))),(5,.v (.one (.i .i64))),(6,.v (.one (.i .i64)))],[.row yy9 0,.row (Ty.prod (Ty.prod yy3 yy3) (Ty.prod yi (Ty.prod yi (Ty.sl yi)))) 2],0,none,[],[2],[3,0,1],[(.l (Ty.prod (Ty.prod yy3 yy3) (Ty.prod yi (Ty.prod yi (Ty.sl yi))))),.i,.i],[.l yy9 x]⟩⟩]⟩
def lawRight_l4_step (x : (List I9)) (s : ((List ((I3 × I3) × (Int × (Int × (List Int))))) × (Int × (Int × ((List Int) × Int))))) : ((List ((I3 × I3) × (Int × (Int × (List Int))))) × (Int × (Int × ((List Int) × Int)))) ⊕ (Unit ⊕ ((List ((I3 × I3) × (Int × (Int × (List Int))))) × I2)) :=
 (if (s.2.2.2.2 < (s.2.2.2.1.length:Int)) then
 (if (((List.getD s.2.2.2.1 (Int.toNat s.2.2.2.2) (0:Int)) != (1:Int)) = true) then
 (Sum.inr (Sum.inl ())) else
 (Sum.inl (s.1,(s.2.1,(s.2.2.1,(s.2.2.2.1,(w64 (s.2.2.2.2 + (1:Int))))))))) else
 (Sum.inr (Sum.inr ((s.1,(s.2.1,s.2.2.1))))))
def lawRight_l4_pre (x : (List I9)) (s : ((List ((I3 × I3) × (Int × (Int × (List Int))))) × (Int × (Int × ((List Int) × Int))))) : Prop :=
 ((s.2.2.2.2 < (s.2.2.2.1.length:Int)) →
 ((((0:Int) ≤ s.2.2.2.2) ∧ (s.2.2.2.2 < (s.2.2.2.1.length:Int))) ∧
 (((Int.toNat s.2.2.2.2) < (List.length s.2.2.2.1)) ∧
 ((Int.toNat s.2.2.2.2) < (List.length s.2.2.2.1)))))
def lawRight_l4_t (x : (List I9)) (s : ((List ((I3 × I3) × (Int × (Int × (List Int))))) × (Int × (Int × ((List Int) × Int))))) : Tr (((List ((I3 × I3) × (Int × (Int × (List Int))))) × (Int × (Int × ((List Int) × Int)))) ⊕ (Unit ⊕ ((List ((I3 × I3) × (Int × (Int × (List Int))))) × I2))) true :=
 (.i10 (s.2.2.2.2 < (nL s.2.2.2.1))
 (.oI2 s.2.2.2.2 s.2.2.2.1
 (.b00 ((gI s.2.2.2.1 s.2.2.2.2) != z1)
 (.ret (.inr (Sum.inl ())))
 (.ret (.inl (s.1,(s.2.1,(s.2.2.1,(s.2.2.2.1,(w1 s.2.2.2.2)))))))))
 (.ret (.inr (Sum.inr ((s.1,(s.2.1,s.2.2.1)))))))
def lawRight (x : (List I9)) : Bool :=
 (if ((x.length:Int) > (20:Int)) then
 true else
 (letV (buildT x) fun y =>
 (if ((y.2 != (0:Int)) = true) then
 (letV (grownM false) fun y_1 =>
 (if (y_1 = true) then
 ((y.1.length:Int) == (0:Int)) else
 false)) else
 (letV (run (lawRight_l0_step x) (y.1,((0:Int),((0:Int),((List.replicate (List.length x) (0:Int)),(0:Int)))))) fun r =>
 (Sum.elim (fun a =>
 false) (fun b =>
 (letV (run (lawRight_l4_step x) (b.1,(b.2.1,(b.2.2.1,(b.2.2.2,(0:Int)))))) fun r_1 =>
 (Sum.elim (fun a =>
 false) (fun b_1 =>
 (letV (grownM false) fun y_1 =>
 (if (y_1 = true) then
 (if ((b_1.2.2 == (w64 (b_1.2.1 + (1:Int)))) = true) then
 (letV (isT (b_1.1,x)) fun y_2 =>
 (if (y_2 = true) then
 (letV (depthT b_1.1) fun y_3 =>
 (if (y_3 ≤ (9:Int)) then
 (letV (depthT b_1.1) fun y_4 =>
 (decide (y_4 ≥ (1:Int)))) else
 false)) else
 false)) else
 false) else
 false))) r_1))) r)))))
def lawRight_pre (x : (List I9)) : Prop :=
 (¬ ((x.length:Int) > (20:Int)) →
 ((buildT_pre x) ∧
 letP (buildT x) fun y =>
 ((((y.2 != (0:Int)) = true) →
 (grownM_pre false)) ∧
 (¬ ((y.2 != (0:Int)) = true) →
 ((((x.length:Int) ≤ (x.length:Int)) ∧ ((List.length x) < 1099511627776)) ∧
 (Term (lawRight_l0_step x) (lawRight_l0_pre x) (y.1,((0:Int),((0:Int),((List.replicate (List.length x) (0:Int)),(0:Int))))) ∧
 letP (run (lawRight_l0_step x) (y.1,((0:Int),((0:Int),((List.replicate (List.length x) (0:Int)),(0:Int)))))) fun r =>
 (cS r (fun a =>
 True) (fun b =>
 (Term (lawRight_l4_step x) (lawRight_l4_pre x) (b.1,(b.2.1,(b.2.2.1,(b.2.2.2,(0:Int))))) ∧
 letP (run (lawRight_l4_step x) (b.1,(b.2.1,(b.2.2.1,(b.2.2.2,(0:Int)))))) fun r_1 =>
 (cS r_1 (fun a =>
 True) (fun b_1 =>
 ((grownM_pre false) ∧
 letP (grownM false) fun y_1 =>
 ((y_1 = true) →
 (((b_1.2.2 == (w64 (b_1.2.1 + (1:Int)))) = true) →
 ((isT_pre (b_1.1,x)) ∧
 letP (isT (b_1.1,x)) fun y_2 =>
 ((y_2 = true) →
 ((depthT_pre b_1.1) ∧
 letP (depthT b_1.1) fun y_3 =>
 ((y_3 ≤ (9:Int)) →
 (depthT_pre b_1.1)))))))))))))))))))
def lawRight_t (x : (List I9)) : Tr Bool true :=
 (.i01 ((nL x) > (20:Int))
 (.ret true)
 (.fn buildT_S x fun y =>
 (.b11 (y.2 != z0)
 (.fn grownM_S false fun y_1 =>
 (.b00 y_1
 (.ret ((nL y.1) == z0))
 (.ret false)))
 (.og (((decide (z0 ≤ (nL x))) && (decide ((nL x) ≤ (nL x)))) && (decide ((List.length x) < 1099511627776))) (((nL x) ≤ (nL x)) ∧ ((List.length x) < 1099511627776)) (fun h => (and_t (and_t rfl (decide_eq_true h.1)) (decide_eq_true h.2)))
 (LoopD.lp (lawRight_l0 x) (lawRight_l0_t x) (y.1,(z0,(z0,((List.replicate (List.length x) z0),z0)))) fun r =>
 (.s01 r (fun a =>
 (.ret false)) (fun b =>
 (LoopD.lp (lawRight_l4 x) (lawRight_l4_t x) (b.1,(b.2.1,(b.2.2.1,(b.2.2.2,z0)))) fun r_1 =>
 (.s01 r_1 (fun a =>
 (.ret false)) (fun b_1 =>
 (.fn grownM_S false fun y_1 =>
 (.b10 y_1
 (.b10 (b_1.2.2 == (w1 b_1.2.1))
 (.fn isT_S (b_1.1,x) fun y_2 =>
 (.b10 y_2
 (.fn depthT_S b_1.1 fun y_3 =>
 (.i10 (y_3 ≤ (9:Int))
 (.fn depthT_S b_1.1 fun y_4 =>
 (.ret (decide (y_4 ≥ z1))))
 (.ret false)))
 (.ret false)))
 (.ret false))
 (.ret false)))))))))))))
abbrev lawRight_S : FnS := ⟨(.one (Ty.sl yy9)),(.one Ty.bool),lawRight_pre,lawRight⟩
theorem lawRight_ok : SpecOk Try.prog 3 (fnSpec lawRight_S) := SpecOk.tr lawRight_S lawRight_t (fn := Try.f3) tt_ok sp_grownM_ok mixed (by kernel_rfl) (ItsOk.nil _ _) (fun x => (LpsOk.tr tt_ok (SpecsOk.ctxI sp_grownM_ok (ItsOk.nil _ _)) mixed 0 (lawRight_l0 x) (lawRight_l0_t x) (LpsOk.tr tt_ok (SpecsOk.ctxI sp_grownM_ok (ItsOk.nil _ _)) mixed 2 (lawRight_l2 x) (lawRight_l2_t x) (LpsOk.tr tt_ok (SpecsOk.ctxI sp_grownM_ok (ItsOk.nil _ _)) mixed 4 (lawRight_l4 x) (lawRight_l4_t x) LpsOk.nil (by kernel_rfl) fun g s Q => (by kernel_rfl)) (by kernel_rfl) fun g s Q => (by kernel_rfl)) (by kernel_rfl) fun g s Q => (by kernel_rfl))) (fun x => (by kernel_rfl)) fun x Q => (by kernel_rfl)
def sp_lawRight : List (Nat × Ev.Spec) := (3,fnSpec lawRight_S) :: sp_grownM
theorem sp_lawRight_ok : SpecsOk Try.prog sp_lawRight := SpecsOk.add (fn := Try.f3) (by kernel_rfl) lawRight_ok sp_grownM_ok
def lawBoxes_l4 (x : (List I9)) : LoopD := ⟨[],⟨pvs 165 0 [(0,.v (.one (.full 0))),(3,.v (.one (.full 1))),(5,.v (.one (.i .i64))),(6,.v (.one (.i .i64))),(7,.v (.one (.i .i64)))],[.row yy9 0,.row (Ty.prod (Ty.prod yy3 yy3) (Ty.prod yi (Ty.prod yi (Ty.sl yi)))) 2],0,none,[],[3],[4,0,1,2],[(.l (Ty.prod (Ty.prod yy3 yy3) (Ty.prod yi (Ty.prod yi (Ty.sl yi))))),.i,.i,.i],[.l yy9 x]⟩,[⟨.ret,.ret,⟨pvs 165 0 [(2,.v (.one (.b)))],[],0,none,[],[0],[],[],[.b false]⟩⟩,⟨(.exit 4),.normal,⟨pvs 165 0 [(0,.v (.one (.full 0))),(3,.v (.one (.full 1))),(5,.v (.one (.i .i64))),(6,.v (.one (.i .i64)))],[.row yy9 0,.row (Ty.prod (Ty.prod yy3 yy3) (Ty.prod yi (Ty.prod yi (Ty.sl yi)))) 2],0,none,[],[2],[3,0,1],[(.l (Ty.prod (Ty.prod yy3 yy3) (Ty.prod yi (Ty.prod yi (Ty.sl yi))))),.i,.i],[.l yy9 x]⟩⟩]⟩
def lawBoxes_l4_step (x : (List I9)) (s : ((List ((I3 × I3) × (Int × (Int × (List Int))))) × I3)) : ((List ((I3 × I3) × (Int × (Int × (List Int))))) × I3) ⊕ (Unit ⊕ ((List ((I3 × I3) × (Int × (Int × (List Int))))) × I2)) :=
 (if (s.2.2.2 < (3:Int)) then
 (if ((List.getD (List.getD s.1 (Int.toNat s.2.1) ((((0:Int),((0:Int),(0:Int))),((0:Int),((0:Int),(0:Int)))),((0:Int),((0:Int),[])))).2.2.2 (Int.toNat s.2.2.1) (0:Int)) < (0:Int)) then
 (Sum.inr (Sum.inl ())) else
 (if ((List.getD (List.getD s.1 (Int.toNat s.2.1) ((((0:Int),((0:Int),(0:Int))),((0:Int),((0:Int),(0:Int)))),((0:Int),((0:Int),[])))).2.2.2 (Int.toNat s.2.2.1) (0:Int)) ≥ (x.length:Int)) then
 (Sum.inr (Sum.inl ())) else
 (letV (hasT ((List.getD s.1 (Int.toNat s.2.1) ((((0:Int),((0:Int),(0:Int))),((0:Int),((0:Int),(0:Int)))),((0:Int),((0:Int),[])))).1,((List.getD [(List.getD x (Int.toNat (List.getD (List.getD s.1 (Int.toNat s.2.1) ((((0:Int),((0:Int),(0:Int))),((0:Int),((0:Int),(0:Int)))),((0:Int),((0:Int),[])))).2.2.2 (Int.toNat s.2.2.1) (0:Int))) (((0:Int),((0:Int),(0:Int))),(((0:Int),((0:Int),(0:Int))),((0:Int),((0:Int),(0:Int)))))).1.1,(List.getD x (Int.toNat (List.getD (List.getD s.1 (Int.toNat s.2.1) ((((0:Int),((0:Int),(0:Int))),((0:Int),((0:Int),(0:Int)))),((0:Int),((0:Int),[])))).2.2.2 (Int.toNat s.2.2.1) (0:Int))) (((0:Int),((0:Int),(0:Int))),(((0:Int),((0:Int),(0:Int))),((0:Int),((0:Int),(0:Int)))))).1.2.1,(List.getD x (Int.toNat (List.getD (List.getD s.1 (Int.toNat s.2.1) ((((0:Int),((0:Int),(0:Int))),((0:Int),((0:Int),(0:Int)))),((0:Int),((0:Int),[])))).2.2.2 (Int.toNat s.2.2.1) (0:Int))) (((0:Int),((0:Int),(0:Int))),(((0:Int),((0:Int),(0:Int))),((0:Int),((0:Int),(0:Int)))))).1.2.2,(List.getD x (Int.toNat (List.getD (List.getD s.1 (Int.toNat s.2.1) ((((0:Int),((0:Int),(0:Int))),((0:Int),((0:Int),(0:Int)))),((0:Int),((0:Int),[])))).2.2.2 (Int.toNat s.2.2.1) (0:Int))) (((0:Int),((0:Int),(0:Int))),(((0:Int),((0:Int),(0:Int))),((0:Int),((0:Int),(0:Int)))))).2.1.1,(List.getD x (Int.toNat (List.getD (List.getD s.1 (Int.toNat s.2.1) ((((0:Int),((0:Int),(0:Int))),((0:Int),((0:Int),(0:Int)))),((0:Int),((0:Int),[])))).2.2.2 (Int.toNat s.2.2.1) (0:Int))) (((0:Int),((0:Int),(0:Int))),(((0:Int),((0:Int),(0:Int))),((0:Int),((0:Int),(0:Int)))))).2.1.2.1,(List.getD x (Int.toNat (List.getD (List.getD s.1 (Int.toNat s.2.1) ((((0:Int),((0:Int),(0:Int))),((0:Int),((0:Int),(0:Int)))),((0:Int),((0:Int),[])))).2.2.2 (Int.toNat s.2.2.1) (0:Int))) (((0:Int),((0:Int),(0:Int))),(((0:Int),((0:Int),(0:Int))),((0:Int),((0:Int),(0:Int)))))).2.1.2.2,(List.getD x (Int.toNat (List.getD (List.getD s.1 (Int.toNat s.2.1) ((((0:Int),((0:Int),(0:Int))),((0:Int),((0:Int),(0:Int)))),((0:Int),((0:Int),[])))).2.2.2 (Int.toNat s.2.2.1) (0:Int))) (((0:Int),((0:Int),(0:Int))),(((0:Int),((0:Int),(0:Int))),((0:Int),((0:Int),(0:Int)))))).2.2.1,(List.getD x (Int.toNat (List.getD (List.getD s.1 (Int.toNat s.2.1) ((((0:Int),((0:Int),(0:Int))),((0:Int),((0:Int),(0:Int)))),((0:Int),((0:Int),[])))).2.2.2 (Int.toNat s.2.2.1) (0:Int))) (((0:Int),((0:Int),(0:Int))),(((0:Int),((0:Int),(0:Int))),((0:Int),((0:Int),(0:Int)))))).2.2.2.1,(List.getD x (Int.toNat (List.getD (List.getD s.1 (Int.toNat s.2.1) ((((0:Int),((0:Int),(0:Int))),((0:Int),((0:Int),(0:Int)))),((0:Int),((0:Int),[])))).2.2.2 (Int.toNat s.2.2.1) (0:Int))) (((0:Int),((0:Int),(0:Int))),(((0:Int),((0:Int),(0:Int))),((0:Int),((0:Int),(0:Int)))))).2.2.2.2] (0 + ((Int.toNat s.2.2.2) * 3)) (0:Int)),((List.getD [(List.getD x (Int.toNat (List.getD (List.getD s.1 (Int.toNat s.2.1) ((((0:Int),((0:Int),(0:Int))),((0:Int),((0:Int),(0:Int)))),((0:Int),((0:Int),[])))).2.2.2 (Int.toNat s.2.2.1) (0:Int))) (((0:Int),((0:Int),(0:Int))),(((0:Int),((0:Int),(0:Int))),((0:Int),((0:Int),(0:Int)))))).1.1,(List.getD x (Int.toNat (List.getD (List.getD s.1 (Int.toNat s.2.1) ((((0:Int),((0:Int),(0:Int))),((0:Int),((0:Int),(0:Int)))),((0:Int),((0:Int),[])))).2.2.2 (Int.toNat s.2.2.1) (0:Int))) (((0:Int),((0:Int),(0:Int))),(((0:Int),((0:Int),(0:Int))),((0:Int),((0:Int),(0:Int)))))).1.2.1,(List.getD x (Int.toNat (List.getD (List.getD s.1 (Int.toNat s.2.1) ((((0:Int),((0:Int),(0:Int))),((0:Int),((0:Int),(0:Int)))),((0:Int),((0:Int),[])))).2.2.2 (Int.toNat s.2.2.1) (0:Int))) (((0:Int),((0:Int),(0:Int))),(((0:Int),((0:Int),(0:Int))),((0:Int),((0:Int),(0:Int)))))).1.2.2,(List.getD x (Int.toNat (List.getD (List.getD s.1 (Int.toNat s.2.1) ((((0:Int),((0:Int),(0:Int))),((0:Int),((0:Int),(0:Int)))),((0:Int),((0:Int),[])))).2.2.2 (Int.toNat s.2.2.1) (0:Int))) (((0:Int),((0:Int),(0:Int))),(((0:Int),((0:Int),(0:Int))),((0:Int),((0:Int),(0:Int)))))).2.1.1,(List.getD x (Int.toNat (List.getD (List.getD s.1 (Int.toNat s.2.1) ((((0:Int),((0:Int),(0:Int))),((0:Int),((0:Int),(0:Int)))),((0:Int),((0:Int),[])))).2.2.2 (Int.toNat s.2.2.1) (0:Int))) (((0:Int),((0:Int),(0:Int))),(((0:Int),((0:Int),(0:Int))),((0:Int),((0:Int),(0:Int)))))).2.1.2.1,(List.getD x (Int.toNat (List.getD (List.getD s.1 (Int.toNat s.2.1) ((((0:Int),((0:Int),(0:Int))),((0:Int),((0:Int),(0:Int)))),((0:Int),((0:Int),[])))).2.2.2 (Int.toNat s.2.2.1) (0:Int))) (((0:Int),((0:Int),(0:Int))),(((0:Int),((0:Int),(0:Int))),((0:Int),((0:Int),(0:Int)))))).2.1.2.2,(List.getD x (Int.toNat (List.getD (List.getD s.1 (Int.toNat s.2.1) ((((0:Int),((0:Int),(0:Int))),((0:Int),((0:Int),(0:Int)))),((0:Int),((0:Int),[])))).2.2.2 (Int.toNat s.2.2.1) (0:Int))) (((0:Int),((0:Int),(0:Int))),(((0:Int),((0:Int),(0:Int))),((0:Int),((0:Int),(0:Int)))))).2.2.1,(List.getD x (Int.toNat (List.getD (List.getD s.1 (Int.toNat s.2.1) ((((0:Int),((0:Int),(0:Int))),((0:Int),((0:Int),(0:Int)))),((0:Int),((0:Int),[])))).2.2.2 (Int.toNat s.2.2.1) (0:Int))) (((0:Int),((0:Int),(0:Int))),(((0:Int),((0:Int),(0:Int))),((0:Int),((0:Int),(0:Int)))))).2.2.2.1,(List.getD x (Int.toNat (List.getD (List.getD s.1 (Int.toNat s.2.1) ((((0:Int),((0:Int),(0:Int))),((0:Int),((0:Int),(0:Int)))),((0:Int),((0:Int),[])))).2.2.2 (Int.toNat s.2.2.1) (0:Int))) (((0:Int),((0:Int),(0:Int))),(((0:Int),((0:Int),(0:Int))),((0:Int),((0:Int),(0:Int)))))).2.2.2.2] ((0 + ((Int.toNat s.2.2.2) * 3)) + 1) (0:Int)),(List.getD [(List.getD x (Int.toNat (List.getD (List.getD s.1 (Int.toNat s.2.1) ((((0:Int),((0:Int),(0:Int))),((0:Int),((0:Int),(0:Int)))),((0:Int),((0:Int),[])))).2.2.2 (Int.toNat s.2.2.1) (0:Int))) (((0:Int),((0:Int),(0:Int))),(((0:Int),((0:Int),(0:Int))),((0:Int),((0:Int),(0:Int)))))).1.1,(List.getD x (Int.toNat (List.getD (List.getD s.1 (Int.toNat s.2.1) ((((0:Int),((0:Int),(0:Int))),((0:Int),((0:Int),(0:Int)))),((0:Int),((0:Int),[])))).2.2.2 (Int.toNat s.2.2.1) (0:Int))) (((0:Int),((0:Int),(0:Int))),(((0:Int),((0:Int),(0:Int))),((0:Int),((0:Int),(0:Int)))))).1.2.1,(List.getD x (Int.toNat (List.getD (List.getD s.1 (Int.toNat s.2.1) ((((0:Int),((0:Int),(0:Int))),((0:Int),((0:Int),(0:Int)))),((0:Int),((0:Int),[])))).2.2.2 (Int.toNat s.2.2.1) (0:Int))) (((0:Int),((0:Int),(0:Int))),(((0:Int),((0:Int),(0:Int))),((0:Int),((0:Int),(0:Int)))))).1.2.2,(List.getD x (Int.toNat (List.getD (List.getD s.1 (Int.toNat s.2.1) ((((0:Int),((0:Int),(0:Int))),((0:Int),((0:Int),(0:Int)))),((0:Int),((0:Int),[])))).2.2.2 (Int.toNat s.2.2.1) (0:Int))) (((0:Int),((0:Int),(0:Int))),(((0:Int),((0:Int),(0:Int))),((0:Int),((0:Int),(0:Int)))))).2.1.1,(List.getD x (Int.toNat (List.getD (List.getD s.1 (Int.toNat s.2.1) ((((0:Int),((0:Int),(0:Int))),((0:Int),((0:Int),(0:Int)))),((0:Int),((0:Int),[])))).2.2.2 (Int.toNat s.2.2.1) (0:Int))) (((0:Int),((0:Int),(0:Int))),(((0:Int),((0:Int),(0:Int))),((0:Int),((0:Int),(0:Int)))))).2.1.2.1,(List.getD x (Int.toNat (List.getD (List.getD s.1 (Int.toNat s.2.1) ((((0:Int),((0:Int),(0:Int))),((0:Int),((0:Int),(0:Int)))),((0:Int),((0:Int),[])))).2.2.2 (Int.toNat s.2.2.1) (0:Int))) (((0:Int),((0:Int),(0:Int))),(((0:Int),((0:Int),(0:Int))),((0:Int),((0:Int),(0:Int)))))).2.1.2.2,(List.getD x (Int.toNat (List.getD (List.getD s.1 (Int.toNat s.2.1) ((((0:Int),((0:Int),(0:Int))),((0:Int),((0:Int),(0:Int)))),((0:Int),((0:Int),[])))).2.2.2 (Int.toNat s.2.2.1) (0:Int))) (((0:Int),((0:Int),(0:Int))),(((0:Int),((0:Int),(0:Int))),((0:Int),((0:Int),(0:Int)))))).2.2.1,(List.getD x (Int.toNat (List.getD (List.getD s.1 (Int.toNat s.2.1) ((((0:Int),((0:Int),(0:Int))),((0:Int),((0:Int),(0:Int)))),((0:Int),((0:Int),[])))).2.2.2 (Int.toNat s.2.2.1) (0:Int))) (((0:Int),((0:Int),(0:Int))),(((0:Int),((0:Int),(0:Int))),((0:Int),((0:Int),(0:Int)))))).2.2.2.1,(List.getD x (Int.toNat (List.getD (List.getD s.1 (Int.toNat s.2.1) ((((0:Int),((0:Int),(0:Int))),((0:Int),((0:Int),(0:Int)))),((0:Int),((0:Int),[])))).2.2.2 (Int.toNat s.2.2.1) (0:Int))) (((0:Int),((0:Int),(0:Int))),(((0:Int),((0:Int),(0:Int))),((0:Int),((0:Int),(0:Int)))))).2.2.2.2] (((0 + ((Int.toNat s.2.2.2) * 3)) + 1) + 1) (0:Int)))))) fun y =>
 (if ((!y) = true) then
 (Sum.inr (Sum.inl ())) else
 (Sum.inl (s.1,(s.2.1,(s.2.2.1,(w64 (s.2.2.2 + (1:Int))))))))))) else
 (Sum.inr (Sum.inr ((s.1,(s.2.1,s.2.2.1))))))
def lawBoxes_l4_pre (x : (List I9)) (s : ((List ((I3 × I3) × (Int × (Int × (List Int))))) × I3)) : Prop :=
 ((s.2.2.2 < (3:Int)) →
 ((((0:Int) ≤ s.2.1) ∧ (s.2.1 < (s.1.length:Int))) ∧
 (((Int.toNat s.2.1) < (List.length s.1)) ∧
 (((Int.toNat s.2.1) < (List.length s.1)) ∧
 (((Int.toNat s.2.1) < (List.length s.1)) ∧
 ((((0:Int) ≤ s.2.2.1) ∧ (s.2.2.1 < ((List.getD s.1 (Int.toNat s.2.1) ((((0:Int),((0:Int),(0:Int))),((0:Int),((0:Int),(0:Int)))),((0:Int),((0:Int),[])))).2.2.2.length:Int))) ∧
 (((Int.toNat s.2.2.1) < (List.length (List.getD s.1 (Int.toNat s.2.1) ((((0:Int),((0:Int),(0:Int))),((0:Int),((0:Int),(0:Int)))),((0:Int),((0:Int),[])))).2.2.2)) ∧
 (((Int.toNat s.2.2.1) < (List.length (List.getD s.1 (Int.toNat s.2.1) ((((0:Int),((0:Int),(0:Int))),((0:Int),((0:Int),(0:Int)))),((0:Int),((0:Int),[])))).2.2.2)) ∧
 (¬ ((List.getD (List.getD s.1 (Int.toNat s.2.1) ((((0:Int),((0:Int),(0:Int))),((0:Int),((0:Int),(0:Int)))),((0:Int),((0:Int),[])))).2.2.2 (Int.toNat s.2.2.1) (0:Int)) < (0:Int)) →
 ((((0:Int) ≤ s.2.1) ∧ (s.2.1 < (s.1.length:Int))) ∧
 (((Int.toNat s.2.1) < (List.length s.1)) ∧
 (((Int.toNat s.2.1) < (List.length s.1)) ∧
 (((Int.toNat s.2.1) < (List.length s.1)) ∧
 ((((0:Int) ≤ s.2.2.1) ∧ (s.2.2.1 < ((List.getD s.1 (Int.toNat s.2.1) ((((0:Int),((0:Int),(0:Int))),((0:Int),((0:Int),(0:Int)))),((0:Int),((0:Int),[])))).2.2.2.length:Int))) ∧
 (((Int.toNat s.2.2.1) < (List.length (List.getD s.1 (Int.toNat s.2.1) ((((0:Int),((0:Int),(0:Int))),((0:Int),((0:Int),(0:Int)))),((0:Int),((0:Int),[])))).2.2.2)) ∧
 (((Int.toNat s.2.2.1) < (List.length (List.getD s.1 (Int.toNat s.2.1) ((((0:Int),((0:Int),(0:Int))),((0:Int),((0:Int),(0:Int)))),((0:Int),((0:Int),[])))).2.2.2)) ∧
 (¬ ((List.getD (List.getD s.1 (Int.toNat s.2.1) ((((0:Int),((0:Int),(0:Int))),((0:Int),((0:Int),(0:Int)))),((0:Int),((0:Int),[])))).2.2.2 (Int.toNat s.2.2.1) (0:Int)) ≥ (x.length:Int)) →
 ((((0:Int) ≤ s.2.1) ∧ (s.2.1 < (s.1.length:Int))) ∧
 (((Int.toNat s.2.1) < (List.length s.1)) ∧
 (((Int.toNat s.2.1) < (List.length s.1)) ∧
 (((Int.toNat s.2.1) < (List.length s.1)) ∧
 ((((0:Int) ≤ s.2.1) ∧ (s.2.1 < (s.1.length:Int))) ∧
 (((Int.toNat s.2.1) < (List.length s.1)) ∧
 (((Int.toNat s.2.1) < (List.length s.1)) ∧
 (((Int.toNat s.2.1) < (List.length s.1)) ∧
 ((((0:Int) ≤ s.2.2.1) ∧ (s.2.2.1 < ((List.getD s.1 (Int.toNat s.2.1) ((((0:Int),((0:Int),(0:Int))),((0:Int),((0:Int),(0:Int)))),((0:Int),((0:Int),[])))).2.2.2.length:Int))) ∧
 (((Int.toNat s.2.2.1) < (List.length (List.getD s.1 (Int.toNat s.2.1) ((((0:Int),((0:Int),(0:Int))),((0:Int),((0:Int),(0:Int)))),((0:Int),((0:Int),[])))).2.2.2)) ∧
 (((Int.toNat s.2.2.1) < (List.length (List.getD s.1 (Int.toNat s.2.1) ((((0:Int),((0:Int),(0:Int))),((0:Int),((0:Int),(0:Int)))),((0:Int),((0:Int),[])))).2.2.2)) ∧
 ((((0:Int) ≤ (List.getD (List.getD s.1 (Int.toNat s.2.1) ((((0:Int),((0:Int),(0:Int))),((0:Int),((0:Int),(0:Int)))),((0:Int),((0:Int),[])))).2.2.2 (Int.toNat s.2.2.1) (0:Int))) ∧ ((List.getD (List.getD s.1 (Int.toNat s.2.1) ((((0:Int),((0:Int),(0:Int))),((0:Int),((0:Int),(0:Int)))),((0:Int),((0:Int),[])))).2.2.2 (Int.toNat s.2.2.1) (0:Int)) < (x.length:Int))) ∧
 (((Int.toNat (List.getD (List.getD s.1 (Int.toNat s.2.1) ((((0:Int),((0:Int),(0:Int))),((0:Int),((0:Int),(0:Int)))),((0:Int),((0:Int),[])))).2.2.2 (Int.toNat s.2.2.1) (0:Int))) < (List.length x)) ∧
 ((((0:Int) ≤ s.2.2.2) ∧ (s.2.2.2 < (3:Int))) ∧
 (((Int.toNat (List.getD (List.getD s.1 (Int.toNat s.2.1) ((((0:Int),((0:Int),(0:Int))),((0:Int),((0:Int),(0:Int)))),((0:Int),((0:Int),[])))).2.2.2 (Int.toNat s.2.2.1) (0:Int))) < (List.length x)) ∧
 ((((0 + ((Int.toNat s.2.2.2) * 3)) + 3) ≤ 9) ∧
 (((Int.toNat (List.getD (List.getD s.1 (Int.toNat s.2.1) ((((0:Int),((0:Int),(0:Int))),((0:Int),((0:Int),(0:Int)))),((0:Int),((0:Int),[])))).2.2.2 (Int.toNat s.2.2.1) (0:Int))) < (List.length x)) ∧
 (hasT_pre ((List.getD s.1 (Int.toNat s.2.1) ((((0:Int),((0:Int),(0:Int))),((0:Int),((0:Int),(0:Int)))),((0:Int),((0:Int),[])))).1,((List.getD [(List.getD x (Int.toNat (List.getD (List.getD s.1 (Int.toNat s.2.1) ((((0:Int),((0:Int),(0:Int))),((0:Int),((0:Int),(0:Int)))),((0:Int),((0:Int),[])))).2.2.2 (Int.toNat s.2.2.1) (0:Int))) (((0:Int),((0:Int),(0:Int))),(((0:Int),((0:Int),(0:Int))),((0:Int),((0:Int),(0:Int)))))).1.1,(List.getD x (Int.toNat (List.getD (List.getD s.1 (Int.toNat s.2.1) ((((0:Int),((0:Int),(0:Int))),((0:Int),((0:Int),(0:Int)))),((0:Int),((0:Int),[])))).2.2.2 (Int.toNat s.2.2.1) (0:Int))) (((0:Int),((0:Int),(0:Int))),(((0:Int),((0:Int),(0:Int))),((0:Int),((0:Int),(0:Int)))))).1.2.1,(List.getD x (Int.toNat (List.getD (List.getD s.1 (Int.toNat s.2.1) ((((0:Int),((0:Int),(0:Int))),((0:Int),((0:Int),(0:Int)))),((0:Int),((0:Int),[])))).2.2.2 (Int.toNat s.2.2.1) (0:Int))) (((0:Int),((0:Int),(0:Int))),(((0:Int),((0:Int),(0:Int))),((0:Int),((0:Int),(0:Int)))))).1.2.2,(List.getD x (Int.toNat (List.getD (List.getD s.1 (Int.toNat s.2.1) ((((0:Int),((0:Int),(0:Int))),((0:Int),((0:Int),(0:Int)))),((0:Int),((0:Int),[])))).2.2.2 (Int.toNat s.2.2.1) (0:Int))) (((0:Int),((0:Int),(0:Int))),(((0:Int),((0:Int),(0:Int))),((0:Int),((0:Int),(0:Int)))))).2.1.1,(List.getD x (Int.toNat (List.getD (List.getD s.1 (Int.toNat s.2.1) ((((0:Int),((0:Int),(0:Int))),((0:Int),((0:Int),(0:Int)))),((0:Int),((0:Int),[])))).2.2.2 (Int.toNat s.2.2.1) (0:Int))) (((0:Int),((0:Int),(0:Int))),(((0:Int),((0:Int),(0:Int))),((0:Int),((0:Int),(0:Int)))))).2.1.2.1,(List.getD x (Int.toNat (List.getD (List.getD s.1 (Int.toNat s.2.1) ((((0:Int),((0:Int),(0:Int))),((0:Int),((0:Int),(0:Int)))),((0:Int),((0:Int),[])))).2.2.2 (Int.toNat s.2.2.1) (0:Int))) (((0:Int),((0:Int),(0:Int))),(((0:Int),((0:Int),(0:Int))),((0:Int),((0:Int),(0:Int)))))).2.1.2.2,(List.getD x (Int.toNat (List.getD (List.getD s.1 (Int.toNat s.2.1) ((((0:Int),((0:Int),(0:Int))),((0:Int),((0:Int),(0:Int)))),((0:Int),((0:Int),[])))).2.2.2 (Int.toNat s.2.2.1) (0:Int))) (((0:Int),((0:Int),(0:Int))),(((0:Int),((0:Int),(0:Int))),((0:Int),((0:Int),(0:Int)))))).2.2.1,(List.getD x (Int.toNat (List.getD (List.getD s.1 (Int.toNat s.2.1) ((((0:Int),((0:Int),(0:Int))),((0:Int),((0:Int),(0:Int)))),((0:Int),((0:Int),[])))).2.2.2 (Int.toNat s.2.2.1) (0:Int))) (((0:Int),((0:Int),(0:Int))),(((0:Int),((0:Int),(0:Int))),((0:Int),((0:Int),(0:Int)))))).2.2.2.1,(List.getD x (Int.toNat (List.getD (List.getD s.1 (Int.toNat s.2.1) ((((0:Int),((0:Int),(0:Int))),((0:Int),((0:Int),(0:Int)))),((0:Int),((0:Int),[])))).2.2.2 (Int.toNat s.2.2.1) (0:Int))) (((0:Int),((0:Int),(0:Int))),(((0:Int),((0:Int),(0:Int))),((0:Int),((0:Int),(0:Int)))))).2.2.2.2] (0 + ((Int.toNat s.2.2.2) * 3)) (0:Int)),((List.getD [(List.getD x (Int.toNat (List.getD (List.getD s.1 (Int.toNat s.2.1) ((((0:Int),((0:Int),(0:Int))),((0:Int),((0:Int),(0:Int)))),((0:Int),((0:Int),[])))).2.2.2 (Int.toNat s.2.2.1) (0:Int))) (((0:Int),((0:Int),(0:Int))),(((0:Int),((0:Int),(0:Int))),((0:Int),((0:Int),(0:Int)))))).1.1,(List.getD x (Int.toNat (List.getD (List.getD s.1 (Int.toNat s.2.1) ((((0:Int),((0:Int),(0:Int))),((0:Int),((0:Int),(0:Int)))),((0:Int),((0:Int),[])))).2.2.2 (Int.toNat s.2.2.1) (0:Int))) (((0:Int),((0:Int),(0:Int))),(((0:Int),((0:Int),(0:Int))),((0:Int),((0:Int),(0:Int)))))).1.2.1,(List.getD x (Int.toNat (List.getD (List.getD s.1 (Int.toNat s.2.1) ((((0:Int),((0:Int),(0:Int))),((0:Int),((0:Int),(0:Int)))),((0:Int),((0:Int),[])))).2.2.2 (Int.toNat s.2.2.1) (0:Int))) (((0:Int),((0:Int),(0:Int))),(((0:Int),((0:Int),(0:Int))),((0:Int),((0:Int),(0:Int)))))).1.2.2,(List.getD x (Int.toNat (List.getD (List.getD s.1 (Int.toNat s.2.1) ((((0:Int),((0:Int),(0:Int))),((0:Int),((0:Int),(0:Int)))),((0:Int),((0:Int),[])))).2.2.2 (Int.toNat s.2.2.1) (0:Int))) (((0:Int),((0:Int),(0:Int))),(((0:Int),((0:Int),(0:Int))),((0:Int),((0:Int),(0:Int)))))).2.1.1,(List.getD x (Int.toNat (List.getD (List.getD s.1 (Int.toNat s.2.1) ((((0:Int),((0:Int),(0:Int))),((0:Int),((0:Int),(0:Int)))),((0:Int),((0:Int),[])))).2.2.2 (Int.toNat s.2.2.1) (0:Int))) (((0:Int),((0:Int),(0:Int))),(((0:Int),((0:Int),(0:Int))),((0:Int),((0:Int),(0:Int)))))).2.1.2.1,(List.getD x (Int.toNat (List.getD (List.getD s.1 (Int.toNat s.2.1) ((((0:Int),((0:Int),(0:Int))),((0:Int),((0:Int),(0:Int)))),((0:Int),((0:Int),[])))).2.2.2 (Int.toNat s.2.2.1) (0:Int))) (((0:Int),((0:Int),(0:Int))),(((0:Int),((0:Int),(0:Int))),((0:Int),((0:Int),(0:Int)))))).2.1.2.2,(List.getD x (Int.toNat (List.getD (List.getD s.1 (Int.toNat s.2.1) ((((0:Int),((0:Int),(0:Int))),((0:Int),((0:Int),(0:Int)))),((0:Int),((0:Int),[])))).2.2.2 (Int.toNat s.2.2.1) (0:Int))) (((0:Int),((0:Int),(0:Int))),(((0:Int),((0:Int),(0:Int))),((0:Int),((0:Int),(0:Int)))))).2.2.1,(List.getD x (Int.toNat (List.getD (List.getD s.1 (Int.toNat s.2.1) ((((0:Int),((0:Int),(0:Int))),((0:Int),((0:Int),(0:Int)))),((0:Int),((0:Int),[])))).2.2.2 (Int.toNat s.2.2.1) (0:Int))) (((0:Int),((0:Int),(0:Int))),(((0:Int),((0:Int),(0:Int))),((0:Int),((0:Int),(0:Int)))))).2.2.2.1,(List.getD x (Int.toNat (List.getD (List.getD s.1 (Int.toNat s.2.1) ((((0:Int),((0:Int),(0:Int))),((0:Int),((0:Int),(0:Int)))),((0:Int),((0:Int),[])))).2.2.2 (Int.toNat s.2.2.1) (0:Int))) (((0:Int),((0:Int),(0:Int))),(((0:Int),((0:Int),(0:Int))),((0:Int),((0:Int),(0:Int)))))).2.2.2.2] ((0 + ((Int.toNat s.2.2.2) * 3)) + 1) (0:Int)),(List.getD [(List.getD x (Int.toNat (List.getD (List.getD s.1 (Int.toNat s.2.1) ((((0:Int),((0:Int),(0:Int))),((0:Int),((0:Int),(0:Int)))),((0:Int),((0:Int),[])))).2.2.2 (Int.toNat s.2.2.1) (0:Int))) (((0:Int),((0:Int),(0:Int))),(((0:Int),((0:Int),(0:Int))),((0:Int),((0:Int),(0:Int)))))).1.1,(List.getD x (Int.toNat (List.getD (List.getD s.1 (Int.toNat s.2.1) ((((0:Int),((0:Int),(0:Int))),((0:Int),((0:Int),(0:Int)))),((0:Int),((0:Int),[])))).2.2.2 (Int.toNat s.2.2.1) (0:Int))) (((0:Int),((0:Int),(0:Int))),(((0:Int),((0:Int),(0:Int))),((0:Int),((0:Int),(0:Int)))))).1.2.1,(List.getD x (Int.toNat (List.getD (List.getD s.1 (Int.toNat s.2.1) ((((0:Int),((0:Int),(0:Int))),((0:Int),((0:Int),(0:Int)))),((0:Int),((0:Int),[])))).2.2.2 (Int.toNat s.2.2.1) (0:Int))) (((0:Int),((0:Int),(0:Int))),(((0:Int),((0:Int),(0:Int))),((0:Int),((0:Int),(0:Int)))))).1.2.2,(List.getD x (Int.toNat (List.getD (List.getD s.1 (Int.toNat s.2.1) ((((0:Int),((0:Int),(0:Int))),((0:Int),((0:Int),(0:Int)))),((0:Int),((0:Int),[])))).2.2.2 (Int.toNat s.2.2.1) (0:Int))) (((0:Int),((0:Int),(0:Int))),(((0:Int),((0:Int),(0:Int))),((0:Int),((0:Int),(0:Int)))))).2.1.1,(List.getD x (Int.toNat (List.getD (List.getD s.1 (Int.toNat s.2.1) ((((0:Int),((0:Int),(0:Int))),((0:Int),((0:Int),(0:Int)))),((0:Int),((0:Int),[])))).2.2.2 (Int.toNat s.2.2.1) (0:Int))) (((0:Int),((0:Int),(0:Int))),(((0:Int),((0:Int),(0:Int))),((0:Int),((0:Int),(0:Int)))))).2.1.2.1,(List.getD x (Int.toNat (List.getD (List.getD s.1 (Int.toNat s.2.1) ((((0:Int),((0:Int),(0:Int))),((0:Int),((0:Int),(0:Int)))),((0:Int),((0:Int),[])))).2.2.2 (Int.toNat s.2.2.1) (0:Int))) (((0:Int),((0:Int),(0:Int))),(((0:Int),((0:Int),(0:Int))),((0:Int),((0:Int),(0:Int)))))).2.1.2.2,(List.getD x (Int.toNat (List.getD (List.getD s.1 (Int.toNat s.2.1) ((((0:Int),((0:Int),(0:Int))),((0:Int),((0:Int),(0:Int)))),((0:Int),((0:Int),[])))).2.2.2 (Int.toNat s.2.2.1) (0:Int))) (((0:Int),((0:Int),(0:Int))),(((0:Int),((0:Int),(0:Int))),((0:Int),((0:Int),(0:Int)))))).2.2.1,(List.getD x (Int.toNat (List.getD (List.getD s.1 (Int.toNat s.2.1) ((((0:Int),((0:Int),(0:Int))),((0:Int),((0:Int),(0:Int)))),((0:Int),((0:Int),[])))).2.2.2 (Int.toNat s.2.2.1) (0:Int))) (((0:Int),((0:Int),(0:Int))),(((0:Int),((0:Int),(0:Int))),((0:Int),((0:Int),(0:Int)))))).2.2.2.1,(List.getD x (Int.toNat (List.getD (List.getD s.1 (Int.toNat s.2.1) ((((0:Int),((0:Int),(0:Int))),((0:Int),((0:Int),(0:Int)))),((0:Int),((0:Int),[])))).2.2.2 (Int.toNat s.2.2.1) (0:Int))) (((0:Int),((0:Int),(0:Int))),(((0:Int),((0:Int),(0:Int))),((0:Int),((0:Int),(0:Int)))))).2.2.2.2] (((0 + ((Int.toNat s.2.2.2) * 3)) + 1) + 1) (0:Int))))))))))))))))))))))))))))))))))))))))
def lawBoxes_l4_t (x : (List I9)) (s : ((List ((I3 × I3) × (Int × (Int × (List Int))))) × I3)) : Tr (((List ((I3 × I3) × (Int × (Int × (List Int))))) × I3) ⊕ (Unit ⊕ ((List ((I3 × I3) × (Int × (Int × (List Int))))) × I2))) true :=
 (.i10 (s.2.2.2 < (3:Int))
 (.oI3 s.2.1 s.1
 (.oI2 s.2.2.1 (gT s.1 s.2.1 ((zz3,zz3),(z0,(z0,[])))).2.2.2
 (.i01 ((gI (gT s.1 s.2.1 ((zz3,zz3),(z0,(z0,[])))).2.2.2 s.2.2.1) < z0)
 (.ret (.inr (Sum.inl ())))
 (.oI3 s.2.1 s.1
 (.oI2 s.2.2.1 (gT s.1 s.2.1 ((zz3,zz3),(z0,(z0,[])))).2.2.2
 (.i01 ((gI (gT s.1 s.2.1 ((zz3,zz3),(z0,(z0,[])))).2.2.2 s.2.2.1) ≥ (nL x))
 (.ret (.inr (Sum.inl ())))
 (.oI3 s.2.1 s.1
 (.oI3 s.2.1 s.1
 (.oI2 s.2.2.1 (gT s.1 s.2.1 ((zz3,zz3),(z0,(z0,[])))).2.2.2
 (.oI1 (gI (gT s.1 s.2.1 ((zz3,zz3),(z0,(z0,[])))).2.2.2 s.2.2.1) x
 (.oR s.2.2.2 (3:Int)
 (.od ((tN (gI (gT s.1 s.2.1 ((zz3,zz3),(z0,(z0,[])))).2.2.2 s.2.2.1)) < (List.length x))
 (.od (((0 + ((tN s.2.2.2) * 3)) + 3) ≤ 9)
 (.od ((tN (gI (gT s.1 s.2.1 ((zz3,zz3),(z0,(z0,[])))).2.2.2 s.2.2.1)) < (List.length x))
 (.fn hasT_S ((gT s.1 s.2.1 ((zz3,zz3),(z0,(z0,[])))).1,((List.getD [(gT x (gI (gT s.1 s.2.1 ((zz3,zz3),(z0,(z0,[])))).2.2.2 s.2.2.1) zz9).1.1,(gT x (gI (gT s.1 s.2.1 ((zz3,zz3),(z0,(z0,[])))).2.2.2 s.2.2.1) zz9).1.2.1,(gT x (gI (gT s.1 s.2.1 ((zz3,zz3),(z0,(z0,[])))).2.2.2 s.2.2.1) zz9).1.2.2,(gT x (gI (gT s.1 s.2.1 ((zz3,zz3),(z0,(z0,[])))).2.2.2 s.2.2.1) zz9).2.1.1,(gT x (gI (gT s.1 s.2.1 ((zz3,zz3),(z0,(z0,[])))).2.2.2 s.2.2.1) zz9).2.1.2.1,(gT x (gI (gT s.1 s.2.1 ((zz3,zz3),(z0,(z0,[])))).2.2.2 s.2.2.1) zz9).2.1.2.2,(gT x (gI (gT s.1 s.2.1 ((zz3,zz3),(z0,(z0,[])))).2.2.2 s.2.2.1) zz9).2.2.1,(gT x (gI (gT s.1 s.2.1 ((zz3,zz3),(z0,(z0,[])))).2.2.2 s.2.2.1) zz9).2.2.2.1,(gT x (gI (gT s.1 s.2.1 ((zz3,zz3),(z0,(z0,[])))).2.2.2 s.2.2.1) zz9).2.2.2.2] (0 + ((tN s.2.2.2) * 3)) z0),((List.getD [(gT x (gI (gT s.1 s.2.1 ((zz3,zz3),(z0,(z0,[])))).2.2.2 s.2.2.1) zz9).1.1,(gT x (gI (gT s.1 s.2.1 ((zz3,zz3),(z0,(z0,[])))).2.2.2 s.2.2.1) zz9).1.2.1,(gT x (gI (gT s.1 s.2.1 ((zz3,zz3),(z0,(z0,[])))).2.2.2 s.2.2.1) zz9).1.2.2,(gT x (gI (gT s.1 s.2.1 ((zz3,zz3),(z0,(z0,[])))).2.2.2 s.2.2.1) zz9).2.1.1,(gT x (gI (gT s.1 s.2.1 ((zz3,zz3),(z0,(z0,[])))).2.2.2 s.2.2.1) zz9).2.1.2.1,(gT x (gI (gT s.1 s.2.1 ((zz3,zz3),(z0,(z0,[])))).2.2.2 s.2.2.1) zz9).2.1.2.2,(gT x (gI (gT s.1 s.2.1 ((zz3,zz3),(z0,(z0,[])))).2.2.2 s.2.2.1) zz9).2.2.1,(gT x (gI (gT s.1 s.2.1 ((zz3,zz3),(z0,(z0,[])))).2.2.2 s.2.2.1) zz9).2.2.2.1,(gT x (gI (gT s.1 s.2.1 ((zz3,zz3),(z0,(z0,[])))).2.2.2 s.2.2.1) zz9).2.2.2.2] ((0 + ((tN s.2.2.2) * 3)) + 1) z0),(List.getD [(gT x (gI (gT s.1 s.2.1 ((zz3,zz3),(z0,(z0,[])))).2.2.2 s.2.2.1) zz9).1.1,(gT x (gI (gT s.1 s.2.1 ((zz3,zz3),(z0,(z0,[])))).2.2.2 s.2.2.1) zz9).1.2.1,(gT x (gI (gT s.1 s.2.1 ((zz3,zz3),(z0,(z0,[])))).2.2.2 s.2.2.1) zz9).1.2.2,(gT x (gI (gT s.1 s.2.1 ((zz3,zz3),(z0,(z0,[])))).2.2.2 s.2.2.1) zz9).2.1.1,(gT x (gI (gT s.1 s.2.1 ((zz3,zz3),(z0,(z0,[])))).2.2.2 s.2.2.1) zz9).2.1.2.1,(gT x (gI (gT s.1 s.2.1 ((zz3,zz3),(z0,(z0,[])))).2.2.2 s.2.2.1) zz9).2.1.2.2,(gT x (gI (gT s.1 s.2.1 ((zz3,zz3),(z0,(z0,[])))).2.2.2 s.2.2.1) zz9).2.2.1,(gT x (gI (gT s.1 s.2.1 ((zz3,zz3),(z0,(z0,[])))).2.2.2 s.2.2.1) zz9).2.2.2.1,(gT x (gI (gT s.1 s.2.1 ((zz3,zz3),(z0,(z0,[])))).2.2.2 s.2.2.1) zz9).2.2.2.2] (((0 + ((tN s.2.2.2) * 3)) + 1) + 1) z0)))) fun y =>
 (.b00 (!y)
 (.ret (.inr (Sum.inl ())))
 (.ret (.inl (s.1,(s.2.1,(s.2.2.1,(w1 s.2.2.2))))))))))))))))))))))
 (.ret (.inr (Sum.inr ((s.1,(s.2.1,s.2.2.1)))))))
def lawBoxes_l2 (x : (List I9)) : LoopD := ⟨[],⟨pvs 165 0 [(0,.v (.one (.full 0))),(3,.v (.one (.full 1))),(5,.v (.one (.i .i64))),(6,.v (.one (.i .i64)))],[.row yy9 0,.row (Ty.prod (Ty.prod yy3 yy3) (Ty.prod yi (Ty.prod yi (Ty.sl yi)))) 2],0,none,[],[2],[3,0,1],[(.l (Ty.prod (Ty.prod yy3 yy3) (Ty.prod yi (Ty.prod yi (Ty.sl yi))))),.i,.i],[.l yy9 x]⟩,[⟨.ret,.ret,⟨pvs 165 0 [(2,.v (.one (.b)))],[],0,none,[],[0],[],[],[.b false]⟩⟩,⟨(.exit 2),.normal,⟨pvs 165 0 [(0,.v (.one (.full 0))),(3,.v (.one (.full 1))),(5,.v (.one (.i .i64)))],[.row yy9 0,.row (Ty.prod (Ty.prod yy3 yy3) (Ty.prod yi (Ty.prod yi (Ty.sl yi)))) 2],0,none,[],[1],[2,0],[(.l (Ty.prod (Ty.prod yy3 yy3) (Ty.prod yi (Ty.prod yi (Ty.sl yi))))),.i],[.l yy9 x]⟩⟩]⟩
def lawBoxes_l2_step (x : (List I9)) (s : ((List ((I3 × I3) × (Int × (Int × (List Int))))) × I2)) : ((List ((I3 × I3) × (Int × (Int × (List Int))))) × I2) ⊕ (Unit ⊕ ((List ((I3 × I3) × (Int × (Int × (List Int))))) × Int)) :=
 (if (s.2.2 < ((List.getD s.1 (Int.toNat s.2.1) ((((0:Int),((0:Int),(0:Int))),((0:Int),((0:Int),(0:Int)))),((0:Int),((0:Int),[])))).2.2.2.length:Int)) then
 (letV (run (lawBoxes_l4_step x) (s.1,(s.2.1,(s.2.2,(0:Int))))) fun r =>
 (Sum.elim (fun a =>
 (Sum.inr (Sum.inl ()))) (fun b =>
 (Sum.inl (b.1,(b.2.1,(w64 (b.2.2 + (1:Int))))))) r)) else
 (Sum.inr (Sum.inr ((s.1,s.2.1)))))
def lawBoxes_l2_pre (x : (List I9)) (s : ((List ((I3 × I3) × (Int × (Int × (List Int))))) × I2)) : Prop :=
 ((((0:Int) ≤ s.2.1) ∧ (s.2.1 < (s.1.length:Int))) ∧
 (((Int.toNat s.2.1) < (List.length s.1)) ∧
 (((Int.toNat s.2.1) < (List.length s.1)) ∧
 (((Int.toNat s.2.1) < (List.length s.1)) ∧
 ((s.2.2 < ((List.getD s.1 (Int.toNat s.2.1) ((((0:Int),((0:Int),(0:Int))),((0:Int),((0:Int),(0:Int)))),((0:Int),((0:Int),[])))).2.2.2.length:Int)) →
 (Term (lawBoxes_l4_step x) (lawBoxes_l4_pre x) (s.1,(s.2.1,(s.2.2,(0:Int))))))))))
def lawBoxes_l2_t (x : (List I9)) (s : ((List ((I3 × I3) × (Int × (Int × (List Int))))) × I2)) : Tr (((List ((I3 × I3) × (Int × (Int × (List Int))))) × I2) ⊕ (Unit ⊕ ((List ((I3 × I3) × (Int × (Int × (List Int))))) × Int))) true :=
 (.oI3 s.2.1 s.1
 (.i10 (s.2.2 < (nL (gT s.1 s.2.1 ((zz3,zz3),(z0,(z0,[])))).2.2.2))
 (LoopD.lp (lawBoxes_l4 x) (lawBoxes_l4_t x) (s.1,(s.2.1,(s.2.2,z0))) fun r =>
 (.s00 r (fun a =>
 (.ret (.inr (Sum.inl ())))) (fun b =>
 (.ret (.inl (b.1,(b.2.1,(w1 b.2.2))))))))
 (.ret (.inr (Sum.inr ((s.1,s.2.1)))))))
def lawBoxes_l0 (x : (List I9)) : LoopD := ⟨[],⟨pvs 165 0 [(0,.v (.one (.full 0))),(3,.v (.one (.full 1))),(5,.v (.one (.i .i64)))],[.row yy9 0,.row (Ty.prod (Ty.prod yy3 yy3) (Ty.prod yi (Ty.prod yi (Ty.sl yi)))) 2],0,none,[],[1],[2,0],[(.l (Ty.prod (Ty.prod yy3 yy3) (Ty.prod yi (Ty.prod yi (Ty.sl yi))))),.i],[.l yy9 x]⟩,[⟨.ret,.ret,⟨pvs 165 0 [(2,.v (.one (.b)))],[],0,none,[],[0],[],[],[.b false]⟩⟩,⟨(.exit 0),.normal,⟨pvs 165 0 [],[],0,none,[],[],[],[],[]⟩⟩]⟩
def lawBoxes_l0_step (x : (List I9)) (s : ((List ((I3 × I3) × (Int × (Int × (List Int))))) × Int)) : ((List ((I3 × I3) × (Int × (Int × (List Int))))) × Int) ⊕ (Unit ⊕ Unit) :=
 (if (s.2 < (s.1.length:Int)) then
 (letV (run (lawBoxes_l2_step x) (s.1,(s.2,(0:Int)))) fun r =>
 (Sum.elim (fun a =>
 (Sum.inr (Sum.inl ()))) (fun b =>
 (if (((List.getD b.1 (Int.toNat b.2) ((((0:Int),((0:Int),(0:Int))),((0:Int),((0:Int),(0:Int)))),((0:Int),((0:Int),[])))).2.1 == (0:Int)) = true) then
 (Sum.inl (b.1,(w64 (b.2 + (1:Int))))) else
 (if ((List.getD b.1 (Int.toNat b.2) ((((0:Int),((0:Int),(0:Int))),((0:Int),((0:Int),(0:Int)))),((0:Int),((0:Int),[])))).2.1 ≤ b.2) then
 (Sum.inr (Sum.inl ())) else
 (if ((List.getD b.1 (Int.toNat b.2) ((((0:Int),((0:Int),(0:Int))),((0:Int),((0:Int),(0:Int)))),((0:Int),((0:Int),[])))).2.1 ≥ (b.1.length:Int)) then
 (Sum.inr (Sum.inl ())) else
 (if ((List.getD b.1 (Int.toNat b.2) ((((0:Int),((0:Int),(0:Int))),((0:Int),((0:Int),(0:Int)))),((0:Int),((0:Int),[])))).2.2.1 ≤ (List.getD b.1 (Int.toNat b.2) ((((0:Int),((0:Int),(0:Int))),((0:Int),((0:Int),(0:Int)))),((0:Int),((0:Int),[])))).2.1) then
 (Sum.inr (Sum.inl ())) else
 (if ((List.getD b.1 (Int.toNat b.2) ((((0:Int),((0:Int),(0:Int))),((0:Int),((0:Int),(0:Int)))),((0:Int),((0:Int),[])))).2.2.1 ≥ (b.1.length:Int)) then
 (Sum.inr (Sum.inl ())) else
 (letV (joinT ((List.getD b.1 (Int.toNat (List.getD b.1 (Int.toNat b.2) ((((0:Int),((0:Int),(0:Int))),((0:Int),((0:Int),(0:Int)))),((0:Int),((0:Int),[])))).2.1) ((((0:Int),((0:Int),(0:Int))),((0:Int),((0:Int),(0:Int)))),((0:Int),((0:Int),[])))).1,(List.getD b.1 (Int.toNat (List.getD b.1 (Int.toNat b.2) ((((0:Int),((0:Int),(0:Int))),((0:Int),((0:Int),(0:Int)))),((0:Int),((0:Int),[])))).2.2.1) ((((0:Int),((0:Int),(0:Int))),((0:Int),((0:Int),(0:Int)))),((0:Int),((0:Int),[])))).1)) fun y =>
 (if ((y.2 != (0:Int)) = true) then
 (Sum.inr (Sum.inl ())) else
 (if ((!(((y.1.1.1 == (List.getD b.1 (Int.toNat b.2) ((((0:Int),((0:Int),(0:Int))),((0:Int),((0:Int),(0:Int)))),((0:Int),((0:Int),[])))).1.1.1) && ((y.1.1.2.1 == (List.getD b.1 (Int.toNat b.2) ((((0:Int),((0:Int),(0:Int))),((0:Int),((0:Int),(0:Int)))),((0:Int),((0:Int),[])))).1.1.2.1) && ((y.1.1.2.2 == (List.getD b.1 (Int.toNat b.2) ((((0:Int),((0:Int),(0:Int))),((0:Int),((0:Int),(0:Int)))),((0:Int),((0:Int),[])))).1.1.2.2) && true))) && (((y.1.2.1 == (List.getD b.1 (Int.toNat b.2) ((((0:Int),((0:Int),(0:Int))),((0:Int),((0:Int),(0:Int)))),((0:Int),((0:Int),[])))).1.2.1) && ((y.1.2.2.1 == (List.getD b.1 (Int.toNat b.2) ((((0:Int),((0:Int),(0:Int))),((0:Int),((0:Int),(0:Int)))),((0:Int),((0:Int),[])))).1.2.2.1) && ((y.1.2.2.2 == (List.getD b.1 (Int.toNat b.2) ((((0:Int),((0:Int),(0:Int))),((0:Int),((0:Int),(0:Int)))),((0:Int),((0:Int),[])))).1.2.2.2) && true))) && true))) = true) then
 (Sum.inr (Sum.inl ())) else
 (Sum.inl (b.1,(w64 (b.2 + (1:Int)))))))))))))) r)) else
 (Sum.inr (Sum.inr (()))))
def lawBoxes_l0_pre (x : (List I9)) (s : ((List ((I3 × I3) × (Int × (Int × (List Int))))) × Int)) : Prop :=
 ((s.2 < (s.1.length:Int)) →
 (Term (lawBoxes_l2_step x) (lawBoxes_l2_pre x) (s.1,(s.2,(0:Int))) ∧
 letP (run (lawBoxes_l2_step x) (s.1,(s.2,(0:Int)))) fun r =>
 (cS r (fun a =>
 True) (fun b =>
 ((((0:Int) ≤ b.2) ∧ (b.2 < (b.1.length:Int))) ∧
 (((Int.toNat b.2) < (List.length b.1)) ∧
 (((Int.toNat b.2) < (List.length b.1)) ∧
 (((Int.toNat b.2) < (List.length b.1)) ∧
 (¬ (((List.getD b.1 (Int.toNat b.2) ((((0:Int),((0:Int),(0:Int))),((0:Int),((0:Int),(0:Int)))),((0:Int),((0:Int),[])))).2.1 == (0:Int)) = true) →
 ((((0:Int) ≤ b.2) ∧ (b.2 < (b.1.length:Int))) ∧
 (((Int.toNat b.2) < (List.length b.1)) ∧
 (((Int.toNat b.2) < (List.length b.1)) ∧
 (((Int.toNat b.2) < (List.length b.1)) ∧
 (¬ ((List.getD b.1 (Int.toNat b.2) ((((0:Int),((0:Int),(0:Int))),((0:Int),((0:Int),(0:Int)))),((0:Int),((0:Int),[])))).2.1 ≤ b.2) →
 ((((0:Int) ≤ b.2) ∧ (b.2 < (b.1.length:Int))) ∧
 (((Int.toNat b.2) < (List.length b.1)) ∧
 (((Int.toNat b.2) < (List.length b.1)) ∧
 (((Int.toNat b.2) < (List.length b.1)) ∧
 (¬ ((List.getD b.1 (Int.toNat b.2) ((((0:Int),((0:Int),(0:Int))),((0:Int),((0:Int),(0:Int)))),((0:Int),((0:Int),[])))).2.1 ≥ (b.1.length:Int)) →
 ((((0:Int) ≤ b.2) ∧ (b.2 < (b.1.length:Int))) ∧
 (((Int.toNat b.2) < (List.length b.1)) ∧
 (((Int.toNat b.2) < (List.length b.1)) ∧
 (((Int.toNat b.2) < (List.length b.1)) ∧
 ((((0:Int) ≤ b.2) ∧ (b.2 < (b.1.length:Int))) ∧
 (((Int.toNat b.2) < (List.length b.1)) ∧
 (((Int.toNat b.2) < (List.length b.1)) ∧
 (((Int.toNat b.2) < (List.length b.1)) ∧
 (¬ ((List.getD b.1 (Int.toNat b.2) ((((0:Int),((0:Int),(0:Int))),((0:Int),((0:Int),(0:Int)))),((0:Int),((0:Int),[])))).2.2.1 ≤ (List.getD b.1 (Int.toNat b.2) ((((0:Int),((0:Int),(0:Int))),((0:Int),((0:Int),(0:Int)))),((0:Int),((0:Int),[])))).2.1) →
 ((((0:Int) ≤ b.2) ∧ (b.2 < (b.1.length:Int))) ∧
 (((Int.toNat b.2) < (List.length b.1)) ∧
 (((Int.toNat b.2) < (List.length b.1)) ∧
 (((Int.toNat b.2) < (List.length b.1)) ∧
 (¬ ((List.getD b.1 (Int.toNat b.2) ((((0:Int),((0:Int),(0:Int))),((0:Int),((0:Int),(0:Int)))),((0:Int),((0:Int),[])))).2.2.1 ≥ (b.1.length:Int)) →
 ((((0:Int) ≤ b.2) ∧ (b.2 < (b.1.length:Int))) ∧
 (((Int.toNat b.2) < (List.length b.1)) ∧
 (((Int.toNat b.2) < (List.length b.1)) ∧
 (((Int.toNat b.2) < (List.length b.1)) ∧
 ((((0:Int) ≤ (List.getD b.1 (Int.toNat b.2) ((((0:Int),((0:Int),(0:Int))),((0:Int),((0:Int),(0:Int)))),((0:Int),((0:Int),[])))).2.1) ∧ ((List.getD b.1 (Int.toNat b.2) ((((0:Int),((0:Int),(0:Int))),((0:Int),((0:Int),(0:Int)))),((0:Int),((0:Int),[])))).2.1 < (b.1.length:Int))) ∧
 (((Int.toNat (List.getD b.1 (Int.toNat b.2) ((((0:Int),((0:Int),(0:Int))),((0:Int),((0:Int),(0:Int)))),((0:Int),((0:Int),[])))).2.1) < (List.length b.1)) ∧
 (((Int.toNat (List.getD b.1 (Int.toNat b.2) ((((0:Int),((0:Int),(0:Int))),((0:Int),((0:Int),(0:Int)))),((0:Int),((0:Int),[])))).2.1) < (List.length b.1)) ∧
 (((Int.toNat (List.getD b.1 (Int.toNat b.2) ((((0:Int),((0:Int),(0:Int))),((0:Int),((0:Int),(0:Int)))),((0:Int),((0:Int),[])))).2.1) < (List.length b.1)) ∧
 ((((0:Int) ≤ b.2) ∧ (b.2 < (b.1.length:Int))) ∧
 (((Int.toNat b.2) < (List.length b.1)) ∧
 (((Int.toNat b.2) < (List.length b.1)) ∧
 (((Int.toNat b.2) < (List.length b.1)) ∧
 ((((0:Int) ≤ (List.getD b.1 (Int.toNat b.2) ((((0:Int),((0:Int),(0:Int))),((0:Int),((0:Int),(0:Int)))),((0:Int),((0:Int),[])))).2.2.1) ∧ ((List.getD b.1 (Int.toNat b.2) ((((0:Int),((0:Int),(0:Int))),((0:Int),((0:Int),(0:Int)))),((0:Int),((0:Int),[])))).2.2.1 < (b.1.length:Int))) ∧
 (((Int.toNat (List.getD b.1 (Int.toNat b.2) ((((0:Int),((0:Int),(0:Int))),((0:Int),((0:Int),(0:Int)))),((0:Int),((0:Int),[])))).2.2.1) < (List.length b.1)) ∧
 (((Int.toNat (List.getD b.1 (Int.toNat b.2) ((((0:Int),((0:Int),(0:Int))),((0:Int),((0:Int),(0:Int)))),((0:Int),((0:Int),[])))).2.2.1) < (List.length b.1)) ∧
 (((Int.toNat (List.getD b.1 (Int.toNat b.2) ((((0:Int),((0:Int),(0:Int))),((0:Int),((0:Int),(0:Int)))),((0:Int),((0:Int),[])))).2.2.1) < (List.length b.1)) ∧
 ((joinT_pre ((List.getD b.1 (Int.toNat (List.getD b.1 (Int.toNat b.2) ((((0:Int),((0:Int),(0:Int))),((0:Int),((0:Int),(0:Int)))),((0:Int),((0:Int),[])))).2.1) ((((0:Int),((0:Int),(0:Int))),((0:Int),((0:Int),(0:Int)))),((0:Int),((0:Int),[])))).1,(List.getD b.1 (Int.toNat (List.getD b.1 (Int.toNat b.2) ((((0:Int),((0:Int),(0:Int))),((0:Int),((0:Int),(0:Int)))),((0:Int),((0:Int),[])))).2.2.1) ((((0:Int),((0:Int),(0:Int))),((0:Int),((0:Int),(0:Int)))),((0:Int),((0:Int),[])))).1)) ∧
 letP (joinT ((List.getD b.1 (Int.toNat (List.getD b.1 (Int.toNat b.2) ((((0:Int),((0:Int),(0:Int))),((0:Int),((0:Int),(0:Int)))),((0:Int),((0:Int),[])))).2.1) ((((0:Int),((0:Int),(0:Int))),((0:Int),((0:Int),(0:Int)))),((0:Int),((0:Int),[])))).1,(List.getD b.1 (Int.toNat (List.getD b.1 (Int.toNat b.2) ((((0:Int),((0:Int),(0:Int))),((0:Int),((0:Int),(0:Int)))),((0:Int),((0:Int),[])))).2.2.1) ((((0:Int),((0:Int),(0:Int))),((0:Int),((0:Int),(0:Int)))),((0:Int),((0:Int),[])))).1)) fun y =>
 (¬ ((y.2 != (0:Int)) = true) →
 ((((0:Int) ≤ b.2) ∧ (b.2 < (b.1.length:Int))) ∧
 (((Int.toNat b.2) < (List.length b.1)) ∧
 (((Int.toNat b.2) < (List.length b.1)) ∧
 ((Int.toNat b.2) < (List.length b.1))))))))))))))))))))))))))))))))))))))))))))))))))))))))
def lawBoxes_l0_t (x : (List I9)) (s : ((List ((I3 × I3) × (Int × (Int × (List Int))))) × Int)) : Tr (((List ((I3 × I3) × (Int × (Int × (List Int))))) × Int) ⊕ (Unit ⊕ Unit)) true :=
 (.i10 (s.2 < (nL s.1))
 (LoopD.lp (lawBoxes_l2 x) (lawBoxes_l2_t x) (s.1,(s.2,z0)) fun r =>
 (.s01 r (fun a =>
 (.ret (.inr (Sum.inl ())))) (fun b =>
 (.oI3 b.2 b.1
 (.b01 ((gT b.1 b.2 ((zz3,zz3),(z0,(z0,[])))).2.1 == z0)
 (.ret (.inl (b.1,(w1 b.2))))
 (.oI3 b.2 b.1
 (.i01 ((gT b.1 b.2 ((zz3,zz3),(z0,(z0,[])))).2.1 ≤ b.2)
 (.ret (.inr (Sum.inl ())))
 (.oI3 b.2 b.1
 (.i01 ((gT b.1 b.2 ((zz3,zz3),(z0,(z0,[])))).2.1 ≥ (nL b.1))
 (.ret (.inr (Sum.inl ())))
 (.oI3 b.2 b.1
 (.oI3 b.2 b.1
 (.i01 ((gT b.1 b.2 ((zz3,zz3),(z0,(z0,[])))).2.2.1 ≤ (gT b.1 b.2 ((zz3,zz3),(z0,(z0,[])))).2.1)
 (.ret (.inr (Sum.inl ())))
 (.oI3 b.2 b.1
 (.i01 ((gT b.1 b.2 ((zz3,zz3),(z0,(z0,[])))).2.2.1 ≥ (nL b.1))
 (.ret (.inr (Sum.inl ())))
 (.oI3 b.2 b.1
 (.oI3 (gT b.1 b.2 ((zz3,zz3),(z0,(z0,[])))).2.1 b.1
 (.oI3 b.2 b.1
 (.oI3 (gT b.1 b.2 ((zz3,zz3),(z0,(z0,[])))).2.2.1 b.1
 (.fn joinT_S ((gT b.1 (gT b.1 b.2 ((zz3,zz3),(z0,(z0,[])))).2.1 ((zz3,zz3),(z0,(z0,[])))).1,(gT b.1 (gT b.1 b.2 ((zz3,zz3),(z0,(z0,[])))).2.2.1 ((zz3,zz3),(z0,(z0,[])))).1) fun y =>
 (.b01 (y.2 != z0)
 (.ret (.inr (Sum.inl ())))
 (.oI3 b.2 b.1
 (.b00 (!(((y.1.1.1 == (gT b.1 b.2 ((zz3,zz3),(z0,(z0,[])))).1.1.1) && ((y.1.1.2.1 == (gT b.1 b.2 ((zz3,zz3),(z0,(z0,[])))).1.1.2.1) && ((y.1.1.2.2 == (gT b.1 b.2 ((zz3,zz3),(z0,(z0,[])))).1.1.2.2) && true))) && (((y.1.2.1 == (gT b.1 b.2 ((zz3,zz3),(z0,(z0,[])))).1.2.1) && ((y.1.2.2.1 == (gT b.1 b.2 ((zz3,zz3),(z0,(z0,[])))).1.2.2.1) && ((y.1.2.2.2 == (gT b.1 b.2 ((zz3,zz3),(z0,(z0,[])))).1.2.2.2) && true))) && true)))
 (.ret (.inr (Sum.inl ())))
 (.ret (.inl (b.1,(w1 b.2))))))))))))))))))))))))))
 (.ret (.inr (Sum.inr (())))))
def lawBoxes (x : (List I9)) : Bool :=
 (if ((x.length:Int) > (20:Int)) then
 true else
 (letV (buildT x) fun y =>
 (if ((y.2 != (0:Int)) = true) then
 (letV (grownM false) fun y_1 =>
 y_1) else
 (letV (run (lawBoxes_l0_step x) (y.1,(0:Int))) fun r =>
 (Sum.elim (fun a =>
 false) (fun b =>
 (letV (grownM false) fun y_1 =>
 y_1)) r)))))
def lawBoxes_pre (x : (List I9)) : Prop :=
 (¬ ((x.length:Int) > (20:Int)) →
 ((buildT_pre x) ∧
 letP (buildT x) fun y =>
 ((((y.2 != (0:Int)) = true) →
 (grownM_pre false)) ∧
 (¬ ((y.2 != (0:Int)) = true) →
 (Term (lawBoxes_l0_step x) (lawBoxes_l0_pre x) (y.1,(0:Int)) ∧
 letP (run (lawBoxes_l0_step x) (y.1,(0:Int))) fun r =>
 (cS r (fun a =>
 True) (fun b =>
 (grownM_pre false))))))))
def lawBoxes_t (x : (List I9)) : Tr Bool true :=
 (.i01 ((nL x) > (20:Int))
 (.ret true)
 (.fn buildT_S x fun y =>
 (.b11 (y.2 != z0)
 (.fn grownM_S false fun y_1 =>
 (.ret y_1))
 (LoopD.lp (lawBoxes_l0 x) (lawBoxes_l0_t x) (y.1,z0) fun r =>
 (.s01 r (fun a =>
 (.ret false)) (fun b =>
 (.fn grownM_S false fun y_1 =>
 (.ret y_1))))))))
abbrev lawBoxes_S : FnS := ⟨(.one (Ty.sl yy9)),(.one Ty.bool),lawBoxes_pre,lawBoxes⟩
theorem lawBoxes_ok : SpecOk Try.prog 6 (fnSpec lawBoxes_S) := SpecOk.tr lawBoxes_S lawBoxes_t (fn := Try.f6) tt_ok sp_lawRight_ok mixed (by kernel_rfl) (ItsOk.nil _ _) (fun x => (LpsOk.tr tt_ok (SpecsOk.ctxI sp_lawRight_ok (ItsOk.nil _ _)) mixed 0 (lawBoxes_l0 x) (lawBoxes_l0_t x) (LpsOk.tr tt_ok (SpecsOk.ctxI sp_lawRight_ok (ItsOk.nil _ _)) mixed 2 (lawBoxes_l2 x) (lawBoxes_l2_t x) (LpsOk.tr tt_ok (SpecsOk.ctxI sp_lawRight_ok (ItsOk.nil _ _)) mixed 4 (lawBoxes_l4 x) (lawBoxes_l4_t x) LpsOk.nil (by kernel_rfl) fun g s Q => (by kernel_rfl)) (by kernel_rfl) fun g s Q => (by kernel_rfl)) (by kernel_rfl) fun g s Q => (by kernel_rfl))) (fun x => (by kernel_rfl)) fun x Q => (by kernel_rfl)
end Go.Proofs.Ytaipcbdilkcdbaa
