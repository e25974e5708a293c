/- Models of the references of layers 4, 8 and 14. -/
import Derived.Test.YtleemdeodmdnkaaKl
noncomputable section
set_option linter.unusedSectionVars false
set_option linter.unusedVariables false
set_option linter.unusedSimpArgs false
namespace Go.Proofs.Ytleemdeodmdnkaa
open Go Go.Ev Go.Proofs
def big14_l0 (x : (List (Int × (Int × (List Int))))) : LoopD := ⟨[],⟨pvs 25 0 [(0,.v (.one (.full 0))),(3,.v (.one (.i .i64)))],[.row (Ty.prod yi (Ty.prod yi (Ty.sl yi))) 0],0,none,[],[1],[0],[.i],[.l (Ty.prod yi (Ty.prod yi (Ty.sl yi))) x]⟩,[⟨.ret,.ret,⟨pvs 25 0 [(2,.v (.one (.b)))],[],0,none,[],[0],[],[],[.b true]⟩⟩,⟨(.exit 0),.normal,⟨pvs 25 0 [(0,.v (.one (.full 0)))],[.row (Ty.prod yi (Ty.prod yi (Ty.sl yi))) 0],0,none,[],[0],[],[],[.l (Ty.prod yi (Ty.prod yi (Ty.sl yi))) x]⟩⟩]⟩
def big14_l0_step (x : (List (Int × (Int × (List Int))))) (s:Int) : Int ⊕ (Unit ⊕ Unit) :=
 (if (s < (x.length:Int)) then
 (if ((x.length:Int) ≤ (60:Int)) then
 (if (((List.getD x (Int.toNat s) ((0:Int),((0:Int),[]))).2.2.length:Int) > (60:Int)) then
 (Sum.inr (Sum.inl ())) else
 (Sum.inl (w64 (s + (1:Int))))) else
 (Sum.inr (Sum.inr (())))) else
 (Sum.inr (Sum.inr (()))))
def big14_l0_pre (x : (List (Int × (Int × (List Int))))) (s:Int) : Prop :=
 ((s < (x.length:Int)) →
 (((x.length:Int) ≤ (60:Int)) →
 ((((0:Int) ≤ s) ∧ (s < (x.length:Int))) ∧
 (((Int.toNat s) < (List.length x)) ∧
 (((Int.toNat s) < (List.length x)) ∧
 ((Int.toNat s) < (List.length x)))))))
def big14_l0_t (x : (List (Int × (Int × (List Int))))) (s:Int) : Tr (Int ⊕ (Unit ⊕ Unit)) true :=
 (.i10 (s < (nL x))
 (.i10 ((nL x) ≤ (60:Int))
 (.oI3 s x
 (.i00 ((nL (gT x s (z0,(z0,[]))).2.2) > (60:Int))
 (.ret (.inr (Sum.inl ())))
 (.ret (.inl (w1 s)))))
 (.ret (.inr (Sum.inr (())))))
 (.ret (.inr (Sum.inr (())))))
def big14 (x : (List (Int × (Int × (List Int))))) : Bool :=
 (letV (run (big14_l0_step x) (0:Int)) fun r =>
 (Sum.elim (fun a =>
 true) (fun b =>
 (decide ((x.length:Int) > (60:Int)))) r))
def big14_pre (x : (List (Int × (Int × (List Int))))) : Prop :=
 (Term (big14_l0_step x) (big14_l0_pre x) (0:Int))
def big14_t (x : (List (Int × (Int × (List Int))))) : Tr Bool true :=
 (LoopD.lp (big14_l0 x) (big14_l0_t x) z0 fun r =>
 (.s00 r (fun a =>
 (.ret true)) (fun b =>
 (.ret (decide ((nL x) > (60:Int)))))))
abbrev big14_S : FnS := ⟨(.one (Ty.sl (Ty.prod yi (Ty.prod yi (Ty.sl yi))))),(.one Ty.bool),big14_pre,big14⟩
theorem big14_ok : SpecOk Try.prog 9 (fnSpec big14_S) := SpecOk.tr big14_S big14_t (fn := Try.f9) tt_ok sp_in14_ok mixed (by kernel_rfl) (ItsOk.nil _ _) (fun x => (LpsOk.tr tt_ok (SpecsOk.ctxI sp_in14_ok (ItsOk.nil _ _)) mixed 0 (big14_l0 x) (big14_l0_t x) LpsOk.nil (by kernel_rfl) fun g s Q => (by kernel_rfl))) (fun x => (by kernel_rfl)) fun x Q => (by kernel_rfl)
def sp_big14 : List (Nat × Ev.Spec) := (9,fnSpec big14_S) :: sp_in14
theorem sp_big14_ok : SpecsOk Try.prog sp_big14 := SpecsOk.add (fn := Try.f9) (by kernel_rfl) big14_ok sp_in14_ok
def same14_l0 (x : ((List (Int × (Int × (List Int)))) × (List (Int × (Int × (List Int)))))) : LoopD := ⟨[],⟨pvs 55 0 [(0,.v (.one (.full 0))),(1,.v (.one (.full 1))),(5,.v (.one (.i .i64)))],[.row (Ty.prod yi (Ty.prod yi (Ty.sl yi))) 0,.row (Ty.prod yi (Ty.prod yi (Ty.sl yi))) 0],0,none,[],[1,2],[0],[.i],[.l (Ty.prod yi (Ty.prod yi (Ty.sl yi))) x.1,.l (Ty.prod yi (Ty.prod yi (Ty.sl yi))) x.2]⟩,[⟨.ret,.ret,⟨pvs 55 0 [(4,.v (.one (.b)))],[],0,none,[],[0],[],[],[.b false]⟩⟩,⟨(.exit 0),.normal,⟨pvs 55 0 [],[],0,none,[],[],[],[],[]⟩⟩]⟩
def same14_l0_step (x : ((List (Int × (Int × (List Int)))) × (List (Int × (Int × (List Int)))))) (s:Int) : Int ⊕ (Unit ⊕ Unit) :=
 (if (s < (x.1.length:Int)) then
 (if (((List.getD x.1 (Int.toNat s) ((0:Int),((0:Int),[]))).1 != (List.getD x.2 (Int.toNat s) ((0:Int),((0:Int),[]))).1) = true) then
 (Sum.inr (Sum.inl ())) else
 (if (((List.getD x.1 (Int.toNat s) ((0:Int),((0:Int),[]))).2.1 != (List.getD x.2 (Int.toNat s) ((0:Int),((0:Int),[]))).2.1) = true) then
 (Sum.inr (Sum.inl ())) else
 (letV (same01 ((List.getD x.1 (Int.toNat s) ((0:Int),((0:Int),[]))).2.2,(List.getD x.2 (Int.toNat s) ((0:Int),((0:Int),[]))).2.2)) fun y =>
 (if ((!y) = true) then
 (Sum.inr (Sum.inl ())) else
 (Sum.inl (w64 (s + (1:Int)))))))) else
 (Sum.inr (Sum.inr (()))))
def same14_l0_pre (x : ((List (Int × (Int × (List Int)))) × (List (Int × (Int × (List Int)))))) (s:Int) : Prop :=
 ((s < (x.1.length:Int)) →
 ((((0:Int) ≤ s) ∧ (s < (x.1.length:Int))) ∧
 (((Int.toNat s) < (List.length x.1)) ∧
 (((Int.toNat s) < (List.length x.1)) ∧
 (((Int.toNat s) < (List.length x.1)) ∧
 ((((0:Int) ≤ s) ∧ (s < (x.2.length:Int))) ∧
 (((Int.toNat s) < (List.length x.2)) ∧
 (((Int.toNat s) < (List.length x.2)) ∧
 (((Int.toNat s) < (List.length x.2)) ∧
 (¬ (((List.getD x.1 (Int.toNat s) ((0:Int),((0:Int),[]))).1 != (List.getD x.2 (Int.toNat s) ((0:Int),((0:Int),[]))).1) = true) →
 ((((0:Int) ≤ s) ∧ (s < (x.1.length:Int))) ∧
 (((Int.toNat s) < (List.length x.1)) ∧
 (((Int.toNat s) < (List.length x.1)) ∧
 (((Int.toNat s) < (List.length x.1)) ∧
 ((((0:Int) ≤ s) ∧ (s < (x.2.length:Int))) ∧
 (((Int.toNat s) < (List.length x.2)) ∧
 (((Int.toNat s) < (List.length x.2)) ∧
 (((Int.toNat s) < (List.length x.2)) ∧
 (¬ (((List.getD x.1 (Int.toNat s) ((0:Int),((0:Int),[]))).2.1 != (List.getD x.2 (Int.toNat s) ((0:Int),((0:Int),[]))).2.1) = true) →
 ((((0:Int) ≤ s) ∧ (s < (x.1.length:Int))) ∧
 (((Int.toNat s) < (List.length x.1)) ∧
 (((Int.toNat s) < (List.length x.1)) ∧
 (((Int.toNat s) < (List.length x.1)) ∧
 ((((0:Int) ≤ s) ∧ (s < (x.2.length:Int))) ∧
 (((Int.toNat s) < (List.length x.2)) ∧
 (((Int.toNat s) < (List.length x.2)) ∧
 (((Int.toNat s) < (List.length x.2)) ∧
 (same01_pre ((List.getD x.1 (Int.toNat s) ((0:Int),((0:Int),[]))).2.2,(List.getD x.2 (Int.toNat s) ((0:Int),((0:Int),[]))).2.2)))))))))))))))))))))))))))))
def same14_l0_t (x : ((List (Int × (Int × (List Int)))) × (List (Int × (Int × (List Int)))))) (s:Int) : Tr (Int ⊕ (Unit ⊕ Unit)) true :=
 (.i10 (s < (nL x.1))
 (.oI3 s x.1
 (.oI3 s x.2
 (.b01 ((gT x.1 s (z0,(z0,[]))).1 != (gT x.2 s (z0,(z0,[]))).1)
 (.ret (.inr (Sum.inl ())))
 (.oI3 s x.1
 (.oI3 s x.2
 (.b01 ((gT x.1 s (z0,(z0,[]))).2.1 != (gT x.2 s (z0,(z0,[]))).2.1)
 (.ret (.inr (Sum.inl ())))
 (.oI3 s x.1
 (.oI3 s x.2
 (.fn same01_S ((gT x.1 s (z0,(z0,[]))).2.2,(gT x.2 s (z0,(z0,[]))).2.2) fun y =>
 (.b00 (!y)
 (.ret (.inr (Sum.inl ())))
 (.ret (.inl (w1 s)))))))))))))
 (.ret (.inr (Sum.inr (())))))
def same14 (x : ((List (Int × (Int × (List Int)))) × (List (Int × (Int × (List Int)))))) : Bool :=
 (if (((x.1.length:Int) != (x.2.length:Int)) = true) then
 false else
 (letV (run (same14_l0_step x) (0:Int)) fun r =>
 (Sum.elim (fun a =>
 false) (fun b =>
 true) r)))
def same14_pre (x : ((List (Int × (Int × (List Int)))) × (List (Int × (Int × (List Int)))))) : Prop :=
 (¬ (((x.1.length:Int) != (x.2.length:Int)) = true) →
 (Term (same14_l0_step x) (same14_l0_pre x) (0:Int)))
def same14_t (x : ((List (Int × (Int × (List Int)))) × (List (Int × (Int × (List Int)))))) : Tr Bool true :=
 (.b01 ((nL x.1) != (nL x.2))
 (.ret false)
 (LoopD.lp (same14_l0 x) (same14_l0_t x) z0 fun r =>
 (.s00 r (fun a =>
 (.ret false)) (fun b =>
 (.ret true)))))
abbrev same14_S : FnS := ⟨(.pair (.one (Ty.sl (Ty.prod yi (Ty.prod yi (Ty.sl yi))))) (.one (Ty.sl (Ty.prod yi (Ty.prod yi (Ty.sl yi)))))),(.one Ty.bool),same14_pre,same14⟩
theorem same14_ok : SpecOk Try.prog 20 (fnSpec same14_S) := SpecOk.tr same14_S same14_t (fn := Try.f20) tt_ok sp_big14_ok mixed (by kernel_rfl) (ItsOk.nil _ _) (fun x => (LpsOk.tr tt_ok (SpecsOk.ctxI sp_big14_ok (ItsOk.nil _ _)) mixed 0 (same14_l0 x) (same14_l0_t x) LpsOk.nil (by kernel_rfl) fun g s Q => (by kernel_rfl))) (fun x => (by kernel_rfl)) fun x Q => (by kernel_rfl)
def sp_same14 : List (Nat × Ev.Spec) := (20,fnSpec same14_S) :: sp_big14
theorem sp_same14_ok : SpecsOk Try.prog sp_same14 := SpecsOk.add (fn := Try.f20) (by kernel_rfl) same14_ok sp_big14_ok
def r4near (x:Int) : Bool :=
 (if (x ≥ (-1048576:Int)) then
 (decide (x ≤ (1048576:Int))) else
 false)
def r4near_pre (_:Int) : Prop := True
def r4near_t (x:Int) : Tr Bool false :=
 (.i00 (x ≥ (-1048576:Int))
 (.ret (decide (x ≤ (1048576:Int))))
 (.ret false))
abbrev r4near_S : FnS := ⟨(.one yi),(.one Ty.bool),r4near_pre,r4near⟩
theorem r4near_ok : SpecOk Try.prog 80 (fnSpec r4near_S) := SpecOk.tr r4near_S r4near_t (fn := Try.f80) tt_ok sp_same14_ok mixed (by kernel_rfl) (ItsOk.nil _ _) (fun x => LpsOk.nil) (fun x => (by kernel_rfl)) fun x Q => (by kernel_rfl)
def sp_r4near : List (Nat × Ev.Spec) := (80,fnSpec r4near_S) :: sp_same14
theorem sp_r4near_ok : SpecsOk Try.prog sp_r4near := SpecsOk.add (fn := Try.f80) (by kernel_rfl) r4near_ok sp_same14_ok
def r4is2 (x : I2) : Bool :=
 (letV (r4near x.1) fun y =>
 (if (y = true) then
 (letV (r4near x.2) fun y_1 =>
 y_1) else
 false))
def r4is2_pre (_ : I2) : Prop := True
def r4is2_t (x : I2) : Tr Bool false :=
 (.fn0 r4near_S x.1 trivial fun y =>
 (.b00 y
 (.fn0 r4near_S x.2 trivial fun y_1 =>
 (.ret y_1))
 (.ret false)))
abbrev r4is2_S : FnS := ⟨(.agg yy2),(.one Ty.bool),r4is2_pre,r4is2⟩
theorem r4is2_ok : SpecOk Try.prog 71 (fnSpec r4is2_S) := SpecOk.tr r4is2_S r4is2_t (fn := Try.f71) tt_ok sp_r4near_ok mixed (by kernel_rfl) (ItsOk.nil _ _) (fun x => LpsOk.nil) (fun x => (by kernel_rfl)) fun x Q => (by kernel_rfl)
def sp_r4is2 : List (Nat × Ev.Spec) := (71,fnSpec r4is2_S) :: sp_r4near
theorem sp_r4is2_ok : SpecsOk Try.prog sp_r4is2 := SpecsOk.add (fn := Try.f71) (by kernel_rfl) r4is2_ok sp_r4near_ok
def r4is3 (x : I3) : Bool :=
 (letV (r4near x.1) fun y =>
 (if (y = true) then
 (letV (r4near x.2.1) fun y_1 =>
 (if (y_1 = true) then
 (letV (r4near x.2.2) fun y_2 =>
 y_2) else
 false)) else
 false))
def r4is3_pre (_ : I3) : Prop := True
def r4is3_t (x : I3) : Tr Bool false :=
 (.fn0 r4near_S x.1 trivial fun y =>
 (.b00 y
 (.fn0 r4near_S x.2.1 trivial fun y_1 =>
 (.b00 y_1
 (.fn0 r4near_S x.2.2 trivial fun y_2 =>
 (.ret y_2))
 (.ret false)))
 (.ret false)))
abbrev r4is3_S : FnS := ⟨(.agg yy3),(.one Ty.bool),r4is3_pre,r4is3⟩
theorem r4is3_ok : SpecOk Try.prog 70 (fnSpec r4is3_S) := SpecOk.tr r4is3_S r4is3_t (fn := Try.f70) tt_ok sp_r4is2_ok mixed (by kernel_rfl) (ItsOk.nil _ _) (fun x => LpsOk.nil) (fun x => (by kernel_rfl)) fun x Q => (by kernel_rfl)
def sp_r4is3 : List (Nat × Ev.Spec) := (70,fnSpec r4is3_S) :: sp_r4is2
theorem sp_r4is3_ok : SpecsOk Try.prog sp_r4is3 := SpecsOk.add (fn := Try.f70) (by kernel_rfl) r4is3_ok sp_r4is2_ok
def r4all2_l0 (x : (List I2)) : LoopD := ⟨[],⟨pvs 16 0 [(0,.v (.one (.full 0))),(3,.v (.one (.i .i64)))],[.row yy2 0],0,none,[],[1],[0],[.i],[.l yy2 x]⟩,[⟨.ret,.ret,⟨pvs 16 0 [(2,.v (.one (.b)))],[],0,none,[],[0],[],[],[.b false]⟩⟩,⟨(.exit 0),.normal,⟨pvs 16 0 [],[],0,none,[],[],[],[],[]⟩⟩]⟩
def r4all2_l0_step (x : (List I2)) (s:Int) : Int ⊕ (Unit ⊕ Unit) :=
 (if (s < (x.length:Int)) then
 (letV (r4is2 (List.getD x (Int.toNat s) ((0:Int),(0:Int)))) fun y =>
 (if ((!y) = true) then
 (Sum.inr (Sum.inl ())) else
 (Sum.inl (w64 (s + (1:Int)))))) else
 (Sum.inr (Sum.inr (()))))
def r4all2_l0_pre (x : (List I2)) (s:Int) : Prop :=
 ((s < (x.length:Int)) →
 ((((0:Int) ≤ s) ∧ (s < (x.length:Int))) ∧
 (((Int.toNat s) < (List.length x)) ∧
 ((Int.toNat s) < (List.length x)))))
def r4all2_l0_t (x : (List I2)) (s:Int) : Tr (Int ⊕ (Unit ⊕ Unit)) true :=
 (.i10 (s < (nL x))
 (.oI2 s x
 (.fn0 r4is2_S (gT x s zz2) trivial fun y =>
 (.b00 (!y)
 (.ret (.inr (Sum.inl ())))
 (.ret (.inl (w1 s))))))
 (.ret (.inr (Sum.inr (())))))
def r4all2 (x : (List I2)) : Bool :=
 (letV (run (r4all2_l0_step x) (0:Int)) fun r =>
 (Sum.elim (fun a =>
 false) (fun b =>
 true) r))
def r4all2_pre (x : (List I2)) : Prop :=
 (Term (r4all2_l0_step x) (r4all2_l0_pre x) (0:Int))
def r4all2_t (x : (List I2)) : Tr Bool true :=
 (LoopD.lp (r4all2_l0 x) (r4all2_l0_t x) z0 fun r =>
 (.s00 r (fun a =>
 (.ret false)) (fun b =>
 (.ret true))))
abbrev r4all2_S : FnS := ⟨(.one (Ty.sl yy2)),(.one Ty.bool),r4all2_pre,r4all2⟩
theorem r4all2_ok : SpecOk Try.prog 53 (fnSpec r4all2_S) := SpecOk.tr r4all2_S r4all2_t (fn := Try.f53) tt_ok sp_r4is3_ok mixed (by kernel_rfl) (ItsOk.nil _ _) (fun x => (LpsOk.tr tt_ok (SpecsOk.ctxI sp_r4is3_ok (ItsOk.nil _ _)) mixed 0 (r4all2_l0 x) (r4all2_l0_t x) LpsOk.nil (by kernel_rfl) fun g s Q => (by kernel_rfl))) (fun x => (by kernel_rfl)) fun x Q => (by kernel_rfl)
def sp_r4all2 : List (Nat × Ev.Spec) := (53,fnSpec r4all2_S) :: sp_r4is3
theorem sp_r4all2_ok : SpecsOk Try.prog sp_r4all2 := SpecsOk.add (fn := Try.f53) (by kernel_rfl) r4all2_ok sp_r4is3_ok
def r4all3_l0 (x : (List I3)) : LoopD := ⟨[],⟨pvs 16 0 [(0,.v (.one (.full 0))),(3,.v (.one (.i .i64)))],[.row yy3 0],0,none,[],[1],[0],[.i],[.l yy3 x]⟩,[⟨.ret,.ret,⟨pvs 16 0 [(2,.v (.one (.b)))],[],0,none,[],[0],[],[],[.b false]⟩⟩,⟨(.exit 0),.normal,⟨pvs 16 0 [],[],0,none,[],[],[],[],[]⟩⟩]⟩
def r4all3_l0_step (x : (List I3)) (s:Int) : Int ⊕ (Unit ⊕ Unit) :=
 (if (s < (x.length:Int)) then
 (letV (r4is3 (List.getD x (Int.toNat s) ((0:Int),((0:Int),(0:Int))))) fun y =>
 (if ((!y) = true) then
 (Sum.inr (Sum.inl ())) else
 (Sum.inl (w64 (s + (1:Int)))))) else
 (Sum.inr (Sum.inr (()))))
def r4all3_l0_pre (x : (List I3)) (s:Int) : Prop :=
 ((s < (x.length:Int)) →
 ((((0:Int) ≤ s) ∧ (s < (x.length:Int))) ∧
 (((Int.toNat s) < (List.length x)) ∧
 ((Int.toNat s) < (List.length x)))))
def r4all3_l0_t (x : (List I3)) (s:Int) : Tr (Int ⊕ (Unit ⊕ Unit)) true :=
 (.i10 (s < (nL x))
 (.oI2 s x
 (.fn0 r4is3_S (gT x s zz3) trivial fun y =>
 (.b00 (!y)
 (.ret (.inr (Sum.inl ())))
 (.ret (.inl (w1 s))))))
 (.ret (.inr (Sum.inr (())))))
def r4all3 (x : (List I3)) : Bool :=
 (letV (run (r4all3_l0_step x) (0:Int)) fun r =>
 (Sum.elim (fun a =>
 false) (fun b =>
 true) r))
def r4all3_pre (x : (List I3)) : Prop :=
 (Term (r4all3_l0_step x) (r4all3_l0_pre x) (0:Int))
def r4all3_t (x : (List I3)) : Tr Bool true :=
 (LoopD.lp (r4all3_l0 x) (r4all3_l0_t x) z0 fun r =>
 (.s00 r (fun a =>
 (.ret false)) (fun b =>
 (.ret true))))
abbrev r4all3_S : FnS := ⟨(.one (Ty.sl yy3)),(.one Ty.bool),r4all3_pre,r4all3⟩
theorem r4all3_ok : SpecOk Try.prog 52 (fnSpec r4all3_S) := SpecOk.tr r4all3_S r4all3_t (fn := Try.f52) tt_ok sp_r4all2_ok mixed (by kernel_rfl) (ItsOk.nil _ _) (fun x => (LpsOk.tr tt_ok (SpecsOk.ctxI sp_r4all2_ok (ItsOk.nil _ _)) mixed 0 (r4all3_l0 x) (r4all3_l0_t x) LpsOk.nil (by kernel_rfl) fun g s Q => (by kernel_rfl))) (fun x => (by kernel_rfl)) fun x Q => (by kernel_rfl)
def sp_r4all3 : List (Nat × Ev.Spec) := (52,fnSpec r4all3_S) :: sp_r4all2
theorem sp_r4all3_ok : SpecsOk Try.prog sp_r4all3 := SpecsOk.add (fn := Try.f52) (by kernel_rfl) r4all3_ok sp_r4all2_ok
def r8within (x : I3) : Bool :=
 (if (x.1 ≥ x.2.1) then
 (decide (x.1 ≤ x.2.2)) else
 false)
def r8within_pre (_ : I3) : Prop := True
def r8within_t (x : I3) : Tr Bool false :=
 (.i00 (x.1 ≥ x.2.1)
 (.ret (decide (x.1 ≤ x.2.2)))
 (.ret false))
abbrev r8within_S : FnS := ⟨(.pair (.one yi) (.pair (.one yi) (.one yi))),(.one Ty.bool),r8within_pre,r8within⟩
theorem r8within_ok : SpecOk Try.prog 54 (fnSpec r8within_S) := SpecOk.tr r8within_S r8within_t (fn := Try.f54) tt_ok sp_r4all3_ok mixed (by kernel_rfl) (ItsOk.nil _ _) (fun x => LpsOk.nil) (fun x => (by kernel_rfl)) fun x Q => (by kernel_rfl)
def sp_r8within : List (Nat × Ev.Spec) := (54,fnSpec r8within_S) :: sp_r4all3
theorem sp_r8within_ok : SpecsOk Try.prog sp_r8within := SpecsOk.add (fn := Try.f54) (by kernel_rfl) r8within_ok sp_r4all3_ok
def r8is_l0 (x : ((List I3) × ((List I2) × ((List I3) × (List I9))))) : LoopD := ⟨[],⟨pvs 120 0 [(1,.v (.one (.ptr 0 0))),(3,.v (.one (.i .i64)))],[.cells [.full 1,.full 2,.full 3,.full 4] 26,.row yy3 0,.row yy2 0,.row yy3 0,.row yy9 0],0,none,[],[1,2,3,4],[0],[.i],[.l yy3 x.1,.l yy2 x.2.1,.l yy3 x.2.2.1,.l yy9 x.2.2.2]⟩,[⟨.ret,.ret,⟨pvs 120 0 [(2,.v (.one (.b)))],[],0,none,[],[0],[],[],[.b false]⟩⟩,⟨(.exit 0),.normal,⟨pvs 120 0 [],[],0,none,[],[],[],[],[]⟩⟩]⟩
def r8is_l0_step (x : ((List I3) × ((List I2) × ((List I3) × (List I9))))) (s:Int) : Int ⊕ (Unit ⊕ Unit) :=
 (if (s < (x.2.2.2.length:Int)) then
 (letV (r8within ((List.getD x.2.2.2 (Int.toNat s) (((0:Int),((0:Int),(0:Int))),(((0:Int),((0:Int),(0:Int))),((0:Int),((0:Int),(0:Int)))))).1.1,((0:Int),(w64 ((x.1.length:Int) - (1:Int)))))) fun y =>
 (if ((!y) = true) then
 (Sum.inr (Sum.inl ())) else
 (letV (r8within ((List.getD x.2.2.2 (Int.toNat s) (((0:Int),((0:Int),(0:Int))),(((0:Int),((0:Int),(0:Int))),((0:Int),((0:Int),(0:Int)))))).1.2.1,((-1:Int),(w64 ((x.2.1.length:Int) - (1:Int)))))) fun y_1 =>
 (if ((!y_1) = true) then
 (Sum.inr (Sum.inl ())) else
 (letV (r8within ((List.getD x.2.2.2 (Int.toNat s) (((0:Int),((0:Int),(0:Int))),(((0:Int),((0:Int),(0:Int))),((0:Int),((0:Int),(0:Int)))))).1.2.2,((-1:Int),(w64 ((x.2.2.1.length:Int) - (1:Int)))))) fun y_2 =>
 (if ((!y_2) = true) then
 (Sum.inr (Sum.inl ())) else
 (if ((!((decide ((List.getD x.2.2.2 (Int.toNat s) (((0:Int),((0:Int),(0:Int))),(((0:Int),((0:Int),(0:Int))),((0:Int),((0:Int),(0:Int)))))).1.2.1 < (0:Int))) == (decide ((List.getD x.2.2.2 (Int.toNat s) (((0:Int),((0:Int),(0:Int))),(((0:Int),((0:Int),(0:Int))),((0:Int),((0:Int),(0:Int)))))).1.2.1 < (0:Int))))) = true) then
 (Sum.inr (Sum.inl ())) else
 (if ((!((decide ((List.getD x.2.2.2 (Int.toNat s) (((0:Int),((0:Int),(0:Int))),(((0:Int),((0:Int),(0:Int))),((0:Int),((0:Int),(0:Int)))))).1.2.2 < (0:Int))) == (decide ((List.getD x.2.2.2 (Int.toNat s) (((0:Int),((0:Int),(0:Int))),(((0:Int),((0:Int),(0:Int))),((0:Int),((0:Int),(0:Int)))))).1.2.2 < (0:Int))))) = true) then
 (Sum.inr (Sum.inl ())) else
 (letV (r8within ((List.getD x.2.2.2 (Int.toNat s) (((0:Int),((0:Int),(0:Int))),(((0:Int),((0:Int),(0:Int))),((0:Int),((0:Int),(0:Int)))))).2.1.1,((0:Int),(w64 ((x.1.length:Int) - (1:Int)))))) fun y_3 =>
 (if ((!y_3) = true) then
 (Sum.inr (Sum.inl ())) else
 (letV (r8within ((List.getD x.2.2.2 (Int.toNat s) (((0:Int),((0:Int),(0:Int))),(((0:Int),((0:Int),(0:Int))),((0:Int),((0:Int),(0:Int)))))).2.1.2.1,((-1:Int),(w64 ((x.2.1.length:Int) - (1:Int)))))) fun y_4 =>
 (if ((!y_4) = true) then
 (Sum.inr (Sum.inl ())) else
 (letV (r8within ((List.getD x.2.2.2 (Int.toNat s) (((0:Int),((0:Int),(0:Int))),(((0:Int),((0:Int),(0:Int))),((0:Int),((0:Int),(0:Int)))))).2.1.2.2,((-1:Int),(w64 ((x.2.2.1.length:Int) - (1:Int)))))) fun y_5 =>
 (if ((!y_5) = true) then
 (Sum.inr (Sum.inl ())) else
 (if ((!((decide ((List.getD x.2.2.2 (Int.toNat s) (((0:Int),((0:Int),(0:Int))),(((0:Int),((0:Int),(0:Int))),((0:Int),((0:Int),(0:Int)))))).2.1.2.1 < (0:Int))) == (decide ((List.getD x.2.2.2 (Int.toNat s) (((0:Int),((0:Int),(0:Int))),(((0:Int),((0:Int),(0:Int))),((0:Int),((0:Int),(0:Int)))))).1.2.1 < (0:Int))))) = true) then
 (Sum.inr (Sum.inl ())) else
 (if ((!((decide ((List.getD x.2.2.2 (Int.toNat s) (((0:Int),((0:Int),(0:Int))),(((0:Int),((0:Int),(0:Int))),((0:Int),((0:Int),(0:Int)))))).2.1.2.2 < (0:Int))) == (decide ((List.getD x.2.2.2 (Int.toNat s) (((0:Int),((0:Int),(0:Int))),(((0:Int),((0:Int),(0:Int))),((0:Int),((0:Int),(0:Int)))))).1.2.2 < (0:Int))))) = true) then
 (Sum.inr (Sum.inl ())) else
 (letV (r8within ((List.getD x.2.2.2 (Int.toNat s) (((0:Int),((0:Int),(0:Int))),(((0:Int),((0:Int),(0:Int))),((0:Int),((0:Int),(0:Int)))))).2.2.1,((0:Int),(w64 ((x.1.length:Int) - (1:Int)))))) fun y_6 =>
 (if ((!y_6) = true) then
 (Sum.inr (Sum.inl ())) else
 (letV (r8within ((List.getD x.2.2.2 (Int.toNat s) (((0:Int),((0:Int),(0:Int))),(((0:Int),((0:Int),(0:Int))),((0:Int),((0:Int),(0:Int)))))).2.2.2.1,((-1:Int),(w64 ((x.2.1.length:Int) - (1:Int)))))) fun y_7 =>
 (if ((!y_7) = true) then
 (Sum.inr (Sum.inl ())) else
 (letV (r8within ((List.getD x.2.2.2 (Int.toNat s) (((0:Int),((0:Int),(0:Int))),(((0:Int),((0:Int),(0:Int))),((0:Int),((0:Int),(0:Int)))))).2.2.2.2,((-1:Int),(w64 ((x.2.2.1.length:Int) - (1:Int)))))) fun y_8 =>
 (if ((!y_8) = true) then
 (Sum.inr (Sum.inl ())) else
 (if ((!((decide ((List.getD x.2.2.2 (Int.toNat s) (((0:Int),((0:Int),(0:Int))),(((0:Int),((0:Int),(0:Int))),((0:Int),((0:Int),(0:Int)))))).2.2.2.1 < (0:Int))) == (decide ((List.getD x.2.2.2 (Int.toNat s) (((0:Int),((0:Int),(0:Int))),(((0:Int),((0:Int),(0:Int))),((0:Int),((0:Int),(0:Int)))))).1.2.1 < (0:Int))))) = true) then
 (Sum.inr (Sum.inl ())) else
 (if ((!((decide ((List.getD x.2.2.2 (Int.toNat s) (((0:Int),((0:Int),(0:Int))),(((0:Int),((0:Int),(0:Int))),((0:Int),((0:Int),(0:Int)))))).2.2.2.2 < (0:Int))) == (decide ((List.getD x.2.2.2 (Int.toNat s) (((0:Int),((0:Int),(0:Int))),(((0:Int),((0:Int),(0:Int))),((0:Int),((0:Int),(0:Int)))))).1.2.2 < (0:Int))))) = true) then
 (Sum.inr (Sum.inl ())) else
 (Sum.inl (w64 (s + (1:Int)))))))))))))))))))))))))))) else
 (Sum.inr (Sum.inr (()))))
def r8is_l0_pre (x : ((List I3) × ((List I2) × ((List I3) × (List I9))))) (s:Int) : Prop :=
 ((s < (x.2.2.2.length:Int)) →
 ((((0:Int) ≤ s) ∧ (s < (x.2.2.2.length:Int))) ∧
 (((Int.toNat s) < (List.length x.2.2.2)) ∧
 ((Int.toNat s) < (List.length x.2.2.2)))))
def r8is_l0_t (x : ((List I3) × ((List I2) × ((List I3) × (List I9))))) (s:Int) : Tr (Int ⊕ (Unit ⊕ Unit)) true :=
 (.i10 (s < (nL x.2.2.2))
 (.oI2 s x.2.2.2
 (.fn0 r8within_S ((gT x.2.2.2 s zz9).1.1,(z0,(wm (nL x.1)))) trivial fun y =>
 (.b00 (!y)
 (.ret (.inr (Sum.inl ())))
 (.fn0 r8within_S ((gT x.2.2.2 s zz9).1.2.1,((-1:Int),(wm (nL x.2.1)))) trivial fun y_1 =>
 (.b00 (!y_1)
 (.ret (.inr (Sum.inl ())))
 (.fn0 r8within_S ((gT x.2.2.2 s zz9).1.2.2,((-1:Int),(wm (nL x.2.2.1)))) trivial fun y_2 =>
 (.b00 (!y_2)
 (.ret (.inr (Sum.inl ())))
 (.b00 (!((decide ((gT x.2.2.2 s zz9).1.2.1 < z0)) == (decide ((gT x.2.2.2 s zz9).1.2.1 < z0))))
 (.ret (.inr (Sum.inl ())))
 (.b00 (!((decide ((gT x.2.2.2 s zz9).1.2.2 < z0)) == (decide ((gT x.2.2.2 s zz9).1.2.2 < z0))))
 (.ret (.inr (Sum.inl ())))
 (.fn0 r8within_S ((gT x.2.2.2 s zz9).2.1.1,(z0,(wm (nL x.1)))) trivial fun y_3 =>
 (.b00 (!y_3)
 (.ret (.inr (Sum.inl ())))
 (.fn0 r8within_S ((gT x.2.2.2 s zz9).2.1.2.1,((-1:Int),(wm (nL x.2.1)))) trivial fun y_4 =>
 (.b00 (!y_4)
 (.ret (.inr (Sum.inl ())))
 (.fn0 r8within_S ((gT x.2.2.2 s zz9).2.1.2.2,((-1:Int),(wm (nL x.2.2.1)))) trivial fun y_5 =>
 (.b00 (!y_5)
 (.ret (.inr (Sum.inl ())))
 (.b00 (!((decide ((gT x.2.2.2 s zz9).2.1.2.1 < z0)) == (decide ((gT x.2.2.2 s zz9).1.2.1 < z0))))
 (.ret (.inr (Sum.inl ())))
 (.b00 (!((decide ((gT x.2.2.2 s zz9).2.1.2.2 < z0)) == (decide ((gT x.2.2.2 s zz9).1.2.2 < z0))))
 (.ret (.inr (Sum.inl ())))
 (.fn0 r8within_S ((gT x.2.2.2 s zz9).2.2.1,(z0,(wm (nL x.1)))) trivial fun y_6 =>
 (.b00 (!y_6)
 (.ret (.inr (Sum.inl ())))
 (.fn0 r8within_S ((gT x.2.2.2 s zz9).2.2.2.1,((-1:Int),(wm (nL x.2.1)))) trivial fun y_7 =>
 (.b00 (!y_7)
 (.ret (.inr (Sum.inl ())))
 (.fn0 r8within_S ((gT x.2.2.2 s zz9).2.2.2.2,((-1:Int),(wm (nL x.2.2.1)))) trivial fun y_8 =>
 (.b00 (!y_8)
 (.ret (.inr (Sum.inl ())))
 (.b00 (!((decide ((gT x.2.2.2 s zz9).2.2.2.1 < z0)) == (decide ((gT x.2.2.2 s zz9).1.2.1 < z0))))
 (.ret (.inr (Sum.inl ())))
 (.b00 (!((decide ((gT x.2.2.2 s zz9).2.2.2.2 < z0)) == (decide ((gT x.2.2.2 s zz9).1.2.2 < z0))))
 (.ret (.inr (Sum.inl ())))
 (.ret (.inl (w1 s))))))))))))))))))))))))))))
 (.ret (.inr (Sum.inr (())))))
def r8is (x : ((List I3) × ((List I2) × ((List I3) × (List I9))))) : Bool :=
 (if ((x.1.length:Int) > (2000:Int)) then
 false else
 (if ((x.2.1.length:Int) > (2000:Int)) then
 false else
 (if ((x.2.2.1.length:Int) > (2000:Int)) then
 false else
 (if ((x.2.2.2.length:Int) > (500:Int)) then
 false else
 (letV (r4all3 x.1) fun y =>
 (if ((!y) = true) then
 false else
 (letV (r4all2 x.2.1) fun y_1 =>
 (if ((!y_1) = true) then
 false else
 (letV (r4all3 x.2.2.1) fun y_2 =>
 (if ((!y_2) = true) then
 false else
 (letV (run (r8is_l0_step x) (0:Int)) fun r =>
 (Sum.elim (fun a =>
 false) (fun b =>
 true) r))))))))))))
def r8is_pre (x : ((List I3) × ((List I2) × ((List I3) × (List I9))))) : Prop :=
 (¬ ((x.1.length:Int) > (2000:Int)) →
 (¬ ((x.2.1.length:Int) > (2000:Int)) →
 (¬ ((x.2.2.1.length:Int) > (2000:Int)) →
 (¬ ((x.2.2.2.length:Int) > (500:Int)) →
 ((r4all3_pre x.1) ∧
 letP (r4all3 x.1) fun y =>
 (¬ ((!y) = true) →
 ((r4all2_pre x.2.1) ∧
 letP (r4all2 x.2.1) fun y_1 =>
 (¬ ((!y_1) = true) →
 ((r4all3_pre x.2.2.1) ∧
 letP (r4all3 x.2.2.1) fun y_2 =>
 (¬ ((!y_2) = true) →
 (Term (r8is_l0_step x) (r8is_l0_pre x) (0:Int))))))))))))
def r8is_t (x : ((List I3) × ((List I2) × ((List I3) × (List I9))))) : Tr Bool true :=
 (.i01 ((nL x.1) > (2000:Int))
 (.ret false)
 (.i01 ((nL x.2.1) > (2000:Int))
 (.ret false)
 (.i01 ((nL x.2.2.1) > (2000:Int))
 (.ret false)
 (.i01 ((nL x.2.2.2) > (500:Int))
 (.ret false)
 (.fn r4all3_S x.1 fun y =>
 (.b01 (!y)
 (.ret false)
 (.fn r4all2_S x.2.1 fun y_1 =>
 (.b01 (!y_1)
 (.ret false)
 (.fn r4all3_S x.2.2.1 fun y_2 =>
 (.b01 (!y_2)
 (.ret false)
 (LoopD.lp (r8is_l0 x) (r8is_l0_t x) z0 fun r =>
 (.s00 r (fun a =>
 (.ret false)) (fun b =>
 (.ret true))))))))))))))
abbrev r8is_S : FnS := ⟨(.agg (Ty.prod (Ty.sl yy3) (Ty.prod (Ty.sl yy2) (Ty.prod (Ty.sl yy3) (Ty.sl yy9))))),(.one Ty.bool),r8is_pre,r8is⟩
theorem r8is_ok : SpecOk Try.prog 35 (fnSpec r8is_S) := SpecOk.tr r8is_S r8is_t (fn := Try.f35) tt_ok sp_r8within_ok mixed (by kernel_rfl) (ItsOk.nil _ _) (fun x => (LpsOk.tr tt_ok (SpecsOk.ctxI sp_r8within_ok (ItsOk.nil _ _)) mixed 0 (r8is_l0 x) (r8is_l0_t x) (LpsOk.unrollT tt_ok (SpecsOk.ctxI sp_r8within_ok (ItsOk.nil _ _)) mixed 2 4 LpsOk.nil (by kernel_rfl)) (by kernel_rfl) fun g s Q => (by kernel_rfl))) (fun x => (by kernel_rfl)) fun x Q => (by kernel_rfl)
def sp_r8is : List (Nat × Ev.Spec) := (35,fnSpec r8is_S) :: sp_r8within
theorem sp_r8is_ok : SpecsOk Try.prog sp_r8is := SpecsOk.add (fn := Try.f35) (by kernel_rfl) r8is_ok sp_r8within_ok
def r14has_l0 (x : (I9 × I2)) : LoopD := ⟨[],⟨pvs 47 0 [(1,.v (.one (.i .i64))),(2,.v (.one (.i .i64))),(3,.v (.one (.ptr 0 0))),(7,.v (.one (.i .i64)))],[.cells [.i .i64,.i .i64,.i .i64,.i .i64,.i .i64,.i .i64,.i .i64,.i .i64,.i .i64] 51],0,none,[],[0,1,3,4,5,6,7,8,9,10,11],[2],[.i],[.i x.2.1,.i x.2.2,.i x.1.1.1,.i x.1.1.2.1,.i x.1.1.2.2,.i x.1.2.1.1,.i x.1.2.1.2.1,.i x.1.2.1.2.2,.i x.1.2.2.1,.i x.1.2.2.2.1,.i x.1.2.2.2.2]⟩,[⟨.ret,.ret,⟨pvs 47 0 [(6,.v (.one (.b)))],[],0,none,[],[0],[],[],[.b true]⟩⟩,⟨(.exit 0),.normal,⟨pvs 47 0 [],[],0,none,[],[],[],[],[]⟩⟩]⟩
def r14has_l0_step (x : (I9 × I2)) (s:Int) : Int ⊕ (Unit ⊕ Unit) :=
 (if (s < (3:Int)) then
 (if (((List.getD [x.1.1.1,x.1.1.2.1,x.1.1.2.2,x.1.2.1.1,x.1.2.1.2.1,x.1.2.1.2.2,x.1.2.2.1,x.1.2.2.2.1,x.1.2.2.2.2] ((0 + ((Int.toNat s) * 3)) + 0) (0:Int)) != (List.getD [x.1.1.1,x.1.1.2.1,x.1.1.2.2,x.1.2.1.1,x.1.2.1.2.1,x.1.2.1.2.2,x.1.2.2.1,x.1.2.2.2.1,x.1.2.2.2.2] ((0 + ((Int.toNat (Int.tmod (w64 (s + (1:Int))) (3:Int))) * 3)) + 0) (0:Int))) = true) then
 (if (((List.getD [x.1.1.1,x.1.1.2.1,x.1.1.2.2,x.1.2.1.1,x.1.2.1.2.1,x.1.2.1.2.2,x.1.2.2.1,x.1.2.2.2.1,x.1.2.2.2.2] ((0 + ((Int.toNat s) * 3)) + 0) (0:Int)) == x.2.1) = true) then
 (if (((List.getD [x.1.1.1,x.1.1.2.1,x.1.1.2.2,x.1.2.1.1,x.1.2.1.2.1,x.1.2.1.2.2,x.1.2.2.1,x.1.2.2.2.1,x.1.2.2.2.2] ((0 + ((Int.toNat (Int.tmod (w64 (s + (1:Int))) (3:Int))) * 3)) + 0) (0:Int)) == x.2.2) = true) then
 (Sum.inr (Sum.inl ())) else
 (if (((List.getD [x.1.1.1,x.1.1.2.1,x.1.1.2.2,x.1.2.1.1,x.1.2.1.2.1,x.1.2.1.2.2,x.1.2.2.1,x.1.2.2.2.1,x.1.2.2.2.2] ((0 + ((Int.toNat s) * 3)) + 0) (0:Int)) == x.2.2) = true) then
 (if (((List.getD [x.1.1.1,x.1.1.2.1,x.1.1.2.2,x.1.2.1.1,x.1.2.1.2.1,x.1.2.1.2.2,x.1.2.2.1,x.1.2.2.2.1,x.1.2.2.2.2] ((0 + ((Int.toNat (Int.tmod (w64 (s + (1:Int))) (3:Int))) * 3)) + 0) (0:Int)) == x.2.1) = true) then
 (Sum.inr (Sum.inl ())) else
 (Sum.inl (w64 (s + (1:Int))))) else
 (Sum.inl (w64 (s + (1:Int)))))) else
 (if (((List.getD [x.1.1.1,x.1.1.2.1,x.1.1.2.2,x.1.2.1.1,x.1.2.1.2.1,x.1.2.1.2.2,x.1.2.2.1,x.1.2.2.2.1,x.1.2.2.2.2] ((0 + ((Int.toNat s) * 3)) + 0) (0:Int)) == x.2.2) = true) then
 (if (((List.getD [x.1.1.1,x.1.1.2.1,x.1.1.2.2,x.1.2.1.1,x.1.2.1.2.1,x.1.2.1.2.2,x.1.2.2.1,x.1.2.2.2.1,x.1.2.2.2.2] ((0 + ((Int.toNat (Int.tmod (w64 (s + (1:Int))) (3:Int))) * 3)) + 0) (0:Int)) == x.2.1) = true) then
 (Sum.inr (Sum.inl ())) else
 (Sum.inl (w64 (s + (1:Int))))) else
 (Sum.inl (w64 (s + (1:Int)))))) else
 (Sum.inl (w64 (s + (1:Int))))) else
 (Sum.inr (Sum.inr (()))))
def r14has_l0_pre (x : (I9 × I2)) (s:Int) : Prop :=
 ((s < (3:Int)) →
 ((((0:Int) ≤ s) ∧ (s < (3:Int))) ∧
 (((((0 + ((Int.toNat s) * 3)) + 0) + 1) ≤ 9) ∧
 ((((0:Int) ≤ (Int.tmod (w64 (s + (1:Int))) (3:Int))) ∧ ((Int.tmod (w64 (s + (1:Int))) (3:Int)) < (3:Int))) ∧
 ((((0 + ((Int.toNat (Int.tmod (w64 (s + (1:Int))) (3:Int))) * 3)) + 0) + 1) ≤ 9)))))
def r14has_l0_t (x : (I9 × I2)) (s:Int) : Tr (Int ⊕ (Unit ⊕ Unit)) true :=
 (.i10 (s < (3:Int))
 (.oR s (3:Int)
 (.od ((((0 + ((tN s) * 3)) + 0) + 1) ≤ 9)
 (.oR (Int.tmod (w1 s) (3:Int)) (3:Int)
 (.od ((((0 + ((tN (Int.tmod (w1 s) (3:Int))) * 3)) + 0) + 1) ≤ 9)
 (.b00 ((List.getD [x.1.1.1,x.1.1.2.1,x.1.1.2.2,x.1.2.1.1,x.1.2.1.2.1,x.1.2.1.2.2,x.1.2.2.1,x.1.2.2.2.1,x.1.2.2.2.2] ((0 + ((tN s) * 3)) + 0) z0) != (List.getD [x.1.1.1,x.1.1.2.1,x.1.1.2.2,x.1.2.1.1,x.1.2.1.2.1,x.1.2.1.2.2,x.1.2.2.1,x.1.2.2.2.1,x.1.2.2.2.2] ((0 + ((tN (Int.tmod (w1 s) (3:Int))) * 3)) + 0) z0))
 (.b00 ((List.getD [x.1.1.1,x.1.1.2.1,x.1.1.2.2,x.1.2.1.1,x.1.2.1.2.1,x.1.2.1.2.2,x.1.2.2.1,x.1.2.2.2.1,x.1.2.2.2.2] ((0 + ((tN s) * 3)) + 0) z0) == x.2.1)
 (.b00 ((List.getD [x.1.1.1,x.1.1.2.1,x.1.1.2.2,x.1.2.1.1,x.1.2.1.2.1,x.1.2.1.2.2,x.1.2.2.1,x.1.2.2.2.1,x.1.2.2.2.2] ((0 + ((tN (Int.tmod (w1 s) (3:Int))) * 3)) + 0) z0) == x.2.2)
 (.ret (.inr (Sum.inl ())))
 (.b00 ((List.getD [x.1.1.1,x.1.1.2.1,x.1.1.2.2,x.1.2.1.1,x.1.2.1.2.1,x.1.2.1.2.2,x.1.2.2.1,x.1.2.2.2.1,x.1.2.2.2.2] ((0 + ((tN s) * 3)) + 0) z0) == x.2.2)
 (.b00 ((List.getD [x.1.1.1,x.1.1.2.1,x.1.1.2.2,x.1.2.1.1,x.1.2.1.2.1,x.1.2.1.2.2,x.1.2.2.1,x.1.2.2.2.1,x.1.2.2.2.2] ((0 + ((tN (Int.tmod (w1 s) (3:Int))) * 3)) + 0) z0) == x.2.1)
 (.ret (.inr (Sum.inl ())))
 (.ret (.inl (w1 s))))
 (.ret (.inl (w1 s)))))
 (.b00 ((List.getD [x.1.1.1,x.1.1.2.1,x.1.1.2.2,x.1.2.1.1,x.1.2.1.2.1,x.1.2.1.2.2,x.1.2.2.1,x.1.2.2.2.1,x.1.2.2.2.2] ((0 + ((tN s) * 3)) + 0) z0) == x.2.2)
 (.b00 ((List.getD [x.1.1.1,x.1.1.2.1,x.1.1.2.2,x.1.2.1.1,x.1.2.1.2.1,x.1.2.1.2.2,x.1.2.2.1,x.1.2.2.2.1,x.1.2.2.2.2] ((0 + ((tN (Int.tmod (w1 s) (3:Int))) * 3)) + 0) z0) == x.2.1)
 (.ret (.inr (Sum.inl ())))
 (.ret (.inl (w1 s))))
 (.ret (.inl (w1 s)))))
 (.ret (.inl (w1 s))))))))
 (.ret (.inr (Sum.inr (())))))
def r14has (x : (I9 × I2)) : Bool :=
 (letV (run (r14has_l0_step x) (0:Int)) fun r =>
 (Sum.elim (fun a =>
 true) (fun b =>
 false) r))
def r14has_pre (x : (I9 × I2)) : Prop :=
 (Term (r14has_l0_step x) (r14has_l0_pre x) (0:Int))
def r14has_t (x : (I9 × I2)) : Tr Bool true :=
 (LoopD.lp (r14has_l0 x) (r14has_l0_t x) z0 fun r =>
 (.s00 r (fun a =>
 (.ret true)) (fun b =>
 (.ret false))))
abbrev r14has_S : FnS := ⟨(.pair (.agg yy9) (.pair (.one yi) (.one yi))),(.one Ty.bool),r14has_pre,r14has⟩
theorem r14has_ok : SpecOk Try.prog 36 (fnSpec r14has_S) := SpecOk.tr r14has_S r14has_t (fn := Try.f36) tt_ok sp_r8is_ok mixed (by kernel_rfl) (ItsOk.nil _ _) (fun x => (LpsOk.tr tt_ok (SpecsOk.ctxI sp_r8is_ok (ItsOk.nil _ _)) mixed 0 (r14has_l0 x) (r14has_l0_t x) LpsOk.nil (by kernel_rfl) fun g s Q => (by kernel_rfl))) (fun x => (by kernel_rfl)) fun x Q => (by kernel_rfl)
def sp_r14has : List (Nat × Ev.Spec) := (36,fnSpec r14has_S) :: sp_r8is
theorem sp_r14has_ok : SpecsOk Try.prog sp_r14has := SpecsOk.add (fn := Try.f36) (by kernel_rfl) r14has_ok sp_r8is_ok
def r14nx_l0 (x : (((List I3) × ((List I2) × ((List I3) × (List I9)))) × I2)) : LoopD := ⟨[],⟨pvs 50 0 [(2,.v (.one (.i .i64))),(3,.v (.one (.ptr 0 0))),(7,.v (.one (.ptr 5 0))),(8,.v (.one (.i .i64)))],[.cells [.full 1,.full 2,.full 3,.full 4] 26,.row yy3 0,.row yy2 0,.row yy3 0,.row yy9 0,.cells [.i .i64,.i .i64,.i .i64,.i .i64,.i .i64,.i .i64,.i .i64,.i .i64,.i .i64] 51],0,none,[],[0,2,3,4,5,6,7,8,9,10,11,12,13,14],[1],[.i],[.i x.2.2,.l yy3 x.1.1,.l yy2 x.1.2.1,.l yy3 x.1.2.2.1,.l yy9 x.1.2.2.2,.i (List.getD x.1.2.2.2 (Int.toNat x.2.1) (((0:Int),((0:Int),(0:Int))),(((0:Int),((0:Int),(0:Int))),((0:Int),((0:Int),(0:Int)))))).1.1,.i (List.getD x.1.2.2.2 (Int.toNat x.2.1) (((0:Int),((0:Int),(0:Int))),(((0:Int),((0:Int),(0:Int))),((0:Int),((0:Int),(0:Int)))))).1.2.1,.i (List.getD x.1.2.2.2 (Int.toNat x.2.1) (((0:Int),((0:Int),(0:Int))),(((0:Int),((0:Int),(0:Int))),((0:Int),((0:Int),(0:Int)))))).1.2.2,.i (List.getD x.1.2.2.2 (Int.toNat x.2.1) (((0:Int),((0:Int),(0:Int))),(((0:Int),((0:Int),(0:Int))),((0:Int),((0:Int),(0:Int)))))).2.1.1,.i (List.getD x.1.2.2.2 (Int.toNat x.2.1) (((0:Int),((0:Int),(0:Int))),(((0:Int),((0:Int),(0:Int))),((0:Int),((0:Int),(0:Int)))))).2.1.2.1,.i (List.getD x.1.2.2.2 (Int.toNat x.2.1) (((0:Int),((0:Int),(0:Int))),(((0:Int),((0:Int),(0:Int))),((0:Int),((0:Int),(0:Int)))))).2.1.2.2,.i (List.getD x.1.2.2.2 (Int.toNat x.2.1) (((0:Int),((0:Int),(0:Int))),(((0:Int),((0:Int),(0:Int))),((0:Int),((0:Int),(0:Int)))))).2.2.1,.i (List.getD x.1.2.2.2 (Int.toNat x.2.1) (((0:Int),((0:Int),(0:Int))),(((0:Int),((0:Int),(0:Int))),((0:Int),((0:Int),(0:Int)))))).2.2.2.1,.i (List.getD x.1.2.2.2 (Int.toNat x.2.1) (((0:Int),((0:Int),(0:Int))),(((0:Int),((0:Int),(0:Int))),((0:Int),((0:Int),(0:Int)))))).2.2.2.2]⟩,[⟨.ret,.ret,⟨pvs 50 0 [(6,.v (.one (.b)))],[],0,none,[],[0],[],[],[.b true]⟩⟩,⟨(.exit 0),.normal,⟨pvs 50 0 [],[],0,none,[],[],[],[],[]⟩⟩]⟩
def r14nx_l0_step (x : (((List I3) × ((List I2) × ((List I3) × (List I9)))) × I2)) (s:Int) : Int ⊕ (Unit ⊕ Unit) :=
 (if (s < (3:Int)) then
 (if (((List.getD [(List.getD x.1.2.2.2 (Int.toNat x.2.1) (((0:Int),((0:Int),(0:Int))),(((0:Int),((0:Int),(0:Int))),((0:Int),((0:Int),(0:Int)))))).1.1,(List.getD x.1.2.2.2 (Int.toNat x.2.1) (((0:Int),((0:Int),(0:Int))),(((0:Int),((0:Int),(0:Int))),((0:Int),((0:Int),(0:Int)))))).1.2.1,(List.getD x.1.2.2.2 (Int.toNat x.2.1) (((0:Int),((0:Int),(0:Int))),(((0:Int),((0:Int),(0:Int))),((0:Int),((0:Int),(0:Int)))))).1.2.2,(List.getD x.1.2.2.2 (Int.toNat x.2.1) (((0:Int),((0:Int),(0:Int))),(((0:Int),((0:Int),(0:Int))),((0:Int),((0:Int),(0:Int)))))).2.1.1,(List.getD x.1.2.2.2 (Int.toNat x.2.1) (((0:Int),((0:Int),(0:Int))),(((0:Int),((0:Int),(0:Int))),((0:Int),((0:Int),(0:Int)))))).2.1.2.1,(List.getD x.1.2.2.2 (Int.toNat x.2.1) (((0:Int),((0:Int),(0:Int))),(((0:Int),((0:Int),(0:Int))),((0:Int),((0:Int),(0:Int)))))).2.1.2.2,(List.getD x.1.2.2.2 (Int.toNat x.2.1) (((0:Int),((0:Int),(0:Int))),(((0:Int),((0:Int),(0:Int))),((0:Int),((0:Int),(0:Int)))))).2.2.1,(List.getD x.1.2.2.2 (Int.toNat x.2.1) (((0:Int),((0:Int),(0:Int))),(((0:Int),((0:Int),(0:Int))),((0:Int),((0:Int),(0:Int)))))).2.2.2.1,(List.getD x.1.2.2.2 (Int.toNat x.2.1) (((0:Int),((0:Int),(0:Int))),(((0:Int),((0:Int),(0:Int))),((0:Int),((0:Int),(0:Int)))))).2.2.2.2] ((0 + ((Int.toNat s) * 3)) + 0) (0:Int)) != (List.getD [(List.getD x.1.2.2.2 (Int.toNat x.2.1) (((0:Int),((0:Int),(0:Int))),(((0:Int),((0:Int),(0:Int))),((0:Int),((0:Int),(0:Int)))))).1.1,(List.getD x.1.2.2.2 (Int.toNat x.2.1) (((0:Int),((0:Int),(0:Int))),(((0:Int),((0:Int),(0:Int))),((0:Int),((0:Int),(0:Int)))))).1.2.1,(List.getD x.1.2.2.2 (Int.toNat x.2.1) (((0:Int),((0:Int),(0:Int))),(((0:Int),((0:Int),(0:Int))),((0:Int),((0:Int),(0:Int)))))).1.2.2,(List.getD x.1.2.2.2 (Int.toNat x.2.1) (((0:Int),((0:Int),(0:Int))),(((0:Int),((0:Int),(0:Int))),((0:Int),((0:Int),(0:Int)))))).2.1.1,(List.getD x.1.2.2.2 (Int.toNat x.2.1) (((0:Int),((0:Int),(0:Int))),(((0:Int),((0:Int),(0:Int))),((0:Int),((0:Int),(0:Int)))))).2.1.2.1,(List.getD x.1.2.2.2 (Int.toNat x.2.1) (((0:Int),((0:Int),(0:Int))),(((0:Int),((0:Int),(0:Int))),((0:Int),((0:Int),(0:Int)))))).2.1.2.2,(List.getD x.1.2.2.2 (Int.toNat x.2.1) (((0:Int),((0:Int),(0:Int))),(((0:Int),((0:Int),(0:Int))),((0:Int),((0:Int),(0:Int)))))).2.2.1,(List.getD x.1.2.2.2 (Int.toNat x.2.1) (((0:Int),((0:Int),(0:Int))),(((0:Int),((0:Int),(0:Int))),((0:Int),((0:Int),(0:Int)))))).2.2.2.1,(List.getD x.1.2.2.2 (Int.toNat x.2.1) (((0:Int),((0:Int),(0:Int))),(((0:Int),((0:Int),(0:Int))),((0:Int),((0:Int),(0:Int)))))).2.2.2.2] ((0 + ((Int.toNat (Int.tmod (w64 (s + (1:Int))) (3:Int))) * 3)) + 0) (0:Int))) = true) then
 (letV (r14has ((List.getD x.1.2.2.2 (Int.toNat x.2.2) (((0:Int),((0:Int),(0:Int))),(((0:Int),((0:Int),(0:Int))),((0:Int),((0:Int),(0:Int)))))),((List.getD [(List.getD x.1.2.2.2 (Int.toNat x.2.1) (((0:Int),((0:Int),(0:Int))),(((0:Int),((0:Int),(0:Int))),((0:Int),((0:Int),(0:Int)))))).1.1,(List.getD x.1.2.2.2 (Int.toNat x.2.1) (((0:Int),((0:Int),(0:Int))),(((0:Int),((0:Int),(0:Int))),((0:Int),((0:Int),(0:Int)))))).1.2.1,(List.getD x.1.2.2.2 (Int.toNat x.2.1) (((0:Int),((0:Int),(0:Int))),(((0:Int),((0:Int),(0:Int))),((0:Int),((0:Int),(0:Int)))))).1.2.2,(List.getD x.1.2.2.2 (Int.toNat x.2.1) (((0:Int),((0:Int),(0:Int))),(((0:Int),((0:Int),(0:Int))),((0:Int),((0:Int),(0:Int)))))).2.1.1,(List.getD x.1.2.2.2 (Int.toNat x.2.1) (((0:Int),((0:Int),(0:Int))),(((0:Int),((0:Int),(0:Int))),((0:Int),((0:Int),(0:Int)))))).2.1.2.1,(List.getD x.1.2.2.2 (Int.toNat x.2.1) (((0:Int),((0:Int),(0:Int))),(((0:Int),((0:Int),(0:Int))),((0:Int),((0:Int),(0:Int)))))).2.1.2.2,(List.getD x.1.2.2.2 (Int.toNat x.2.1) (((0:Int),((0:Int),(0:Int))),(((0:Int),((0:Int),(0:Int))),((0:Int),((0:Int),(0:Int)))))).2.2.1,(List.getD x.1.2.2.2 (Int.toNat x.2.1) (((0:Int),((0:Int),(0:Int))),(((0:Int),((0:Int),(0:Int))),((0:Int),((0:Int),(0:Int)))))).2.2.2.1,(List.getD x.1.2.2.2 (Int.toNat x.2.1) (((0:Int),((0:Int),(0:Int))),(((0:Int),((0:Int),(0:Int))),((0:Int),((0:Int),(0:Int)))))).2.2.2.2] ((0 + ((Int.toNat s) * 3)) + 0) (0:Int)),(List.getD [(List.getD x.1.2.2.2 (Int.toNat x.2.1) (((0:Int),((0:Int),(0:Int))),(((0:Int),((0:Int),(0:Int))),((0:Int),((0:Int),(0:Int)))))).1.1,(List.getD x.1.2.2.2 (Int.toNat x.2.1) (((0:Int),((0:Int),(0:Int))),(((0:Int),((0:Int),(0:Int))),((0:Int),((0:Int),(0:Int)))))).1.2.1,(List.getD x.1.2.2.2 (Int.toNat x.2.1) (((0:Int),((0:Int),(0:Int))),(((0:Int),((0:Int),(0:Int))),((0:Int),((0:Int),(0:Int)))))).1.2.2,(List.getD x.1.2.2.2 (Int.toNat x.2.1) (((0:Int),((0:Int),(0:Int))),(((0:Int),((0:Int),(0:Int))),((0:Int),((0:Int),(0:Int)))))).2.1.1,(List.getD x.1.2.2.2 (Int.toNat x.2.1) (((0:Int),((0:Int),(0:Int))),(((0:Int),((0:Int),(0:Int))),((0:Int),((0:Int),(0:Int)))))).2.1.2.1,(List.getD x.1.2.2.2 (Int.toNat x.2.1) (((0:Int),((0:Int),(0:Int))),(((0:Int),((0:Int),(0:Int))),((0:Int),((0:Int),(0:Int)))))).2.1.2.2,(List.getD x.1.2.2.2 (Int.toNat x.2.1) (((0:Int),((0:Int),(0:Int))),(((0:Int),((0:Int),(0:Int))),((0:Int),((0:Int),(0:Int)))))).2.2.1,(List.getD x.1.2.2.2 (Int.toNat x.2.1) (((0:Int),((0:Int),(0:Int))),(((0:Int),((0:Int),(0:Int))),((0:Int),((0:Int),(0:Int)))))).2.2.2.1,(List.getD x.1.2.2.2 (Int.toNat x.2.1) (((0:Int),((0:Int),(0:Int))),(((0:Int),((0:Int),(0:Int))),((0:Int),((0:Int),(0:Int)))))).2.2.2.2] ((0 + ((Int.toNat (Int.tmod (w64 (s + (1:Int))) (3:Int))) * 3)) + 0) (0:Int))))) fun y =>
 (if (y = true) then
 (Sum.inr (Sum.inl ())) else
 (Sum.inl (w64 (s + (1:Int)))))) else
 (Sum.inl (w64 (s + (1:Int))))) else
 (Sum.inr (Sum.inr (()))))
def r14nx_l0_pre (x : (((List I3) × ((List I2) × ((List I3) × (List I9)))) × I2)) (s:Int) : Prop :=
 ((s < (3:Int)) →
 ((((0:Int) ≤ s) ∧ (s < (3:Int))) ∧
 (((((0 + ((Int.toNat s) * 3)) + 0) + 1) ≤ 9) ∧
 ((((0:Int) ≤ (Int.tmod (w64 (s + (1:Int))) (3:Int))) ∧ ((Int.tmod (w64 (s + (1:Int))) (3:Int)) < (3:Int))) ∧
 (((((0 + ((Int.toNat (Int.tmod (w64 (s + (1:Int))) (3:Int))) * 3)) + 0) + 1) ≤ 9) ∧
 ((((List.getD [(List.getD x.1.2.2.2 (Int.toNat x.2.1) (((0:Int),((0:Int),(0:Int))),(((0:Int),((0:Int),(0:Int))),((0:Int),((0:Int),(0:Int)))))).1.1,(List.getD x.1.2.2.2 (Int.toNat x.2.1) (((0:Int),((0:Int),(0:Int))),(((0:Int),((0:Int),(0:Int))),((0:Int),((0:Int),(0:Int)))))).1.2.1,(List.getD x.1.2.2.2 (Int.toNat x.2.1) (((0:Int),((0:Int),(0:Int))),(((0:Int),((0:Int),(0:Int))),((0:Int),((0:Int),(0:Int)))))).1.2.2,(List.getD x.1.2.2.2 (Int.toNat x.2.1) (((0:Int),((0:Int),(0:Int))),(((0:Int),((0:Int),(0:Int))),((0:Int),((0:Int),(0:Int)))))).2.1.1,(List.getD x.1.2.2.2 (Int.toNat x.2.1) (((0:Int),((0:Int),(0:Int))),(((0:Int),((0:Int),(0:Int))),((0:Int),((0:Int),(0:Int)))))).2.1.2.1,(List.getD x.1.2.2.2 (Int.toNat x.2.1) (((0:Int),((0:Int),(0:Int))),(((0:Int),((0:Int),(0:Int))),((0:Int),((0:Int),(0:Int)))))).2.1.2.2,(List.getD x.1.2.2.2 (Int.toNat x.2.1) (((0:Int),((0:Int),(0:Int))),(((0:Int),((0:Int),(0:Int))),((0:Int),((0:Int),(0:Int)))))).2.2.1,(List.getD x.1.2.2.2 (Int.toNat x.2.1) (((0:Int),((0:Int),(0:Int))),(((0:Int),((0:Int),(0:Int))),((0:Int),((0:Int),(0:Int)))))).2.2.2.1,(List.getD x.1.2.2.2 (Int.toNat x.2.1) (((0:Int),((0:Int),(0:Int))),(((0:Int),((0:Int),(0:Int))),((0:Int),((0:Int),(0:Int)))))).2.2.2.2] ((0 + ((Int.toNat s) * 3)) + 0) (0:Int)) != (List.getD [(List.getD x.1.2.2.2 (Int.toNat x.2.1) (((0:Int),((0:Int),(0:Int))),(((0:Int),((0:Int),(0:Int))),((0:Int),((0:Int),(0:Int)))))).1.1,(List.getD x.1.2.2.2 (Int.toNat x.2.1) (((0:Int),((0:Int),(0:Int))),(((0:Int),((0:Int),(0:Int))),((0:Int),((0:Int),(0:Int)))))).1.2.1,(List.getD x.1.2.2.2 (Int.toNat x.2.1) (((0:Int),((0:Int),(0:Int))),(((0:Int),((0:Int),(0:Int))),((0:Int),((0:Int),(0:Int)))))).1.2.2,(List.getD x.1.2.2.2 (Int.toNat x.2.1) (((0:Int),((0:Int),(0:Int))),(((0:Int),((0:Int),(0:Int))),((0:Int),((0:Int),(0:Int)))))).2.1.1,(List.getD x.1.2.2.2 (Int.toNat x.2.1) (((0:Int),((0:Int),(0:Int))),(((0:Int),((0:Int),(0:Int))),((0:Int),((0:Int),(0:Int)))))).2.1.2.1,(List.getD x.1.2.2.2 (Int.toNat x.2.1) (((0:Int),((0:Int),(0:Int))),(((0:Int),((0:Int),(0:Int))),((0:Int),((0:Int),(0:Int)))))).2.1.2.2,(List.getD x.1.2.2.2 (Int.toNat x.2.1) (((0:Int),((0:Int),(0:Int))),(((0:Int),((0:Int),(0:Int))),((0:Int),((0:Int),(0:Int)))))).2.2.1,(List.getD x.1.2.2.2 (Int.toNat x.2.1) (((0:Int),((0:Int),(0:Int))),(((0:Int),((0:Int),(0:Int))),((0:Int),((0:Int),(0:Int)))))).2.2.2.1,(List.getD x.1.2.2.2 (Int.toNat x.2.1) (((0:Int),((0:Int),(0:Int))),(((0:Int),((0:Int),(0:Int))),((0:Int),((0:Int),(0:Int)))))).2.2.2.2] ((0 + ((Int.toNat (Int.tmod (w64 (s + (1:Int))) (3:Int))) * 3)) + 0) (0:Int))) = true) →
 ((((0:Int) ≤ x.2.2) ∧ (x.2.2 < (x.1.2.2.2.length:Int))) ∧
 (((Int.toNat x.2.2) < (List.length x.1.2.2.2)) ∧
 (((Int.toNat x.2.2) < (List.length x.1.2.2.2)) ∧
 ((((0:Int) ≤ s) ∧ (s < (3:Int))) ∧
 (((((0 + ((Int.toNat s) * 3)) + 0) + 1) ≤ 9) ∧
 ((((0:Int) ≤ (Int.tmod (w64 (s + (1:Int))) (3:Int))) ∧ ((Int.tmod (w64 (s + (1:Int))) (3:Int)) < (3:Int))) ∧
 (((((0 + ((Int.toNat (Int.tmod (w64 (s + (1:Int))) (3:Int))) * 3)) + 0) + 1) ≤ 9) ∧
 (r14has_pre ((List.getD x.1.2.2.2 (Int.toNat x.2.2) (((0:Int),((0:Int),(0:Int))),(((0:Int),((0:Int),(0:Int))),((0:Int),((0:Int),(0:Int)))))),((List.getD [(List.getD x.1.2.2.2 (Int.toNat x.2.1) (((0:Int),((0:Int),(0:Int))),(((0:Int),((0:Int),(0:Int))),((0:Int),((0:Int),(0:Int)))))).1.1,(List.getD x.1.2.2.2 (Int.toNat x.2.1) (((0:Int),((0:Int),(0:Int))),(((0:Int),((0:Int),(0:Int))),((0:Int),((0:Int),(0:Int)))))).1.2.1,(List.getD x.1.2.2.2 (Int.toNat x.2.1) (((0:Int),((0:Int),(0:Int))),(((0:Int),((0:Int),(0:Int))),((0:Int),((0:Int),(0:Int)))))).1.2.2,(List.getD x.1.2.2.2 (Int.toNat x.2.1) (((0:Int),((0:Int),(0:Int))),(((0:Int),((0:Int),(0:Int))),((0:Int),((0:Int),(0:Int)))))).2.1.1,(List.getD x.1.2.2.2 (Int.toNat x.2.1) (((0:Int),((0:Int),(0:Int))),(((0:Int),((0:Int),(0:Int))),((0:Int),((0:Int),(0:Int)))))).2.1.2.1,(List.getD x.1.2.2.2 (Int.toNat x.2.1) (((0:Int),((0:Int),(0:Int))),(((0:Int),((0:Int),(0:Int))),((0:Int),((0:Int),(0:Int)))))).2.1.2.2,(List.getD x.1.2.2.2 (Int.toNat x.2.1) (((0:Int),((0:Int),(0:Int))),(((0:Int),((0:Int),(0:Int))),((0:Int),((0:Int),(0:Int)))))).2.2.1,(List.getD x.1.2.2.2 (Int.toNat x.2.1) (((0:Int),((0:Int),(0:Int))),(((0:Int),((0:Int),(0:Int))),((0:Int),((0:Int),(0:Int)))))).2.2.2.1,(List.getD x.1.2.2.2 (Int.toNat x.2.1) (((0:Int),((0:Int),(0:Int))),(((0:Int),((0:Int),(0:Int))),((0:Int),((0:Int),(0:Int)))))).2.2.2.2] ((0 + ((Int.toNat s) * 3)) + 0) (0:Int)),(List.getD [(List.getD x.1.2.2.2 (Int.toNat x.2.1) (((0:Int),((0:Int),(0:Int))),(((0:Int),((0:Int),(0:Int))),((0:Int),((0:Int),(0:Int)))))).1.1,(List.getD x.1.2.2.2 (Int.toNat x.2.1) (((0:Int),((0:Int),(0:Int))),(((0:Int),((0:Int),(0:Int))),((0:Int),((0:Int),(0:Int)))))).1.2.1,(List.getD x.1.2.2.2 (Int.toNat x.2.1) (((0:Int),((0:Int),(0:Int))),(((0:Int),((0:Int),(0:Int))),((0:Int),((0:Int),(0:Int)))))).1.2.2,(List.getD x.1.2.2.2 (Int.toNat x.2.1) (((0:Int),((0:Int),(0:Int))),(((0:Int),((0:Int),(0:Int))),((0:Int),((0:Int),(0:Int)))))).2.1.1,(List.getD x.1.2.2.2 (Int.toNat x.2.1) (((0:Int),((0:Int),(0:Int))),(((0:Int),((0:Int),(0:Int))),((0:Int),((0:Int),(0:Int)))))).2.1.2.1,(List.getD x.1.2.2.2 (Int.toNat x.2.1) (((0:Int),((0:Int),(0:Int))),(((0:Int),((0:Int),(0:Int))),((0:Int),((0:Int),(0:Int)))))).2.1.2.2,(List.getD x.1.2.2.2 (Int.toNat x.2.1) (((0:Int),((0:Int),(0:Int))),(((0:Int),((0:Int),(0:Int))),((0:Int),((0:Int),(0:Int)))))).2.2.1,(List.getD x.1.2.2.2 (Int.toNat x.2.1) (((0:Int),((0:Int),(0:Int))),(((0:Int),((0:Int),(0:Int))),((0:Int),((0:Int),(0:Int)))))).2.2.2.1,(List.getD x.1.2.2.2 (Int.toNat x.2.1) (((0:Int),((0:Int),(0:Int))),(((0:Int),((0:Int),(0:Int))),((0:Int),((0:Int),(0:Int)))))).2.2.2.2] ((0 + ((Int.toNat (Int.tmod (w64 (s + (1:Int))) (3:Int))) * 3)) + 0) (0:Int))))))))))))))))))
def r14nx_l0_t (x : (((List I3) × ((List I2) × ((List I3) × (List I9)))) × I2)) (s:Int) : Tr (Int ⊕ (Unit ⊕ Unit)) true :=
 (.i10 (s < (3:Int))
 (.oR s (3:Int)
 (.od ((((0 + ((tN s) * 3)) + 0) + 1) ≤ 9)
 (.oR (Int.tmod (w1 s) (3:Int)) (3:Int)
 (.od ((((0 + ((tN (Int.tmod (w1 s) (3:Int))) * 3)) + 0) + 1) ≤ 9)
 (.b10 ((List.getD [(gT x.1.2.2.2 x.2.1 zz9).1.1,(gT x.1.2.2.2 x.2.1 zz9).1.2.1,(gT x.1.2.2.2 x.2.1 zz9).1.2.2,(gT x.1.2.2.2 x.2.1 zz9).2.1.1,(gT x.1.2.2.2 x.2.1 zz9).2.1.2.1,(gT x.1.2.2.2 x.2.1 zz9).2.1.2.2,(gT x.1.2.2.2 x.2.1 zz9).2.2.1,(gT x.1.2.2.2 x.2.1 zz9).2.2.2.1,(gT x.1.2.2.2 x.2.1 zz9).2.2.2.2] ((0 + ((tN s) * 3)) + 0) z0) != (List.getD [(gT x.1.2.2.2 x.2.1 zz9).1.1,(gT x.1.2.2.2 x.2.1 zz9).1.2.1,(gT x.1.2.2.2 x.2.1 zz9).1.2.2,(gT x.1.2.2.2 x.2.1 zz9).2.1.1,(gT x.1.2.2.2 x.2.1 zz9).2.1.2.1,(gT x.1.2.2.2 x.2.1 zz9).2.1.2.2,(gT x.1.2.2.2 x.2.1 zz9).2.2.1,(gT x.1.2.2.2 x.2.1 zz9).2.2.2.1,(gT x.1.2.2.2 x.2.1 zz9).2.2.2.2] ((0 + ((tN (Int.tmod (w1 s) (3:Int))) * 3)) + 0) z0))
 (.oI2 x.2.2 x.1.2.2.2
 (.oR s (3:Int)
 (.od ((((0 + ((tN s) * 3)) + 0) + 1) ≤ 9)
 (.oR (Int.tmod (w1 s) (3:Int)) (3:Int)
 (.od ((((0 + ((tN (Int.tmod (w1 s) (3:Int))) * 3)) + 0) + 1) ≤ 9)
 (.fn r14has_S ((gT x.1.2.2.2 x.2.2 zz9),((List.getD [(gT x.1.2.2.2 x.2.1 zz9).1.1,(gT x.1.2.2.2 x.2.1 zz9).1.2.1,(gT x.1.2.2.2 x.2.1 zz9).1.2.2,(gT x.1.2.2.2 x.2.1 zz9).2.1.1,(gT x.1.2.2.2 x.2.1 zz9).2.1.2.1,(gT x.1.2.2.2 x.2.1 zz9).2.1.2.2,(gT x.1.2.2.2 x.2.1 zz9).2.2.1,(gT x.1.2.2.2 x.2.1 zz9).2.2.2.1,(gT x.1.2.2.2 x.2.1 zz9).2.2.2.2] ((0 + ((tN s) * 3)) + 0) z0),(List.getD [(gT x.1.2.2.2 x.2.1 zz9).1.1,(gT x.1.2.2.2 x.2.1 zz9).1.2.1,(gT x.1.2.2.2 x.2.1 zz9).1.2.2,(gT x.1.2.2.2 x.2.1 zz9).2.1.1,(gT x.1.2.2.2 x.2.1 zz9).2.1.2.1,(gT x.1.2.2.2 x.2.1 zz9).2.1.2.2,(gT x.1.2.2.2 x.2.1 zz9).2.2.1,(gT x.1.2.2.2 x.2.1 zz9).2.2.2.1,(gT x.1.2.2.2 x.2.1 zz9).2.2.2.2] ((0 + ((tN (Int.tmod (w1 s) (3:Int))) * 3)) + 0) z0))) fun y =>
 (.b00 y
 (.ret (.inr (Sum.inl ())))
 (.ret (.inl (w1 s))))))))))
 (.ret (.inl (w1 s))))))))
 (.ret (.inr (Sum.inr (())))))
def r14nx (x : (((List I3) × ((List I2) × ((List I3) × (List I9)))) × I2)) : Bool :=
 (if ((x.2.1 == x.2.2) = true) then
 false else
 (letV (run (r14nx_l0_step x) (0:Int)) fun r =>
 (Sum.elim (fun a =>
 true) (fun b =>
 false) r)))
def r14nx_pre (x : (((List I3) × ((List I2) × ((List I3) × (List I9)))) × I2)) : Prop :=
 (¬ ((x.2.1 == x.2.2) = true) →
 ((((0:Int) ≤ x.2.1) ∧ (x.2.1 < (x.1.2.2.2.length:Int))) ∧
 (((Int.toNat x.2.1) < (List.length x.1.2.2.2)) ∧
 (((Int.toNat x.2.1) < (List.length x.1.2.2.2)) ∧
 (Term (r14nx_l0_step x) (r14nx_l0_pre x) (0:Int))))))
def r14nx_t (x : (((List I3) × ((List I2) × ((List I3) × (List I9)))) × I2)) : Tr Bool true :=
 (.b01 (x.2.1 == x.2.2)
 (.ret false)
 (.oI2 x.2.1 x.1.2.2.2
 (LoopD.lp (r14nx_l0 x) (r14nx_l0_t x) z0 fun r =>
 (.s00 r (fun a =>
 (.ret true)) (fun b =>
 (.ret false))))))
abbrev r14nx_S : FnS := ⟨(.pair (.agg (Ty.prod (Ty.sl yy3) (Ty.prod (Ty.sl yy2) (Ty.prod (Ty.sl yy3) (Ty.sl yy9))))) (.pair (.one yi) (.one yi))),(.one Ty.bool),r14nx_pre,r14nx⟩
theorem r14nx_ok : SpecOk Try.prog 38 (fnSpec r14nx_S) := SpecOk.tr r14nx_S r14nx_t (fn := Try.f38) tt_ok sp_r14has_ok mixed (by kernel_rfl) (ItsOk.nil _ _) (fun x => (LpsOk.tr tt_ok (SpecsOk.ctxI sp_r14has_ok (ItsOk.nil _ _)) mixed 0 (r14nx_l0 x) (r14nx_l0_t x) LpsOk.nil (by kernel_rfl) fun g s Q => (by kernel_rfl))) (fun x => (by kernel_rfl)) fun x Q => (by kernel_rfl)
def sp_r14nx : List (Nat × Ev.Spec) := (38,fnSpec r14nx_S) :: sp_r14has
theorem sp_r14nx_ok : SpecsOk Try.prog sp_r14nx := SpecsOk.add (fn := Try.f38) (by kernel_rfl) r14nx_ok sp_r14has_ok
def r14next_l0 (x : (((List I3) × ((List I2) × ((List I3) × (List I9)))) × Int)) : LoopD := ⟨[],⟨pvs 38 0 [(1,.v (.one (.i .i64))),(2,.v (.one (.ptr 0 0))),(6,.v (.one (.full 5))),(7,.v (.one (.i .i64)))],[.cells [.full 1,.full 2,.full 3,.full 4] 26,.row yy3 0,.row yy2 0,.row yy3 0,.row yy9 0,.row yi 2],0,none,[],[0,2,3,4,5],[6,1],[(.l yi),.i],[.i x.2,.l yy3 x.1.1,.l yy2 x.1.2.1,.l yy3 x.1.2.2.1,.l yy9 x.1.2.2.2]⟩,[⟨(.exit 0),.normal,⟨pvs 38 0 [(6,.v (.one (.full 0)))],[.row yi 2],0,none,[],[],[0],[(.l yi)],[]⟩⟩]⟩
def r14next_l0_step (x : (((List I3) × ((List I2) × ((List I3) × (List I9)))) × Int)) (s : ((List Int) × Int)) : ((List Int) × Int) ⊕ (List Int) :=
 (if (s.2 < (x.1.2.2.2.length:Int)) then
 (letV (r14nx (x.1,(x.2,s.2))) fun y =>
 (if (y = true) then
 (Sum.inl ((s.1 ++ [s.2]),(w64 (s.2 + (1:Int))))) else
 (Sum.inl (s.1,(w64 (s.2 + (1:Int))))))) else
 (Sum.inr (s.1)))
def r14next_l0_pre (x : (((List I3) × ((List I2) × ((List I3) × (List I9)))) × Int)) (s : ((List Int) × Int)) : Prop :=
 ((s.2 < (x.1.2.2.2.length:Int)) →
 ((r14nx_pre (x.1,(x.2,s.2))) ∧
 letP (r14nx (x.1,(x.2,s.2))) fun y =>
 ((y = true) →
 (((List.length s.1) + 1) < 1099511627776))))
def r14next_l0_t (x : (((List I3) × ((List I2) × ((List I3) × (List I9)))) × Int)) (s : ((List Int) × Int)) : Tr (((List Int) × Int) ⊕ (List Int)) true :=
 (.i10 (s.2 < (nL x.1.2.2.2))
 (.fn r14nx_S (x.1,(x.2,s.2)) fun y =>
 (.b10 y
 (.od (((List.length s.1) + 1) < 1099511627776)
 (.ret (.inl ((s.1 ++ [s.2]),(w1 s.2)))))
 (.ret (.inl (s.1,(w1 s.2))))))
 (.ret (.inr (s.1))))
def r14next (x : (((List I3) × ((List I2) × ((List I3) × (List I9)))) × Int)) : ((List Int) × Int) :=
 (letV (r8is x.1) fun y =>
 (if ((!y) = true) then
 ([],(1:Int)) else
 (if (x.2 < (0:Int)) then
 ([],(1:Int)) else
 (if (x.2 ≥ (x.1.2.2.2.length:Int)) then
 ([],(1:Int)) else
 (letV (run (r14next_l0_step x) ([],(0:Int))) fun r =>
 (r,(0:Int)))))))
def r14next_pre (x : (((List I3) × ((List I2) × ((List I3) × (List I9)))) × Int)) : Prop :=
 ((r8is_pre x.1) ∧
 letP (r8is x.1) fun y =>
 (¬ ((!y) = true) →
 (¬ (x.2 < (0:Int)) →
 (¬ (x.2 ≥ (x.1.2.2.2.length:Int)) →
 (Term (r14next_l0_step x) (r14next_l0_pre x) ([],(0:Int)))))))
def r14next_t (x : (((List I3) × ((List I2) × ((List I3) × (List I9)))) × Int)) : Tr ((List Int) × Int) true :=
 (.fn r8is_S x.1 fun y =>
 (.b01 (!y)
 (.ret ([],z1))
 (.i01 (x.2 < z0)
 (.ret ([],z1))
 (.i01 (x.2 ≥ (nL x.1.2.2.2))
 (.ret ([],z1))
 (LoopD.lp (r14next_l0 x) (r14next_l0_t x) ([],z0) fun r =>
 (.ret (r,z0)))))))
abbrev r14next_S : FnS := ⟨(.pair (.agg (Ty.prod (Ty.sl yy3) (Ty.prod (Ty.sl yy2) (Ty.prod (Ty.sl yy3) (Ty.sl yy9))))) (.one yi)),(.pair (.one (Ty.sl yi)) (.one yi)),r14next_pre,r14next⟩
theorem r14next_ok : SpecOk Try.prog 14 (fnSpec r14next_S) := SpecOk.tr r14next_S r14next_t (fn := Try.f14) tt_ok sp_r14nx_ok mixed (by kernel_rfl) (ItsOk.nil _ _) (fun x => (LpsOk.tr tt_ok (SpecsOk.ctxI sp_r14nx_ok (ItsOk.nil _ _)) mixed 0 (r14next_l0 x) (r14next_l0_t x) LpsOk.nil (by kernel_rfl) fun g s Q => (by kernel_rfl))) (fun x => (by kernel_rfl)) fun x Q => (by kernel_rfl)
def sp_r14next : List (Nat × Ev.Spec) := (14,fnSpec r14next_S) :: sp_r14nx
theorem sp_r14next_ok : SpecsOk Try.prog sp_r14next := SpecsOk.add (fn := Try.f14) (by kernel_rfl) r14next_ok sp_r14nx_ok
def r14edges_l4 (x : ((List I3) × ((List I2) × ((List I3) × (List I9))))) : LoopD := ⟨[],⟨pvs 58 0 [(1,.v (.one (.ptr 0 0))),(4,.v (.one (.full 5))),(5,.v (.one (.i .i64))),(6,.v (.one (.i .i64))),(7,.v (.one (.full 6))),(8,.v (.one (.i .i64)))],[.cells [.full 1,.full 2,.full 3,.full 4] 26,.row yy3 0,.row yy2 0,.row yy3 0,.row yy9 0,.row (Ty.prod yi (Ty.prod yi (Ty.sl yi))) 2,.row yi 2],0,none,[],[3,4,5,6],[7,0,1,8,2],[(.l (Ty.prod yi (Ty.prod yi (Ty.sl yi)))),.i,.i,(.l yi),.i],[.l yy3 x.1,.l yy2 x.2.1,.l yy3 x.2.2.1,.l yy9 x.2.2.2]⟩,[⟨(.exit 4),.normal,⟨pvs 58 0 [(1,.v (.one (.ptr 0 0))),(4,.v (.one (.full 5))),(5,.v (.one (.i .i64))),(6,.v (.one (.i .i64))),(7,.v (.one (.full 6)))],[.cells [.full 1,.full 2,.full 3,.full 4] 26,.row yy3 0,.row yy2 0,.row yy3 0,.row yy9 0,.row (Ty.prod yi (Ty.prod yi (Ty.sl yi))) 2,.row yi 2],0,none,[],[2,3,4,5],[6,0,1,7],[(.l (Ty.prod yi (Ty.prod yi (Ty.sl yi)))),.i,.i,(.l yi)],[.l yy3 x.1,.l yy2 x.2.1,.l yy3 x.2.2.1,.l yy9 x.2.2.2]⟩⟩]⟩
def r14edges_l4_step (x : ((List I3) × ((List I2) × ((List I3) × (List I9))))) (s : ((List (Int × (Int × (List Int)))) × (Int × (Int × ((List Int) × Int))))) : ((List (Int × (Int × (List Int)))) × (Int × (Int × ((List Int) × Int)))) ⊕ ((List (Int × (Int × (List Int)))) × (Int × (Int × (List Int)))) :=
 (if (s.2.2.2.2 < (x.2.2.2.length:Int)) then
 (letV (r14has ((List.getD x.2.2.2 (Int.toNat s.2.2.2.2) (((0:Int),((0:Int),(0:Int))),(((0:Int),((0:Int),(0:Int))),((0:Int),((0:Int),(0:Int)))))),(s.2.1,s.2.2.1))) fun y =>
 (if (y = true) then
 (Sum.inl (s.1,(s.2.1,(s.2.2.1,((s.2.2.2.1 ++ [s.2.2.2.2]),(w64 (s.2.2.2.2 + (1:Int)))))))) else
 (Sum.inl (s.1,(s.2.1,(s.2.2.1,(s.2.2.2.1,(w64 (s.2.2.2.2 + (1:Int)))))))))) else
 (Sum.inr ((s.1,(s.2.1,(s.2.2.1,s.2.2.2.1))))))
def r14edges_l4_pre (x : ((List I3) × ((List I2) × ((List I3) × (List I9))))) (s : ((List (Int × (Int × (List Int)))) × (Int × (Int × ((List Int) × Int))))) : Prop :=
 ((s.2.2.2.2 < (x.2.2.2.length:Int)) →
 ((((0:Int) ≤ s.2.2.2.2) ∧ (s.2.2.2.2 < (x.2.2.2.length:Int))) ∧
 (((Int.toNat s.2.2.2.2) < (List.length x.2.2.2)) ∧
 (((Int.toNat s.2.2.2.2) < (List.length x.2.2.2)) ∧
 ((r14has_pre ((List.getD x.2.2.2 (Int.toNat s.2.2.2.2) (((0:Int),((0:Int),(0:Int))),(((0:Int),((0:Int),(0:Int))),((0:Int),((0:Int),(0:Int)))))),(s.2.1,s.2.2.1))) ∧
 letP (r14has ((List.getD x.2.2.2 (Int.toNat s.2.2.2.2) (((0:Int),((0:Int),(0:Int))),(((0:Int),((0:Int),(0:Int))),((0:Int),((0:Int),(0:Int)))))),(s.2.1,s.2.2.1))) fun y =>
 ((y = true) →
 (((List.length s.2.2.2.1) + 1) < 1099511627776)))))))
def r14edges_l4_t (x : ((List I3) × ((List I2) × ((List I3) × (List I9))))) (s : ((List (Int × (Int × (List Int)))) × (Int × (Int × ((List Int) × Int))))) : Tr (((List (Int × (Int × (List Int)))) × (Int × (Int × ((List Int) × Int)))) ⊕ ((List (Int × (Int × (List Int)))) × (Int × (Int × (List Int))))) true :=
 (.i10 (s.2.2.2.2 < (nL x.2.2.2))
 (.oI2 s.2.2.2.2 x.2.2.2
 (.fn r14has_S ((gT x.2.2.2 s.2.2.2.2 zz9),(s.2.1,s.2.2.1)) fun y =>
 (.b10 y
 (.od (((List.length s.2.2.2.1) + 1) < 1099511627776)
 (.ret (.inl (s.1,(s.2.1,(s.2.2.1,((s.2.2.2.1 ++ [s.2.2.2.2]),(w1 s.2.2.2.2))))))))
 (.ret (.inl (s.1,(s.2.1,(s.2.2.1,(s.2.2.2.1,(w1 s.2.2.2.2))))))))))
 (.ret (.inr ((s.1,(s.2.1,(s.2.2.1,s.2.2.2.1)))))))
def r14edges_l2 (x : ((List I3) × ((List I2) × ((List I3) × (List I9))))) : LoopD := ⟨[],⟨pvs 58 0 [(1,.v (.one (.ptr 0 0))),(4,.v (.one (.full 5))),(5,.v (.one (.i .i64))),(6,.v (.one (.i .i64)))],[.cells [.full 1,.full 2,.full 3,.full 4] 26,.row yy3 0,.row yy2 0,.row yy3 0,.row yy9 0,.row (Ty.prod yi (Ty.prod yi (Ty.sl yi))) 2],0,none,[],[2,3,4,5],[6,0,1],[(.l (Ty.prod yi (Ty.prod yi (Ty.sl yi)))),.i,.i],[.l yy3 x.1,.l yy2 x.2.1,.l yy3 x.2.2.1,.l yy9 x.2.2.2]⟩,[⟨(.exit 2),.normal,⟨pvs 58 0 [(1,.v (.one (.ptr 0 0))),(4,.v (.one (.full 5))),(5,.v (.one (.i .i64)))],[.cells [.full 1,.full 2,.full 3,.full 4] 26,.row yy3 0,.row yy2 0,.row yy3 0,.row yy9 0,.row (Ty.prod yi (Ty.prod yi (Ty.sl yi))) 2],0,none,[],[1,2,3,4],[5,0],[(.l (Ty.prod yi (Ty.prod yi (Ty.sl yi)))),.i],[.l yy3 x.1,.l yy2 x.2.1,.l yy3 x.2.2.1,.l yy9 x.2.2.2]⟩⟩]⟩
def r14edges_l2_step (x : ((List I3) × ((List I2) × ((List I3) × (List I9))))) (s : ((List (Int × (Int × (List Int)))) × I2)) : ((List (Int × (Int × (List Int)))) × I2) ⊕ ((List (Int × (Int × (List Int)))) × Int) :=
 (if (s.2.2 < (x.1.length:Int)) then
 (letV (run (r14edges_l4_step x) (s.1,(s.2.1,(s.2.2,([],(0:Int)))))) fun r =>
 (if ((r.2.2.2.length:Int) > (0:Int)) then
 (Sum.inl ((r.1 ++ [r.2]),(r.2.1,(w64 (r.2.2.1 + (1:Int)))))) else
 (Sum.inl (r.1,(r.2.1,(w64 (r.2.2.1 + (1:Int)))))))) else
 (Sum.inr ((s.1,s.2.1))))
def r14edges_l2_pre (x : ((List I3) × ((List I2) × ((List I3) × (List I9))))) (s : ((List (Int × (Int × (List Int)))) × I2)) : Prop :=
 ((s.2.2 < (x.1.length:Int)) →
 (Term (r14edges_l4_step x) (r14edges_l4_pre x) (s.1,(s.2.1,(s.2.2,([],(0:Int))))) ∧
 letP (run (r14edges_l4_step x) (s.1,(s.2.1,(s.2.2,([],(0:Int)))))) fun r =>
 (((r.2.2.2.length:Int) > (0:Int)) →
 (((List.length r.1) + 1) < 1099511627776))))
def r14edges_l2_t (x : ((List I3) × ((List I2) × ((List I3) × (List I9))))) (s : ((List (Int × (Int × (List Int)))) × I2)) : Tr (((List (Int × (Int × (List Int)))) × I2) ⊕ ((List (Int × (Int × (List Int)))) × Int)) true :=
 (.i10 (s.2.2 < (nL x.1))
 (LoopD.lp (r14edges_l4 x) (r14edges_l4_t x) (s.1,(s.2.1,(s.2.2,([],z0)))) fun r =>
 (.i10 ((nL r.2.2.2) > z0)
 (.od (((List.length r.1) + 1) < 1099511627776)
 (.ret (.inl ((r.1 ++ [r.2]),(r.2.1,(w1 r.2.2.1))))))
 (.ret (.inl (r.1,(r.2.1,(w1 r.2.2.1)))))))
 (.ret (.inr ((s.1,s.2.1)))))
def r14edges_l0 (x : ((List I3) × ((List I2) × ((List I3) × (List I9))))) : LoopD := ⟨[],⟨pvs 58 0 [(1,.v (.one (.ptr 0 0))),(4,.v (.one (.full 5))),(5,.v (.one (.i .i64)))],[.cells [.full 1,.full 2,.full 3,.full 4] 26,.row yy3 0,.row yy2 0,.row yy3 0,.row yy9 0,.row (Ty.prod yi (Ty.prod yi (Ty.sl yi))) 2],0,none,[],[1,2,3,4],[5,0],[(.l (Ty.prod yi (Ty.prod yi (Ty.sl yi)))),.i],[.l yy3 x.1,.l yy2 x.2.1,.l yy3 x.2.2.1,.l yy9 x.2.2.2]⟩,[⟨(.exit 0),.normal,⟨pvs 58 0 [(4,.v (.one (.full 0)))],[.row (Ty.prod yi (Ty.prod yi (Ty.sl yi))) 2],0,none,[],[],[0],[(.l (Ty.prod yi (Ty.prod yi (Ty.sl yi))))],[]⟩⟩]⟩
def r14edges_l0_step (x : ((List I3) × ((List I2) × ((List I3) × (List I9))))) (s : ((List (Int × (Int × (List Int)))) × Int)) : ((List (Int × (Int × (List Int)))) × Int) ⊕ (List (Int × (Int × (List Int)))) :=
 (if (s.2 < (x.1.length:Int)) then
 (letV (run (r14edges_l2_step x) (s.1,(s.2,(w64 (s.2 + (1:Int)))))) fun r =>
 (Sum.inl (r.1,(w64 (r.2 + (1:Int)))))) else
 (Sum.inr (s.1)))
def r14edges_l0_pre (x : ((List I3) × ((List I2) × ((List I3) × (List I9))))) (s : ((List (Int × (Int × (List Int)))) × Int)) : Prop :=
 ((s.2 < (x.1.length:Int)) →
 (Term (r14edges_l2_step x) (r14edges_l2_pre x) (s.1,(s.2,(w64 (s.2 + (1:Int)))))))
def r14edges_l0_t (x : ((List I3) × ((List I2) × ((List I3) × (List I9))))) (s : ((List (Int × (Int × (List Int)))) × Int)) : Tr (((List (Int × (Int × (List Int)))) × Int) ⊕ (List (Int × (Int × (List Int))))) true :=
 (.i10 (s.2 < (nL x.1))
 (LoopD.lp (r14edges_l2 x) (r14edges_l2_t x) (s.1,(s.2,(w1 s.2))) fun r =>
 (.ret (.inl (r.1,(w1 r.2)))))
 (.ret (.inr (s.1))))
def r14edges (x : ((List I3) × ((List I2) × ((List I3) × (List I9))))) : ((List (Int × (Int × (List Int)))) × Int) :=
 (letV (r8is x) fun y =>
 (if ((!y) = true) then
 ([],(1:Int)) else
 (letV (run (r14edges_l0_step x) ([],(0:Int))) fun r =>
 (r,(0:Int)))))
def r14edges_pre (x : ((List I3) × ((List I2) × ((List I3) × (List I9))))) : Prop :=
 ((r8is_pre x) ∧
 letP (r8is x) fun y =>
 (¬ ((!y) = true) →
 (Term (r14edges_l0_step x) (r14edges_l0_pre x) ([],(0:Int)))))
def r14edges_t (x : ((List I3) × ((List I2) × ((List I3) × (List I9))))) : Tr ((List (Int × (Int × (List Int)))) × Int) true :=
 (.fn r8is_S x fun y =>
 (.b01 (!y)
 (.ret ([],z1))
 (LoopD.lp (r14edges_l0 x) (r14edges_l0_t x) ([],z0) fun r =>
 (.ret (r,z0)))))
abbrev r14edges_S : FnS := ⟨(.agg (Ty.prod (Ty.sl yy3) (Ty.prod (Ty.sl yy2) (Ty.prod (Ty.sl yy3) (Ty.sl yy9))))),(.pair (.one (Ty.sl (Ty.prod yi (Ty.prod yi (Ty.sl yi))))) (.one yi)),r14edges_pre,r14edges⟩
theorem r14edges_ok : SpecOk Try.prog 12 (fnSpec r14edges_S) := SpecOk.tr r14edges_S r14edges_t (fn := Try.f12) tt_ok sp_r14next_ok mixed (by kernel_rfl) (ItsOk.nil _ _) (fun x => (LpsOk.tr tt_ok (SpecsOk.ctxI sp_r14next_ok (ItsOk.nil _ _)) mixed 0 (r14edges_l0 x) (r14edges_l0_t x) (LpsOk.tr tt_ok (SpecsOk.ctxI sp_r14next_ok (ItsOk.nil _ _)) mixed 2 (r14edges_l2 x) (r14edges_l2_t x) (LpsOk.tr tt_ok (SpecsOk.ctxI sp_r14next_ok (ItsOk.nil _ _)) mixed 4 (r14edges_l4 x) (r14edges_l4_t x) LpsOk.nil (by kernel_rfl) fun g s Q => (by kernel_rfl)) (by kernel_rfl) fun g s Q => (by kernel_rfl)) (by kernel_rfl) fun g s Q => (by kernel_rfl))) (fun x => (by kernel_rfl)) fun x Q => (by kernel_rfl)
def sp_r14edges : List (Nat × Ev.Spec) := (12,fnSpec r14edges_S) :: sp_r14next
theorem sp_r14edges_ok : SpecsOk Try.prog sp_r14edges := SpecsOk.add (fn := Try.f12) (by kernel_rfl) r14edges_ok sp_r14next_ok
def r14parts_l0 (x : ((List I3) × ((List I2) × ((List I3) × (List I9))))) : LoopD := ⟨[],⟨pvs 67 0 [(1,.v (.one (.ptr 0 0))),(4,.v (.one (.full 5))),(5,.v (.one (.i .i64)))],[.cells [.full 1,.full 2,.full 3,.full 4] 26,.row yy3 0,.row yy2 0,.row yy3 0,.row yy9 0,.row yi 2],0,none,[],[1,2,3,4],[5,0],[(.l yi),.i],[.l yy3 x.1,.l yy2 x.2.1,.l yy3 x.2.2.1,.l yy9 x.2.2.2]⟩,[⟨(.exit 0),.normal,⟨pvs 67 0 [(1,.v (.one (.ptr 0 0))),(4,.v (.one (.full 5)))],[.cells [.full 1,.full 2,.full 3,.full 4] 26,.row yy3 0,.row yy2 0,.row yy3 0,.row yy9 0,.row yi 2],0,none,[],[0,1,2,3],[4],[(.l yi)],[.l yy3 x.1,.l yy2 x.2.1,.l yy3 x.2.2.1,.l yy9 x.2.2.2]⟩⟩]⟩
def r14parts_l0_step (x : ((List I3) × ((List I2) × ((List I3) × (List I9))))) (s : ((List Int) × Int)) : ((List Int) × Int) ⊕ (List Int) :=
 (if (s.2 < (x.2.2.2.length:Int)) then
 (Sum.inl ((s.1 ++ [s.2]),(w64 (s.2 + (1:Int))))) else
 (Sum.inr (s.1)))
def r14parts_l0_pre (x : ((List I3) × ((List I2) × ((List I3) × (List I9))))) (s : ((List Int) × Int)) : Prop :=
 ((s.2 < (x.2.2.2.length:Int)) →
 (((List.length s.1) + 1) < 1099511627776))
def r14parts_l0_t (x : ((List I3) × ((List I2) × ((List I3) × (List I9))))) (s : ((List Int) × Int)) : Tr (((List Int) × Int) ⊕ (List Int)) true :=
 (.i10 (s.2 < (nL x.2.2.2))
 (.od (((List.length s.1) + 1) < 1099511627776)
 (.ret (.inl ((s.1 ++ [s.2]),(w1 s.2)))))
 (.ret (.inr (s.1))))
def r14parts_l6 (x : ((List I3) × ((List I2) × ((List I3) × (List I9))))) : LoopD := ⟨[],⟨pvs 67 0 [(1,.v (.one (.ptr 0 0))),(4,.v (.one (.full 5))),(6,.v (.one (.i .i64))),(7,.v (.one (.i .i64))),(8,.v (.one (.i .i64)))],[.cells [.full 1,.full 2,.full 3,.full 4] 26,.row yy3 0,.row yy2 0,.row yy3 0,.row yy9 0,.row yi 2],0,none,[],[3,4,5,6],[7,0,1,2],[(.l yi),.i,.i,.i],[.l yy3 x.1,.l yy2 x.2.1,.l yy3 x.2.2.1,.l yy9 x.2.2.2]⟩,[⟨(.exit 6),.normal,⟨pvs 67 0 [(1,.v (.one (.ptr 0 0))),(4,.v (.one (.full 5))),(6,.v (.one (.i .i64))),(7,.v (.one (.i .i64)))],[.cells [.full 1,.full 2,.full 3,.full 4] 26,.row yy3 0,.row yy2 0,.row yy3 0,.row yy9 0,.row yi 2],0,none,[],[2,3,4,5],[6,0,1],[(.l yi),.i,.i],[.l yy3 x.1,.l yy2 x.2.1,.l yy3 x.2.2.1,.l yy9 x.2.2.2]⟩⟩]⟩
def r14parts_l6_step (x : ((List I3) × ((List I2) × ((List I3) × (List I9))))) (s : ((List Int) × I3)) : ((List Int) × I3) ⊕ ((List Int) × I2) :=
 (if (s.2.2.2 < (x.2.2.2.length:Int)) then
 (if ((List.getD s.1 (Int.toNat s.2.2.2) (0:Int)) < (List.getD s.1 (Int.toNat s.2.2.1) (0:Int))) then
 (letV (r14nx (x,s.2.2)) fun y =>
 (if (y = true) then
 (letV (List.set s.1 (Int.toNat s.2.2.1) (List.getD s.1 (Int.toNat s.2.2.2) (0:Int))) fun y_1 =>
 (Sum.inl (y_1,(s.2.1,(s.2.2.1,(w64 (s.2.2.2 + (1:Int)))))))) else
 (Sum.inl (s.1,(s.2.1,(s.2.2.1,(w64 (s.2.2.2 + (1:Int))))))))) else
 (Sum.inl (s.1,(s.2.1,(s.2.2.1,(w64 (s.2.2.2 + (1:Int)))))))) else
 (Sum.inr ((s.1,(s.2.1,s.2.2.1)))))
def r14parts_l6_pre (x : ((List I3) × ((List I2) × ((List I3) × (List I9))))) (s : ((List Int) × I3)) : Prop :=
 ((s.2.2.2 < (x.2.2.2.length:Int)) →
 ((((0:Int) ≤ s.2.2.2) ∧ (s.2.2.2 < (s.1.length:Int))) ∧
 (((Int.toNat s.2.2.2) < (List.length s.1)) ∧
 (((Int.toNat s.2.2.2) < (List.length s.1)) ∧
 ((((0:Int) ≤ s.2.2.1) ∧ (s.2.2.1 < (s.1.length:Int))) ∧
 (((Int.toNat s.2.2.1) < (List.length s.1)) ∧
 (((Int.toNat s.2.2.1) < (List.length s.1)) ∧
 (((List.getD s.1 (Int.toNat s.2.2.2) (0:Int)) < (List.getD s.1 (Int.toNat s.2.2.1) (0:Int))) →
 ((r14nx_pre (x,s.2.2)) ∧
 letP (r14nx (x,s.2.2)) fun y =>
 ((y = true) →
 ((((0:Int) ≤ s.2.2.2) ∧ (s.2.2.2 < (s.1.length:Int))) ∧
 (((Int.toNat s.2.2.2) < (List.length s.1)) ∧
 (((Int.toNat s.2.2.2) < (List.length s.1)) ∧
 ((((0:Int) ≤ s.2.2.1) ∧ (s.2.2.1 < (s.1.length:Int))) ∧
 (((Int.toNat s.2.2.1) < (List.length s.1)) ∧
 ((Int.toNat s.2.2.1) < (List.length s.1)))))))))))))))))
def r14parts_l6_t (x : ((List I3) × ((List I2) × ((List I3) × (List I9))))) (s : ((List Int) × I3)) : Tr (((List Int) × I3) ⊕ ((List Int) × I2)) true :=
 (.i10 (s.2.2.2 < (nL x.2.2.2))
 (.oI2 s.2.2.2 s.1
 (.oI2 s.2.2.1 s.1
 (.i10 ((gI s.1 s.2.2.2) < (gI s.1 s.2.2.1))
 (.fn r14nx_S (x,s.2.2) fun y =>
 (.b10 y
 (.oI2 s.2.2.2 s.1
 (.oI2 s.2.2.1 s.1
 (.lt (List.set s.1 (tN s.2.2.1) (gI s.1 s.2.2.2)) fun y_1 =>
 (.ret (.inl (y_1,(s.2.1,(s.2.2.1,(w1 s.2.2.2)))))))))
 (.ret (.inl (s.1,(s.2.1,(s.2.2.1,(w1 s.2.2.2))))))))
 (.ret (.inl (s.1,(s.2.1,(s.2.2.1,(w1 s.2.2.2)))))))))
 (.ret (.inr ((s.1,(s.2.1,s.2.2.1))))))
def r14parts_l4 (x : ((List I3) × ((List I2) × ((List I3) × (List I9))))) : LoopD := ⟨[],⟨pvs 67 0 [(1,.v (.one (.ptr 0 0))),(4,.v (.one (.full 5))),(6,.v (.one (.i .i64))),(7,.v (.one (.i .i64)))],[.cells [.full 1,.full 2,.full 3,.full 4] 26,.row yy3 0,.row yy2 0,.row yy3 0,.row yy9 0,.row yi 2],0,none,[],[2,3,4,5],[6,0,1],[(.l yi),.i,.i],[.l yy3 x.1,.l yy2 x.2.1,.l yy3 x.2.2.1,.l yy9 x.2.2.2]⟩,[⟨(.exit 4),.normal,⟨pvs 67 0 [(1,.v (.one (.ptr 0 0))),(4,.v (.one (.full 5))),(6,.v (.one (.i .i64)))],[.cells [.full 1,.full 2,.full 3,.full 4] 26,.row yy3 0,.row yy2 0,.row yy3 0,.row yy9 0,.row yi 2],0,none,[],[1,2,3,4],[5,0],[(.l yi),.i],[.l yy3 x.1,.l yy2 x.2.1,.l yy3 x.2.2.1,.l yy9 x.2.2.2]⟩⟩]⟩
def r14parts_l4_step (x : ((List I3) × ((List I2) × ((List I3) × (List I9))))) (s : ((List Int) × I2)) : ((List Int) × I2) ⊕ ((List Int) × Int) :=
 (if (s.2.2 < (x.2.2.2.length:Int)) then
 (letV (run (r14parts_l6_step x) (s.1,(s.2.1,(s.2.2,(0:Int))))) fun r =>
 (Sum.inl (r.1,(r.2.1,(w64 (r.2.2 + (1:Int))))))) else
 (Sum.inr ((s.1,s.2.1))))
def r14parts_l4_pre (x : ((List I3) × ((List I2) × ((List I3) × (List I9))))) (s : ((List Int) × I2)) : Prop :=
 ((s.2.2 < (x.2.2.2.length:Int)) →
 (Term (r14parts_l6_step x) (r14parts_l6_pre x) (s.1,(s.2.1,(s.2.2,(0:Int))))))
def r14parts_l4_t (x : ((List I3) × ((List I2) × ((List I3) × (List I9))))) (s : ((List Int) × I2)) : Tr (((List Int) × I2) ⊕ ((List Int) × Int)) true :=
 (.i10 (s.2.2 < (nL x.2.2.2))
 (LoopD.lp (r14parts_l6 x) (r14parts_l6_t x) (s.1,(s.2.1,(s.2.2,z0))) fun r =>
 (.ret (.inl (r.1,(r.2.1,(w1 r.2.2))))))
 (.ret (.inr ((s.1,s.2.1)))))
def r14parts_l2 (x : ((List I3) × ((List I2) × ((List I3) × (List I9))))) : LoopD := ⟨[],⟨pvs 67 0 [(1,.v (.one (.ptr 0 0))),(4,.v (.one (.full 5))),(6,.v (.one (.i .i64)))],[.cells [.full 1,.full 2,.full 3,.full 4] 26,.row yy3 0,.row yy2 0,.row yy3 0,.row yy9 0,.row yi 2],0,none,[],[1,2,3,4],[5,0],[(.l yi),.i],[.l yy3 x.1,.l yy2 x.2.1,.l yy3 x.2.2.1,.l yy9 x.2.2.2]⟩,[⟨(.exit 2),.normal,⟨pvs 67 0 [(4,.v (.one (.full 0)))],[.row yi 2],0,none,[],[],[0],[(.l yi)],[]⟩⟩]⟩
def r14parts_l2_step (x : ((List I3) × ((List I2) × ((List I3) × (List I9))))) (s : ((List Int) × Int)) : ((List Int) × Int) ⊕ (List Int) :=
 (if (s.2 < (x.2.2.2.length:Int)) then
 (letV (run (r14parts_l4_step x) (s.1,(s.2,(0:Int)))) fun r =>
 (Sum.inl (r.1,(w64 (r.2 + (1:Int)))))) else
 (Sum.inr (s.1)))
def r14parts_l2_pre (x : ((List I3) × ((List I2) × ((List I3) × (List I9))))) (s : ((List Int) × Int)) : Prop :=
 ((s.2 < (x.2.2.2.length:Int)) →
 (Term (r14parts_l4_step x) (r14parts_l4_pre x) (s.1,(s.2,(0:Int)))))
def r14parts_l2_t (x : ((List I3) × ((List I2) × ((List I3) × (List I9))))) (s : ((List Int) × Int)) : Tr (((List Int) × Int) ⊕ (List Int)) true :=
 (.i10 (s.2 < (nL x.2.2.2))
 (LoopD.lp (r14parts_l4 x) (r14parts_l4_t x) (s.1,(s.2,z0)) fun r =>
 (.ret (.inl (r.1,(w1 r.2)))))
 (.ret (.inr (s.1))))
def r14parts (x : ((List I3) × ((List I2) × ((List I3) × (List I9))))) : ((List Int) × Int) :=
 (letV (r8is x) fun y =>
 (if ((!y) = true) then
 ([],(1:Int)) else
 (letV (run (r14parts_l0_step x) ([],(0:Int))) fun r =>
 (letV (run (r14parts_l2_step x) (r,(0:Int))) fun r_1 =>
 (r_1,(0:Int))))))
def r14parts_pre (x : ((List I3) × ((List I2) × ((List I3) × (List I9))))) : Prop :=
 ((r8is_pre x) ∧
 letP (r8is x) fun y =>
 (¬ ((!y) = true) →
 (Term (r14parts_l0_step x) (r14parts_l0_pre x) ([],(0:Int)) ∧
 letP (run (r14parts_l0_step x) ([],(0:Int))) fun r =>
 (Term (r14parts_l2_step x) (r14parts_l2_pre x) (r,(0:Int))))))
def r14parts_t (x : ((List I3) × ((List I2) × ((List I3) × (List I9))))) : Tr ((List Int) × Int) true :=
 (.fn r8is_S x fun y =>
 (.b01 (!y)
 (.ret ([],z1))
 (LoopD.lp (r14parts_l0 x) (r14parts_l0_t x) ([],z0) fun r =>
 (LoopD.lp (r14parts_l2 x) (r14parts_l2_t x) (r,z0) fun r_1 =>
 (.ret (r_1,z0))))))
abbrev r14parts_S : FnS := ⟨(.agg (Ty.prod (Ty.sl yy3) (Ty.prod (Ty.sl yy2) (Ty.prod (Ty.sl yy3) (Ty.sl yy9))))),(.pair (.one (Ty.sl yi)) (.one yi)),r14parts_pre,r14parts⟩
theorem r14parts_ok : SpecOk Try.prog 16 (fnSpec r14parts_S) := SpecOk.tr r14parts_S r14parts_t (fn := Try.f16) tt_ok sp_r14edges_ok mixed (by kernel_rfl) (ItsOk.nil _ _) (fun x => (LpsOk.tr tt_ok (SpecsOk.ctxI sp_r14edges_ok (ItsOk.nil _ _)) mixed 0 (r14parts_l0 x) (r14parts_l0_t x) (LpsOk.tr tt_ok (SpecsOk.ctxI sp_r14edges_ok (ItsOk.nil _ _)) mixed 2 (r14parts_l2 x) (r14parts_l2_t x) (LpsOk.tr tt_ok (SpecsOk.ctxI sp_r14edges_ok (ItsOk.nil _ _)) mixed 4 (r14parts_l4 x) (r14parts_l4_t x) (LpsOk.tr tt_ok (SpecsOk.ctxI sp_r14edges_ok (ItsOk.nil _ _)) mixed 6 (r14parts_l6 x) (r14parts_l6_t x) LpsOk.nil (by kernel_rfl) fun g s Q => (by kernel_rfl)) (by kernel_rfl) fun g s Q => (by kernel_rfl)) (by kernel_rfl) fun g s Q => (by kernel_rfl)) (by kernel_rfl) fun g s Q => (by kernel_rfl))) (fun x => (by kernel_rfl)) fun x Q => (by kernel_rfl)
def sp_r14parts : List (Nat × Ev.Spec) := (16,fnSpec r14parts_S) :: sp_r14edges
theorem sp_r14parts_ok : SpecsOk Try.prog sp_r14parts := SpecsOk.add (fn := Try.f16) (by kernel_rfl) r14parts_ok sp_r14edges_ok
def r1own (x : (List Int)) : (List Int) :=
 ([] ++ x)
def r1own_pre (x : (List Int)) : Prop :=
 ((0 + (List.length x)) < 1099511627776)
def r1own_t (x : (List Int)) : Tr (List Int) true :=
 (.od ((0 + (List.length x)) < 1099511627776)
 (.ret ([] ++ x)))
abbrev r1own_S : FnS := ⟨(.one (Ty.sl yi)),(.one (Ty.sl yi)),r1own_pre,r1own⟩
theorem r1own_ok : SpecOk Try.prog 47 (fnSpec r1own_S) := SpecOk.tr r1own_S r1own_t (fn := Try.f47) tt_ok sp_r14parts_ok mixed (by kernel_rfl) (ItsOk.nil _ _) (fun x => LpsOk.nil) (fun x => (by kernel_rfl)) fun x Q => (by kernel_rfl)
def sp_r1own : List (Nat × Ev.Spec) := (47,fnSpec r1own_S) :: sp_r14parts
theorem sp_r1own_ok : SpecsOk Try.prog sp_r1own := SpecsOk.add (fn := Try.f47) (by kernel_rfl) r1own_ok sp_r14parts_ok
def r14own (x : (Int × (Int × (List Int)))) : (Int × (Int × (List Int))) :=
 (letV (r1own x.2.2) fun y =>
 (x.1,(x.2.1,y)))
def r14own_pre (x : (Int × (Int × (List Int)))) : Prop :=
 (r1own_pre x.2.2)
def r14own_t (x : (Int × (Int × (List Int)))) : Tr (Int × (Int × (List Int))) true :=
 (.fn r1own_S x.2.2 fun y =>
 (.ret (x.1,(x.2.1,y))))
abbrev r14own_S : FnS := ⟨(.agg (Ty.prod yi (Ty.prod yi (Ty.sl yi)))),(.agg (Ty.prod yi (Ty.prod yi (Ty.sl yi)))),r14own_pre,r14own⟩
theorem r14own_ok : SpecOk Try.prog 29 (fnSpec r14own_S) := SpecOk.tr r14own_S r14own_t (fn := Try.f29) tt_ok sp_r1own_ok mixed (by kernel_rfl) (ItsOk.nil _ _) (fun x => LpsOk.nil) (fun x => (by kernel_rfl)) fun x Q => (by kernel_rfl)
def sp_r14own : List (Nat × Ev.Spec) := (29,fnSpec r14own_S) :: sp_r1own
theorem sp_r14own_ok : SpecsOk Try.prog sp_r14own := SpecsOk.add (fn := Try.f29) (by kernel_rfl) r14own_ok sp_r1own_ok
def r14loose_l0 (x : (List (Int × (Int × (List Int))))) : LoopD := ⟨[],⟨pvs 27 0 [(0,.v (.one (.full 0))),(3,.v (.one (.full 1))),(4,.v (.one (.i .i64)))],[.row (Ty.prod yi (Ty.prod yi (Ty.sl yi))) 0,.row (Ty.prod yi (Ty.prod yi (Ty.sl yi))) 2],0,none,[],[1],[2,0],[(.l (Ty.prod yi (Ty.prod yi (Ty.sl yi)))),.i],[.l (Ty.prod yi (Ty.prod yi (Ty.sl yi))) x]⟩,[⟨(.exit 0),.normal,⟨pvs 27 0 [(3,.v (.one (.full 0)))],[.row (Ty.prod yi (Ty.prod yi (Ty.sl yi))) 2],0,none,[],[],[0],[(.l (Ty.prod yi (Ty.prod yi (Ty.sl yi))))],[]⟩⟩]⟩
def r14loose_l0_step (x : (List (Int × (Int × (List Int))))) (s : ((List (Int × (Int × (List Int)))) × Int)) : ((List (Int × (Int × (List Int)))) × Int) ⊕ (List (Int × (Int × (List Int)))) :=
 (if (s.2 < (x.length:Int)) then
 (if ((((List.getD x (Int.toNat s.2) ((0:Int),((0:Int),[]))).2.2.length:Int) == (1:Int)) = true) then
 (letV (r14own (List.getD x (Int.toNat s.2) ((0:Int),((0:Int),[])))) fun y =>
 (Sum.inl ((s.1 ++ [y]),(w64 (s.2 + (1:Int)))))) else
 (Sum.inl (s.1,(w64 (s.2 + (1:Int)))))) else
 (Sum.inr (s.1)))
def r14loose_l0_pre (x : (List (Int × (Int × (List Int))))) (s : ((List (Int × (Int × (List Int)))) × Int)) : Prop :=
 ((s.2 < (x.length:Int)) →
 ((((0:Int) ≤ s.2) ∧ (s.2 < (x.length:Int))) ∧
 (((Int.toNat s.2) < (List.length x)) ∧
 (((Int.toNat s.2) < (List.length x)) ∧
 (((Int.toNat s.2) < (List.length x)) ∧
 (((((List.getD x (Int.toNat s.2) ((0:Int),((0:Int),[]))).2.2.length:Int) == (1:Int)) = true) →
 ((((0:Int) ≤ s.2) ∧ (s.2 < (x.length:Int))) ∧
 (((Int.toNat s.2) < (List.length x)) ∧
 (((Int.toNat s.2) < (List.length x)) ∧
 ((r14own_pre (List.getD x (Int.toNat s.2) ((0:Int),((0:Int),[])))) ∧
 letP (r14own (List.getD x (Int.toNat s.2) ((0:Int),((0:Int),[])))) fun y =>
 (((List.length s.1) + 1) < 1099511627776)))))))))))
def r14loose_l0_t (x : (List (Int × (Int × (List Int))))) (s : ((List (Int × (Int × (List Int)))) × Int)) : Tr (((List (Int × (Int × (List Int)))) × Int) ⊕ (List (Int × (Int × (List Int))))) true :=
 (.i10 (s.2 < (nL x))
 (.oI3 s.2 x
 (.b10 ((nL (gT x s.2 (z0,(z0,[]))).2.2) == z1)
 (.oI2 s.2 x
 (.fn r14own_S (gT x s.2 (z0,(z0,[]))) fun y =>
 (.od (((List.length s.1) + 1) < 1099511627776)
 (.ret (.inl ((s.1 ++ [y]),(w1 s.2)))))))
 (.ret (.inl (s.1,(w1 s.2))))))
 (.ret (.inr (s.1))))
def r14loose (x : (List (Int × (Int × (List Int))))) : (List (Int × (Int × (List Int)))) :=
 (letV (run (r14loose_l0_step x) ([],(0:Int))) fun r =>
 r)
def r14loose_pre (x : (List (Int × (Int × (List Int))))) : Prop :=
 (Term (r14loose_l0_step x) (r14loose_l0_pre x) ([],(0:Int)))
def r14loose_t (x : (List (Int × (Int × (List Int))))) : Tr (List (Int × (Int × (List Int)))) true :=
 (LoopD.lp (r14loose_l0 x) (r14loose_l0_t x) ([],z0) fun r =>
 (.ret r))
abbrev r14loose_S : FnS := ⟨(.one (Ty.sl (Ty.prod yi (Ty.prod yi (Ty.sl yi))))),(.one (Ty.sl (Ty.prod yi (Ty.prod yi (Ty.sl yi))))),r14loose_pre,r14loose⟩
theorem r14loose_ok : SpecOk Try.prog 22 (fnSpec r14loose_S) := SpecOk.tr r14loose_S r14loose_t (fn := Try.f22) tt_ok sp_r14own_ok mixed (by kernel_rfl) (ItsOk.nil _ _) (fun x => (LpsOk.tr tt_ok (SpecsOk.ctxI sp_r14own_ok (ItsOk.nil _ _)) mixed 0 (r14loose_l0 x) (r14loose_l0_t x) LpsOk.nil (by kernel_rfl) fun g s Q => (by kernel_rfl))) (fun x => (by kernel_rfl)) fun x Q => (by kernel_rfl)
def sp_r14loose : List (Nat × Ev.Spec) := (22,fnSpec r14loose_S) :: sp_r14own
theorem sp_r14loose_ok : SpecsOk Try.prog sp_r14loose := SpecsOk.add (fn := Try.f22) (by kernel_rfl) r14loose_ok sp_r14own_ok
def r14find_l0 (x : ((List (Int × (Int × (List Int)))) × I2)) : LoopD := ⟨[],⟨pvs 55 0 [(0,.v (.one (.full 0))),(1,.v (.one (.i .i64))),(2,.v (.one (.i .i64))),(6,.v (.one (.ptr 1 0))),(8,.v (.one (.i .i64)))],[.row (Ty.prod yi (Ty.prod yi (Ty.sl yi))) 0,.cells [.i .i64,.i .i64,.raw] 39],0,none,[],[0,1,3,4,5,6],[2],[.i],[.i x.2.1,.i x.2.2,.l (Ty.prod yi (Ty.prod yi (Ty.sl yi))) x.1,.i (0:Int),.i (0:Int),.v (.slice none 0 0)]⟩,[⟨.ret,.ret,⟨pvs 55 0 [(6,.v (.one (.ptr 0 0))),(7,.v (.one (.b)))],[.cells [.i .i64,.i .i64,.full 1] 39,.row yi 2],0,none,[],[0],[1,2,3],[.i,.i,(.l yi)],[.b true]⟩⟩,⟨(.exit 0),.normal,⟨pvs 55 0 [(6,.v (.one (.ptr 0 0)))],[.cells [.i .i64,.i .i64,.raw] 39],0,none,[],[0,1,2],[],[],[.i (0:Int),.i (0:Int),.v (.slice none 0 0)]⟩⟩]⟩
def r14find_l0_step (x : ((List (Int × (Int × (List Int)))) × I2)) (s:Int) : Int ⊕ ((Int × (Int × (List Int))) ⊕ Unit) :=
 (if (s < (x.1.length:Int)) then
 (if (((List.getD x.1 (Int.toNat s) ((0:Int),((0:Int),[]))).1 == x.2.1) = true) then
 (if (((List.getD x.1 (Int.toNat s) ((0:Int),((0:Int),[]))).2.1 == x.2.2) = true) then
 (letV (r14own (List.getD x.1 (Int.toNat s) ((0:Int),((0:Int),[])))) fun y =>
 (Sum.inr (Sum.inl (y.1,(y.2.1,y.2.2))))) else
 (if (((List.getD x.1 (Int.toNat s) ((0:Int),((0:Int),[]))).1 == x.2.2) = true) then
 (if (((List.getD x.1 (Int.toNat s) ((0:Int),((0:Int),[]))).2.1 == x.2.1) = true) then
 (letV (r14own (List.getD x.1 (Int.toNat s) ((0:Int),((0:Int),[])))) fun y =>
 (Sum.inr (Sum.inl (y.1,(y.2.1,y.2.2))))) else
 (Sum.inl (w64 (s + (1:Int))))) else
 (Sum.inl (w64 (s + (1:Int)))))) else
 (if (((List.getD x.1 (Int.toNat s) ((0:Int),((0:Int),[]))).1 == x.2.2) = true) then
 (if (((List.getD x.1 (Int.toNat s) ((0:Int),((0:Int),[]))).2.1 == x.2.1) = true) then
 (letV (r14own (List.getD x.1 (Int.toNat s) ((0:Int),((0:Int),[])))) fun y =>
 (Sum.inr (Sum.inl (y.1,(y.2.1,y.2.2))))) else
 (Sum.inl (w64 (s + (1:Int))))) else
 (Sum.inl (w64 (s + (1:Int)))))) else
 (Sum.inr (Sum.inr (()))))
def r14find_l0_pre (x : ((List (Int × (Int × (List Int)))) × I2)) (s:Int) : Prop :=
 ((s < (x.1.length:Int)) →
 ((((0:Int) ≤ s) ∧ (s < (x.1.length:Int))) ∧
 (((Int.toNat s) < (List.length x.1)) ∧
 (((Int.toNat s) < (List.length x.1)) ∧
 (((Int.toNat s) < (List.length x.1)) ∧
 (((((List.getD x.1 (Int.toNat s) ((0:Int),((0:Int),[]))).1 == x.2.1) = true) →
 ((((0:Int) ≤ s) ∧ (s < (x.1.length:Int))) ∧
 (((Int.toNat s) < (List.length x.1)) ∧
 (((Int.toNat s) < (List.length x.1)) ∧
 (((Int.toNat s) < (List.length x.1)) ∧
 (((((List.getD x.1 (Int.toNat s) ((0:Int),((0:Int),[]))).2.1 == x.2.2) = true) →
 ((((0:Int) ≤ s) ∧ (s < (x.1.length:Int))) ∧
 (((Int.toNat s) < (List.length x.1)) ∧
 (((Int.toNat s) < (List.length x.1)) ∧
 (r14own_pre (List.getD x.1 (Int.toNat s) ((0:Int),((0:Int),[])))))))) ∧
 (¬ (((List.getD x.1 (Int.toNat s) ((0:Int),((0:Int),[]))).2.1 == x.2.2) = true) →
 ((((0:Int) ≤ s) ∧ (s < (x.1.length:Int))) ∧
 (((Int.toNat s) < (List.length x.1)) ∧
 (((Int.toNat s) < (List.length x.1)) ∧
 (((Int.toNat s) < (List.length x.1)) ∧
 ((((List.getD x.1 (Int.toNat s) ((0:Int),((0:Int),[]))).1 == x.2.2) = true) →
 ((((0:Int) ≤ s) ∧ (s < (x.1.length:Int))) ∧
 (((Int.toNat s) < (List.length x.1)) ∧
 (((Int.toNat s) < (List.length x.1)) ∧
 (((Int.toNat s) < (List.length x.1)) ∧
 ((((List.getD x.1 (Int.toNat s) ((0:Int),((0:Int),[]))).2.1 == x.2.1) = true) →
 ((((0:Int) ≤ s) ∧ (s < (x.1.length:Int))) ∧
 (((Int.toNat s) < (List.length x.1)) ∧
 (((Int.toNat s) < (List.length x.1)) ∧
 (r14own_pre (List.getD x.1 (Int.toNat s) ((0:Int),((0:Int),[])))))))))))))))))))))))) ∧
 (¬ (((List.getD x.1 (Int.toNat s) ((0:Int),((0:Int),[]))).1 == x.2.1) = true) →
 ((((0:Int) ≤ s) ∧ (s < (x.1.length:Int))) ∧
 (((Int.toNat s) < (List.length x.1)) ∧
 (((Int.toNat s) < (List.length x.1)) ∧
 (((Int.toNat s) < (List.length x.1)) ∧
 ((((List.getD x.1 (Int.toNat s) ((0:Int),((0:Int),[]))).1 == x.2.2) = true) →
 ((((0:Int) ≤ s) ∧ (s < (x.1.length:Int))) ∧
 (((Int.toNat s) < (List.length x.1)) ∧
 (((Int.toNat s) < (List.length x.1)) ∧
 (((Int.toNat s) < (List.length x.1)) ∧
 ((((List.getD x.1 (Int.toNat s) ((0:Int),((0:Int),[]))).2.1 == x.2.1) = true) →
 ((((0:Int) ≤ s) ∧ (s < (x.1.length:Int))) ∧
 (((Int.toNat s) < (List.length x.1)) ∧
 (((Int.toNat s) < (List.length x.1)) ∧
 (r14own_pre (List.getD x.1 (Int.toNat s) ((0:Int),((0:Int),[]))))))))))))))))))))))))
def r14find_l0_t (x : ((List (Int × (Int × (List Int)))) × I2)) (s:Int) : Tr (Int ⊕ ((Int × (Int × (List Int))) ⊕ Unit)) true :=
 (.i10 (s < (nL x.1))
 (.oI3 s x.1
 (.b11 ((gT x.1 s (z0,(z0,[]))).1 == x.2.1)
 (.oI3 s x.1
 (.b11 ((gT x.1 s (z0,(z0,[]))).2.1 == x.2.2)
 (.oI2 s x.1
 (.fn r14own_S (gT x.1 s (z0,(z0,[]))) fun y =>
 (.ret (.inr (Sum.inl (y.1,(y.2.1,y.2.2)))))))
 (.oI3 s x.1
 (.b10 ((gT x.1 s (z0,(z0,[]))).1 == x.2.2)
 (.oI3 s x.1
 (.b10 ((gT x.1 s (z0,(z0,[]))).2.1 == x.2.1)
 (.oI2 s x.1
 (.fn r14own_S (gT x.1 s (z0,(z0,[]))) fun y =>
 (.ret (.inr (Sum.inl (y.1,(y.2.1,y.2.2)))))))
 (.ret (.inl (w1 s)))))
 (.ret (.inl (w1 s)))))))
 (.oI3 s x.1
 (.b10 ((gT x.1 s (z0,(z0,[]))).1 == x.2.2)
 (.oI3 s x.1
 (.b10 ((gT x.1 s (z0,(z0,[]))).2.1 == x.2.1)
 (.oI2 s x.1
 (.fn r14own_S (gT x.1 s (z0,(z0,[]))) fun y =>
 (.ret (.inr (Sum.inl (y.1,(y.2.1,y.2.2)))))))
 (.ret (.inl (w1 s)))))
 (.ret (.inl (w1 s)))))))
 (.ret (.inr (Sum.inr (())))))
def r14find (x : ((List (Int × (Int × (List Int)))) × I2)) : ((Int × (Int × (List Int))) × Bool) :=
 (letV (run (r14find_l0_step x) (0:Int)) fun r =>
 (Sum.elim (fun a =>
 (a,true)) (fun b =>
 (((0:Int),((0:Int),[])),false)) r))
def r14find_pre (x : ((List (Int × (Int × (List Int)))) × I2)) : Prop :=
 (Term (r14find_l0_step x) (r14find_l0_pre x) (0:Int))
def r14find_t (x : ((List (Int × (Int × (List Int)))) × I2)) : Tr ((Int × (Int × (List Int))) × Bool) true :=
 (LoopD.lp (r14find_l0 x) (r14find_l0_t x) z0 fun r =>
 (.s00 r (fun a =>
 (.ret (a,true))) (fun b =>
 (.ret ((z0,(z0,[])),false)))))
abbrev r14find_S : FnS := ⟨(.pair (.one (Ty.sl (Ty.prod yi (Ty.prod yi (Ty.sl yi))))) (.pair (.one yi) (.one yi))),(.pair (.agg (Ty.prod yi (Ty.prod yi (Ty.sl yi)))) (.one Ty.bool)),r14find_pre,r14find⟩
theorem r14find_ok : SpecOk Try.prog 19 (fnSpec r14find_S) := SpecOk.tr r14find_S r14find_t (fn := Try.f19) tt_ok sp_r14loose_ok mixed (by kernel_rfl) (ItsOk.nil _ _) (fun x => (LpsOk.tr tt_ok (SpecsOk.ctxI sp_r14loose_ok (ItsOk.nil _ _)) mixed 0 (r14find_l0 x) (r14find_l0_t x) LpsOk.nil (by kernel_rfl) fun g s Q => (by kernel_rfl))) (fun x => (by kernel_rfl)) fun x Q => (by kernel_rfl)
def sp_r14find : List (Nat × Ev.Spec) := (19,fnSpec r14find_S) :: sp_r14loose
theorem sp_r14find_ok : SpecsOk Try.prog sp_r14find := SpecsOk.add (fn := Try.f19) (by kernel_rfl) r14find_ok sp_r14loose_ok
def r14all_l0 (x : (List (Int × (Int × (List Int))))) : LoopD := ⟨[],⟨pvs 22 0 [(0,.v (.one (.full 0))),(3,.v (.one (.full 1))),(4,.v (.one (.i .i64)))],[.row (Ty.prod yi (Ty.prod yi (Ty.sl yi))) 0,.row (Ty.prod yi (Ty.prod yi (Ty.sl yi))) 2],0,none,[],[1],[2,0],[(.l (Ty.prod yi (Ty.prod yi (Ty.sl yi)))),.i],[.l (Ty.prod yi (Ty.prod yi (Ty.sl yi))) x]⟩,[⟨(.exit 0),.normal,⟨pvs 22 0 [(3,.v (.one (.full 0)))],[.row (Ty.prod yi (Ty.prod yi (Ty.sl yi))) 2],0,none,[],[],[0],[(.l (Ty.prod yi (Ty.prod yi (Ty.sl yi))))],[]⟩⟩]⟩
def r14all_l0_step (x : (List (Int × (Int × (List Int))))) (s : ((List (Int × (Int × (List Int)))) × Int)) : ((List (Int × (Int × (List Int)))) × Int) ⊕ (List (Int × (Int × (List Int)))) :=
 (if (s.2 < (x.length:Int)) then
 (letV (r14own (List.getD x (Int.toNat s.2) ((0:Int),((0:Int),[])))) fun y =>
 (Sum.inl ((s.1 ++ [y]),(w64 (s.2 + (1:Int)))))) else
 (Sum.inr (s.1)))
def r14all_l0_pre (x : (List (Int × (Int × (List Int))))) (s : ((List (Int × (Int × (List Int)))) × Int)) : Prop :=
 ((s.2 < (x.length:Int)) →
 ((((0:Int) ≤ s.2) ∧ (s.2 < (x.length:Int))) ∧
 (((Int.toNat s.2) < (List.length x)) ∧
 (((Int.toNat s.2) < (List.length x)) ∧
 ((r14own_pre (List.getD x (Int.toNat s.2) ((0:Int),((0:Int),[])))) ∧
 letP (r14own (List.getD x (Int.toNat s.2) ((0:Int),((0:Int),[])))) fun y =>
 (((List.length s.1) + 1) < 1099511627776))))))
def r14all_l0_t (x : (List (Int × (Int × (List Int))))) (s : ((List (Int × (Int × (List Int)))) × Int)) : Tr (((List (Int × (Int × (List Int)))) × Int) ⊕ (List (Int × (Int × (List Int))))) true :=
 (.i10 (s.2 < (nL x))
 (.oI2 s.2 x
 (.fn r14own_S (gT x s.2 (z0,(z0,[]))) fun y =>
 (.od (((List.length s.1) + 1) < 1099511627776)
 (.ret (.inl ((s.1 ++ [y]),(w1 s.2)))))))
 (.ret (.inr (s.1))))
def r14all (x : (List (Int × (Int × (List Int))))) : (List (Int × (Int × (List Int)))) :=
 (letV (run (r14all_l0_step x) ([],(0:Int))) fun r =>
 r)
def r14all_pre (x : (List (Int × (Int × (List Int))))) : Prop :=
 (Term (r14all_l0_step x) (r14all_l0_pre x) ([],(0:Int)))
def r14all_t (x : (List (Int × (Int × (List Int))))) : Tr (List (Int × (Int × (List Int)))) true :=
 (LoopD.lp (r14all_l0 x) (r14all_l0_t x) ([],z0) fun r =>
 (.ret r))
abbrev r14all_S : FnS := ⟨(.one (Ty.sl (Ty.prod yi (Ty.prod yi (Ty.sl yi))))),(.one (Ty.sl (Ty.prod yi (Ty.prod yi (Ty.sl yi))))),r14all_pre,r14all⟩
theorem r14all_ok : SpecOk Try.prog 10 (fnSpec r14all_S) := SpecOk.tr r14all_S r14all_t (fn := Try.f10) tt_ok sp_r14find_ok mixed (by kernel_rfl) (ItsOk.nil _ _) (fun x => (LpsOk.tr tt_ok (SpecsOk.ctxI sp_r14find_ok (ItsOk.nil _ _)) mixed 0 (r14all_l0 x) (r14all_l0_t x) LpsOk.nil (by kernel_rfl) fun g s Q => (by kernel_rfl))) (fun x => (by kernel_rfl)) fun x Q => (by kernel_rfl)
def sp_r14all : List (Nat × Ev.Spec) := (10,fnSpec r14all_S) :: sp_r14find
theorem sp_r14all_ok : SpecsOk Try.prog sp_r14all := SpecsOk.add (fn := Try.f10) (by kernel_rfl) r14all_ok sp_r14find_ok
end Go.Proofs.Ytleemdeodmdnkaa
