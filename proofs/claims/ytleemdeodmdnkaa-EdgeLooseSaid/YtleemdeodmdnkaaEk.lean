/- Models of law 14's EdgeLoose. -/
import Derived.Test.YtleemdeodmdnkaaEg
noncomputable section
set_option linter.unusedSectionVars false
set_option linter.unusedVariables false
set_option linter.unusedSimpArgs false
namespace Go.Proofs.Ytleemdeodmdnkaa
open Go Go.Ev Go.Proofs
def big14_l0 (x : (List (Int × (Int × (List Int))))) : LoopD := ⟨[],⟨pvs 25 0 [(0,.v (.one (.full 0))),(3,.v (.one (.i .i64)))],[.row (Ty.prod yi (Ty.prod yi (Ty.sl yi))) 0],0,none,[],[1],[0],[.i],[.l (Ty.prod yi (Ty.prod yi (Ty.sl yi))) x]⟩,[⟨.ret,.ret,⟨pvs 25 0 [(2,.v (.one (.b)))],[],0,none,[],[0],[],[],[.b true]⟩⟩,⟨(.exit 0),.normal,⟨pvs 25 0 [(0,.v (.one (.full 0)))],[.row (Ty.prod yi (Ty.prod yi (Ty.sl yi))) 0],0,none,[],[0],[],[],[.l (Ty.prod yi (Ty.prod yi (Ty.sl yi))) x]⟩⟩]⟩
def big14_l0_step (x : (List (Int × (Int × (List Int))))) (s:Int) : Int ⊕ (Unit ⊕ Unit) :=
 (if (s < (x.length:Int)) then
 (if ((x.length:Int) ≤ (60:Int)) then
 (if (((List.getD x (Int.toNat s) ((0:Int),((0:Int),[]))).2.2.length:Int) > (60:Int)) then
 (Sum.inr (Sum.inl ())) else
 (Sum.inl (w64 (s + (1:Int))))) else
 (Sum.inr (Sum.inr (())))) else
 (Sum.inr (Sum.inr (()))))
def big14_l0_pre (x : (List (Int × (Int × (List Int))))) (s:Int) : Prop :=
 ((s < (x.length:Int)) →
 (((x.length:Int) ≤ (60:Int)) →
 ((((0:Int) ≤ s) ∧ (s < (x.length:Int))) ∧
 (((Int.toNat s) < (List.length x)) ∧
 (((Int.toNat s) < (List.length x)) ∧
 ((Int.toNat s) < (List.length x)))))))
def big14_l0_t (x : (List (Int × (Int × (List Int))))) (s:Int) : Tr (Int ⊕ (Unit ⊕ Unit)) true :=
 (.i10 (s < (nL x))
 (.i10 ((nL x) ≤ (60:Int))
 (.oI3 s x
 (.i00 ((nL (gT x s (z0,(z0,[]))).2.2) > (60:Int))
 (.ret (.inr (Sum.inl ())))
 (.ret (.inl (w1 s)))))
 (.ret (.inr (Sum.inr (())))))
 (.ret (.inr (Sum.inr (())))))
def big14 (x : (List (Int × (Int × (List Int))))) : Bool :=
 (letV (run (big14_l0_step x) (0:Int)) fun r =>
 (Sum.elim (fun a =>
 true) (fun b =>
 (decide ((x.length:Int) > (60:Int)))) r))
def big14_pre (x : (List (Int × (Int × (List Int))))) : Prop :=
 (Term (big14_l0_step x) (big14_l0_pre x) (0:Int))
def big14_t (x : (List (Int × (Int × (List Int))))) : Tr Bool true :=
 (LoopD.lp (big14_l0 x) (big14_l0_t x) z0 fun r =>
 (.s00 r (fun a =>
 (.ret true)) (fun b =>
 (.ret (decide ((nL x) > (60:Int)))))))
abbrev big14_S : FnS := ⟨(.one (Ty.sl (Ty.prod yi (Ty.prod yi (Ty.sl yi))))),(.one Ty.bool),big14_pre,big14⟩
theorem big14_ok : SpecOk Try.prog 9 (fnSpec big14_S) := SpecOk.tr big14_S big14_t (fn := Try.f9) tt_ok sp_in14_ok mixed (by kernel_rfl) (ItsOk.nil _ _) (fun x => (LpsOk.tr tt_ok (SpecsOk.ctxI sp_in14_ok (ItsOk.nil _ _)) mixed 0 (big14_l0 x) (big14_l0_t x) LpsOk.nil (by kernel_rfl) fun g s Q => (by kernel_rfl))) (fun x => (by kernel_rfl)) fun x Q => (by kernel_rfl)
def sp_big14 : List (Nat × Ev.Spec) := (9,fnSpec big14_S) :: sp_in14
theorem sp_big14_ok : SpecsOk Try.prog sp_big14 := SpecsOk.add (fn := Try.f9) (by kernel_rfl) big14_ok sp_in14_ok
def same14_l0 (x : ((List (Int × (Int × (List Int)))) × (List (Int × (Int × (List Int)))))) : LoopD := ⟨[],⟨pvs 55 0 [(0,.v (.one (.full 0))),(1,.v (.one (.full 1))),(5,.v (.one (.i .i64)))],[.row (Ty.prod yi (Ty.prod yi (Ty.sl yi))) 0,.row (Ty.prod yi (Ty.prod yi (Ty.sl yi))) 0],0,none,[],[1,2],[0],[.i],[.l (Ty.prod yi (Ty.prod yi (Ty.sl yi))) x.1,.l (Ty.prod yi (Ty.prod yi (Ty.sl yi))) x.2]⟩,[⟨.ret,.ret,⟨pvs 55 0 [(4,.v (.one (.b)))],[],0,none,[],[0],[],[],[.b false]⟩⟩,⟨(.exit 0),.normal,⟨pvs 55 0 [],[],0,none,[],[],[],[],[]⟩⟩]⟩
def same14_l0_step (x : ((List (Int × (Int × (List Int)))) × (List (Int × (Int × (List Int)))))) (s:Int) : Int ⊕ (Unit ⊕ Unit) :=
 (if (s < (x.1.length:Int)) then
 (if (((List.getD x.1 (Int.toNat s) ((0:Int),((0:Int),[]))).1 != (List.getD x.2 (Int.toNat s) ((0:Int),((0:Int),[]))).1) = true) then
 (Sum.inr (Sum.inl ())) else
 (if (((List.getD x.1 (Int.toNat s) ((0:Int),((0:Int),[]))).2.1 != (List.getD x.2 (Int.toNat s) ((0:Int),((0:Int),[]))).2.1) = true) then
 (Sum.inr (Sum.inl ())) else
 (letV (same01 ((List.getD x.1 (Int.toNat s) ((0:Int),((0:Int),[]))).2.2,(List.getD x.2 (Int.toNat s) ((0:Int),((0:Int),[]))).2.2)) fun y =>
 (if ((!y) = true) then
 (Sum.inr (Sum.inl ())) else
 (Sum.inl (w64 (s + (1:Int)))))))) else
 (Sum.inr (Sum.inr (()))))
def same14_l0_pre (x : ((List (Int × (Int × (List Int)))) × (List (Int × (Int × (List Int)))))) (s:Int) : Prop :=
 ((s < (x.1.length:Int)) →
 ((((0:Int) ≤ s) ∧ (s < (x.1.length:Int))) ∧
 (((Int.toNat s) < (List.length x.1)) ∧
 (((Int.toNat s) < (List.length x.1)) ∧
 (((Int.toNat s) < (List.length x.1)) ∧
 ((((0:Int) ≤ s) ∧ (s < (x.2.length:Int))) ∧
 (((Int.toNat s) < (List.length x.2)) ∧
 (((Int.toNat s) < (List.length x.2)) ∧
 (((Int.toNat s) < (List.length x.2)) ∧
 (¬ (((List.getD x.1 (Int.toNat s) ((0:Int),((0:Int),[]))).1 != (List.getD x.2 (Int.toNat s) ((0:Int),((0:Int),[]))).1) = true) →
 ((((0:Int) ≤ s) ∧ (s < (x.1.length:Int))) ∧
 (((Int.toNat s) < (List.length x.1)) ∧
 (((Int.toNat s) < (List.length x.1)) ∧
 (((Int.toNat s) < (List.length x.1)) ∧
 ((((0:Int) ≤ s) ∧ (s < (x.2.length:Int))) ∧
 (((Int.toNat s) < (List.length x.2)) ∧
 (((Int.toNat s) < (List.length x.2)) ∧
 (((Int.toNat s) < (List.length x.2)) ∧
 (¬ (((List.getD x.1 (Int.toNat s) ((0:Int),((0:Int),[]))).2.1 != (List.getD x.2 (Int.toNat s) ((0:Int),((0:Int),[]))).2.1) = true) →
 ((((0:Int) ≤ s) ∧ (s < (x.1.length:Int))) ∧
 (((Int.toNat s) < (List.length x.1)) ∧
 (((Int.toNat s) < (List.length x.1)) ∧
 (((Int.toNat s) < (List.length x.1)) ∧
 ((((0:Int) ≤ s) ∧ (s < (x.2.length:Int))) ∧
 (((Int.toNat s) < (List.length x.2)) ∧
 (((Int.toNat s) < (List.length x.2)) ∧
 (((Int.toNat s) < (List.length x.2)) ∧
 (same01_pre ((List.getD x.1 (Int.toNat s) ((0:Int),((0:Int),[]))).2.2,(List.getD x.2 (Int.toNat s) ((0:Int),((0:Int),[]))).2.2)))))))))))))))))))))))))))))
def same14_l0_t (x : ((List (Int × (Int × (List Int)))) × (List (Int × (Int × (List Int)))))) (s:Int) : Tr (Int ⊕ (Unit ⊕ Unit)) true :=
 (.i10 (s < (nL x.1))
 (.oI3 s x.1
 (.oI3 s x.2
 (.b01 ((gT x.1 s (z0,(z0,[]))).1 != (gT x.2 s (z0,(z0,[]))).1)
 (.ret (.inr (Sum.inl ())))
 (.oI3 s x.1
 (.oI3 s x.2
 (.b01 ((gT x.1 s (z0,(z0,[]))).2.1 != (gT x.2 s (z0,(z0,[]))).2.1)
 (.ret (.inr (Sum.inl ())))
 (.oI3 s x.1
 (.oI3 s x.2
 (.fn same01_S ((gT x.1 s (z0,(z0,[]))).2.2,(gT x.2 s (z0,(z0,[]))).2.2) fun y =>
 (.b00 (!y)
 (.ret (.inr (Sum.inl ())))
 (.ret (.inl (w1 s)))))))))))))
 (.ret (.inr (Sum.inr (())))))
def same14 (x : ((List (Int × (Int × (List Int)))) × (List (Int × (Int × (List Int)))))) : Bool :=
 (if (((x.1.length:Int) != (x.2.length:Int)) = true) then
 false else
 (letV (run (same14_l0_step x) (0:Int)) fun r =>
 (Sum.elim (fun a =>
 false) (fun b =>
 true) r)))
def same14_pre (x : ((List (Int × (Int × (List Int)))) × (List (Int × (Int × (List Int)))))) : Prop :=
 (¬ (((x.1.length:Int) != (x.2.length:Int)) = true) →
 (Term (same14_l0_step x) (same14_l0_pre x) (0:Int)))
def same14_t (x : ((List (Int × (Int × (List Int)))) × (List (Int × (Int × (List Int)))))) : Tr Bool true :=
 (.b01 ((nL x.1) != (nL x.2))
 (.ret false)
 (LoopD.lp (same14_l0 x) (same14_l0_t x) z0 fun r =>
 (.s00 r (fun a =>
 (.ret false)) (fun b =>
 (.ret true)))))
abbrev same14_S : FnS := ⟨(.pair (.one (Ty.sl (Ty.prod yi (Ty.prod yi (Ty.sl yi))))) (.one (Ty.sl (Ty.prod yi (Ty.prod yi (Ty.sl yi)))))),(.one Ty.bool),same14_pre,same14⟩
theorem same14_ok : SpecOk Try.prog 20 (fnSpec same14_S) := SpecOk.tr same14_S same14_t (fn := Try.f20) tt_ok sp_big14_ok mixed (by kernel_rfl) (ItsOk.nil _ _) (fun x => (LpsOk.tr tt_ok (SpecsOk.ctxI sp_big14_ok (ItsOk.nil _ _)) mixed 0 (same14_l0 x) (same14_l0_t x) LpsOk.nil (by kernel_rfl) fun g s Q => (by kernel_rfl))) (fun x => (by kernel_rfl)) fun x Q => (by kernel_rfl)
def sp_same14 : List (Nat × Ev.Spec) := (20,fnSpec same14_S) :: sp_big14
theorem sp_same14_ok : SpecsOk Try.prog sp_same14 := SpecsOk.add (fn := Try.f20) (by kernel_rfl) same14_ok sp_big14_ok
def edgeLoose_l0 (x : (List (Int × (Int × (List Int))))) : LoopD := ⟨[],⟨pvs 94 0 [(0,.v (.one (.full 0))),(3,.v (.one (.full 1))),(4,.v (.one (.i .i64))),(5,.v (.one (.i .i64)))],[.row (Ty.prod yi (Ty.prod yi (Ty.sl yi))) 0,.row (Ty.prod yi (Ty.prod yi (Ty.sl yi))) 2],0,none,[],[2],[3,0,1],[(.l (Ty.prod yi (Ty.prod yi (Ty.sl yi)))),.i,.i],[.l (Ty.prod yi (Ty.prod yi (Ty.sl yi))) x]⟩,[⟨.ret,.ret,⟨pvs 94 0 [(2,.v (.one (.b)))],[],0,none,[],[0],[],[],[.b false]⟩⟩,⟨(.exit 0),.normal,⟨pvs 94 0 [(3,.v (.one (.full 0))),(4,.v (.one (.i .i64)))],[.row (Ty.prod yi (Ty.prod yi (Ty.sl yi))) 2],0,none,[],[],[1,0],[(.l (Ty.prod yi (Ty.prod yi (Ty.sl yi)))),.i],[]⟩⟩]⟩
def edgeLoose_l0_step (x : (List (Int × (Int × (List Int))))) (s : ((List (Int × (Int × (List Int)))) × I2)) : ((List (Int × (Int × (List Int)))) × I2) ⊕ (Unit ⊕ ((List (Int × (Int × (List Int)))) × Int)) :=
 (if (s.2.2 < (x.length:Int)) then
 (if ((((List.getD x (Int.toNat s.2.2) ((0:Int),((0:Int),[]))).2.2.length:Int) != (1:Int)) = true) then
 (Sum.inl (s.1,(s.2.1,(w64 (s.2.2 + (1:Int)))))) else
 (if (s.2.1 ≥ (s.1.length:Int)) then
 (Sum.inr (Sum.inl ())) else
 (if (((List.getD s.1 (Int.toNat s.2.1) ((0:Int),((0:Int),[]))).1 != (List.getD x (Int.toNat s.2.2) ((0:Int),((0:Int),[]))).1) = true) then
 (Sum.inr (Sum.inl ())) else
 (if (((List.getD s.1 (Int.toNat s.2.1) ((0:Int),((0:Int),[]))).2.1 != (List.getD x (Int.toNat s.2.2) ((0:Int),((0:Int),[]))).2.1) = true) then
 (Sum.inr (Sum.inl ())) else
 (if ((((List.getD s.1 (Int.toNat s.2.1) ((0:Int),((0:Int),[]))).2.2.length:Int) != (1:Int)) = true) then
 (Sum.inr (Sum.inl ())) else
 (if (((List.getD (List.getD s.1 (Int.toNat s.2.1) ((0:Int),((0:Int),[]))).2.2 0 (0:Int)) != (List.getD (List.getD x (Int.toNat s.2.2) ((0:Int),((0:Int),[]))).2.2 0 (0:Int))) = true) then
 (Sum.inr (Sum.inl ())) else
 (Sum.inl (s.1,((w64 (s.2.1 + (1:Int))),(w64 (s.2.2 + (1:Int)))))))))))) else
 (Sum.inr (Sum.inr ((s.1,s.2.1)))))
def edgeLoose_l0_pre (x : (List (Int × (Int × (List Int))))) (s : ((List (Int × (Int × (List Int)))) × I2)) : Prop :=
 ((s.2.2 < (x.length:Int)) →
 ((((0:Int) ≤ s.2.2) ∧ (s.2.2 < (x.length:Int))) ∧
 (((Int.toNat s.2.2) < (List.length x)) ∧
 (((Int.toNat s.2.2) < (List.length x)) ∧
 (((Int.toNat s.2.2) < (List.length x)) ∧
 (¬ ((((List.getD x (Int.toNat s.2.2) ((0:Int),((0:Int),[]))).2.2.length:Int) != (1:Int)) = true) →
 (¬ (s.2.1 ≥ (s.1.length:Int)) →
 ((((0:Int) ≤ s.2.1) ∧ (s.2.1 < (s.1.length:Int))) ∧
 (((Int.toNat s.2.1) < (List.length s.1)) ∧
 (((Int.toNat s.2.1) < (List.length s.1)) ∧
 (((Int.toNat s.2.1) < (List.length s.1)) ∧
 ((((0:Int) ≤ s.2.2) ∧ (s.2.2 < (x.length:Int))) ∧
 (((Int.toNat s.2.2) < (List.length x)) ∧
 (((Int.toNat s.2.2) < (List.length x)) ∧
 (((Int.toNat s.2.2) < (List.length x)) ∧
 (¬ (((List.getD s.1 (Int.toNat s.2.1) ((0:Int),((0:Int),[]))).1 != (List.getD x (Int.toNat s.2.2) ((0:Int),((0:Int),[]))).1) = true) →
 ((((0:Int) ≤ s.2.1) ∧ (s.2.1 < (s.1.length:Int))) ∧
 (((Int.toNat s.2.1) < (List.length s.1)) ∧
 (((Int.toNat s.2.1) < (List.length s.1)) ∧
 (((Int.toNat s.2.1) < (List.length s.1)) ∧
 ((((0:Int) ≤ s.2.2) ∧ (s.2.2 < (x.length:Int))) ∧
 (((Int.toNat s.2.2) < (List.length x)) ∧
 (((Int.toNat s.2.2) < (List.length x)) ∧
 (((Int.toNat s.2.2) < (List.length x)) ∧
 (¬ (((List.getD s.1 (Int.toNat s.2.1) ((0:Int),((0:Int),[]))).2.1 != (List.getD x (Int.toNat s.2.2) ((0:Int),((0:Int),[]))).2.1) = true) →
 ((((0:Int) ≤ s.2.1) ∧ (s.2.1 < (s.1.length:Int))) ∧
 (((Int.toNat s.2.1) < (List.length s.1)) ∧
 (((Int.toNat s.2.1) < (List.length s.1)) ∧
 (((Int.toNat s.2.1) < (List.length s.1)) ∧
 (¬ ((((List.getD s.1 (Int.toNat s.2.1) ((0:Int),((0:Int),[]))).2.2.length:Int) != (1:Int)) = true) →
 ((((0:Int) ≤ s.2.1) ∧ (s.2.1 < (s.1.length:Int))) ∧
 (((Int.toNat s.2.1) < (List.length s.1)) ∧
 (((Int.toNat s.2.1) < (List.length s.1)) ∧
 (((Int.toNat s.2.1) < (List.length s.1)) ∧
 (((0:Int) < ((List.getD s.1 (Int.toNat s.2.1) ((0:Int),((0:Int),[]))).2.2.length:Int)) ∧
 ((0 < (List.length (List.getD s.1 (Int.toNat s.2.1) ((0:Int),((0:Int),[]))).2.2)) ∧
 ((0 < (List.length (List.getD s.1 (Int.toNat s.2.1) ((0:Int),((0:Int),[]))).2.2)) ∧
 ((((0:Int) ≤ s.2.2) ∧ (s.2.2 < (x.length:Int))) ∧
 (((Int.toNat s.2.2) < (List.length x)) ∧
 (((Int.toNat s.2.2) < (List.length x)) ∧
 (((Int.toNat s.2.2) < (List.length x)) ∧
 (((0:Int) < ((List.getD x (Int.toNat s.2.2) ((0:Int),((0:Int),[]))).2.2.length:Int)) ∧
 ((0 < (List.length (List.getD x (Int.toNat s.2.2) ((0:Int),((0:Int),[]))).2.2)) ∧
 (0 < (List.length (List.getD x (Int.toNat s.2.2) ((0:Int),((0:Int),[]))).2.2)))))))))))))))))))))))))))))))))))))))))))))
def edgeLoose_l0_t (x : (List (Int × (Int × (List Int))))) (s : ((List (Int × (Int × (List Int)))) × I2)) : Tr (((List (Int × (Int × (List Int)))) × I2) ⊕ (Unit ⊕ ((List (Int × (Int × (List Int)))) × Int))) true :=
 (.i10 (s.2.2 < (nL x))
 (.oI3 s.2.2 x
 (.b01 ((nL (gT x s.2.2 (z0,(z0,[]))).2.2) != z1)
 (.ret (.inl (s.1,(s.2.1,(w1 s.2.2)))))
 (.i01 (s.2.1 ≥ (nL s.1))
 (.ret (.inr (Sum.inl ())))
 (.oI3 s.2.1 s.1
 (.oI3 s.2.2 x
 (.b01 ((gT s.1 s.2.1 (z0,(z0,[]))).1 != (gT x s.2.2 (z0,(z0,[]))).1)
 (.ret (.inr (Sum.inl ())))
 (.oI3 s.2.1 s.1
 (.oI3 s.2.2 x
 (.b01 ((gT s.1 s.2.1 (z0,(z0,[]))).2.1 != (gT x s.2.2 (z0,(z0,[]))).2.1)
 (.ret (.inr (Sum.inl ())))
 (.oI3 s.2.1 s.1
 (.b01 ((nL (gT s.1 s.2.1 (z0,(z0,[]))).2.2) != z1)
 (.ret (.inr (Sum.inl ())))
 (.oI3 s.2.1 s.1
 (.og (true && (decide (z0 < (nL (gT s.1 s.2.1 (z0,(z0,[]))).2.2)))) (z0 < (nL (gT s.1 s.2.1 (z0,(z0,[]))).2.2)) (fun h => (and_t rfl (decide_eq_true h)))
 (.od (0 < (List.length (gT s.1 s.2.1 (z0,(z0,[]))).2.2))
 (.od (0 < (List.length (gT s.1 s.2.1 (z0,(z0,[]))).2.2))
 (.oI3 s.2.2 x
 (.og (true && (decide (z0 < (nL (gT x s.2.2 (z0,(z0,[]))).2.2)))) (z0 < (nL (gT x s.2.2 (z0,(z0,[]))).2.2)) (fun h => (and_t rfl (decide_eq_true h)))
 (.od (0 < (List.length (gT x s.2.2 (z0,(z0,[]))).2.2))
 (.od (0 < (List.length (gT x s.2.2 (z0,(z0,[]))).2.2))
 (.b00 ((List.getD (gT s.1 s.2.1 (z0,(z0,[]))).2.2 0 z0) != (List.getD (gT x s.2.2 (z0,(z0,[]))).2.2 0 z0))
 (.ret (.inr (Sum.inl ())))
 (.ret (.inl (s.1,((w1 s.2.1),(w1 s.2.2)))))))))))))))))))))))))
 (.ret (.inr (Sum.inr ((s.1,s.2.1))))))
def edgeLoose (x : (List (Int × (Int × (List Int))))) : Bool :=
 (letV (big14 x) fun y =>
 (if (y = true) then
 true else
 (letV (eloose x) fun y_1 =>
 (letV (run (edgeLoose_l0_step x) (y_1,((0:Int),(0:Int)))) fun r =>
 (Sum.elim (fun a =>
 false) (fun b =>
 (letV (edged false) fun y_2 =>
 (if (y_2 = true) then
 (if ((b.2 == (b.1.length:Int)) = true) then
 (letV (eloose b.1) fun y_3 =>
 (letV (same14 (y_3,b.1)) fun y_4 =>
 y_4)) else
 false) else
 false))) r)))))
def edgeLoose_pre (x : (List (Int × (Int × (List Int))))) : Prop :=
 ((big14_pre x) ∧
 letP (big14 x) fun y =>
 (¬ (y = true) →
 ((eloose_pre x) ∧
 letP (eloose x) fun y_1 =>
 (Term (edgeLoose_l0_step x) (edgeLoose_l0_pre x) (y_1,((0:Int),(0:Int))) ∧
 letP (run (edgeLoose_l0_step x) (y_1,((0:Int),(0:Int)))) fun r =>
 (cS r (fun a =>
 True) (fun b =>
 ((edged_pre false) ∧
 letP (edged false) fun y_2 =>
 ((y_2 = true) →
 (((b.2 == (b.1.length:Int)) = true) →
 ((eloose_pre b.1) ∧
 letP (eloose b.1) fun y_3 =>
 (same14_pre (y_3,b.1))))))))))))
def edgeLoose_t (x : (List (Int × (Int × (List Int))))) : Tr Bool true :=
 (.fn big14_S x fun y =>
 (.b01 y
 (.ret true)
 (.fn eloose_S x fun y_1 =>
 (LoopD.lp (edgeLoose_l0 x) (edgeLoose_l0_t x) (y_1,zz2) fun r =>
 (.s01 r (fun a =>
 (.ret false)) (fun b =>
 (.fn edged_S false fun y_2 =>
 (.b10 y_2
 (.b10 (b.2 == (nL b.1))
 (.fn eloose_S b.1 fun y_3 =>
 (.fn same14_S (y_3,b.1) fun y_4 =>
 (.ret y_4)))
 (.ret false))
 (.ret false)))))))))
abbrev edgeLoose_S : FnS := ⟨(.one (Ty.sl (Ty.prod yi (Ty.prod yi (Ty.sl yi))))),(.one Ty.bool),edgeLoose_pre,edgeLoose⟩
theorem edgeLoose_ok : SpecOk Try.prog 7 (fnSpec edgeLoose_S) := SpecOk.tr edgeLoose_S edgeLoose_t (fn := Try.f7) tt_ok sp_same14_ok mixed (by kernel_rfl) (ItsOk.nil _ _) (fun x => (LpsOk.tr tt_ok (SpecsOk.ctxI sp_same14_ok (ItsOk.nil _ _)) mixed 0 (edgeLoose_l0 x) (edgeLoose_l0_t x) LpsOk.nil (by kernel_rfl) fun g s Q => (by kernel_rfl))) (fun x => (by kernel_rfl)) fun x Q => (by kernel_rfl)
end Go.Proofs.Ytleemdeodmdnkaa
