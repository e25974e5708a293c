/- Models of the references of layer 15: charts. -/
import Derived.Test.YtkbmjhabfjgoiaaGreatCi
noncomputable section
set_option linter.unusedSectionVars false
set_option linter.unusedVariables false
set_option linter.unusedSimpArgs false
namespace Go.Proofs.YtkbmjhabfjgoiaaGreat
open Go Go.Ev Go.Proofs
def r15faces (x : (((List I3) × ((List I2) × ((List I3) × (List I9)))) × ((Int × (Int × (List Int))) × Int))) : Bool :=
 (letV (r15facing (x.1,x.2.2)) fun y =>
 (if (y.2.2 = true) then
 (if ((y.1 == x.2.1.1) = true) then
 (y.2.1 == x.2.1.2.1) else
 false) else
 false))
def r15faces_pre (x : (((List I3) × ((List I2) × ((List I3) × (List I9)))) × ((Int × (Int × (List Int))) × Int))) : Prop :=
 (r15facing_pre (x.1,x.2.2))
def r15faces_t (x : (((List I3) × ((List I2) × ((List I3) × (List I9)))) × ((Int × (Int × (List Int))) × Int))) : Tr Bool true :=
 (.fn r15facing_S (x.1,x.2.2) fun y =>
 (.b00 y.2.2
 (.b00 (y.1 == x.2.1.1)
 (.ret (y.2.1 == x.2.1.2.1))
 (.ret false))
 (.ret false)))
abbrev r15faces_S : FnS := ⟨(.pair (.agg (Ty.prod (Ty.sl yy3) (Ty.prod (Ty.sl yy2) (Ty.prod (Ty.sl yy3) (Ty.sl yy9))))) (.pair (.agg (Ty.prod yi (Ty.prod yi (Ty.sl yi)))) (.one yi))),(.one Ty.bool),r15faces_pre,r15faces⟩
theorem r15faces_ok : SpecOk Tryz.prog 38 (fnSpec r15faces_S) := SpecOk.tr r15faces_S r15faces_t (fn := Tryz.f38) tt_ok sp_r8same_ok mixed (by kernel_rfl) (ItsOk.nil _ _) (fun x => LpsOk.nil) (fun x => (by kernel_rfl)) fun x Q => (by kernel_rfl)
def sp_r15faces : List (Nat × Ev.Spec) := (38,fnSpec r15faces_S) :: sp_r8same
theorem sp_r15faces_ok : SpecsOk Tryz.prog sp_r15faces := SpecsOk.add (fn := Tryz.f38) (by kernel_rfl) r15faces_ok sp_r8same_ok
def r15in_l0 (x : ((List Int) × Int)) : LoopD := ⟨[],⟨pvs 18 0 [(0,.v (.one (.full 0))),(1,.v (.one (.i .i64))),(5,.v (.one (.i .i64)))],[.row yi 0],0,none,[],[0,2],[1],[.i],[.i x.2,.l yi x.1]⟩,[⟨.ret,.ret,⟨pvs 18 0 [(4,.v (.one (.b)))],[],0,none,[],[0],[],[],[.b true]⟩⟩,⟨(.exit 0),.normal,⟨pvs 18 0 [],[],0,none,[],[],[],[],[]⟩⟩]⟩
def r15in_l0_step (x : ((List Int) × Int)) (s:Int) : Int ⊕ (Unit ⊕ Unit) :=
 (if (s < (x.1.length:Int)) then
 (if (((List.getD x.1 (Int.toNat s) (0:Int)) == x.2) = true) then
 (Sum.inr (Sum.inl ())) else
 (Sum.inl (w64 (s + (1:Int))))) else
 (Sum.inr (Sum.inr (()))))
def r15in_l0_pre (x : ((List Int) × Int)) (s:Int) : Prop :=
 ((s < (x.1.length:Int)) →
 ((((0:Int) ≤ s) ∧ (s < (x.1.length:Int))) ∧
 (((Int.toNat s) < (List.length x.1)) ∧
 ((Int.toNat s) < (List.length x.1)))))
def r15in_l0_t (x : ((List Int) × Int)) (s:Int) : Tr (Int ⊕ (Unit ⊕ Unit)) true :=
 (.i10 (s < (nL x.1))
 (.oI2 s x.1
 (.b00 ((gI x.1 s) == x.2)
 (.ret (.inr (Sum.inl ())))
 (.ret (.inl (w1 s)))))
 (.ret (.inr (Sum.inr (())))))
def r15in (x : ((List Int) × Int)) : Bool :=
 (letV (run (r15in_l0_step x) (0:Int)) fun r =>
 (Sum.elim (fun a =>
 true) (fun b =>
 false) r))
def r15in_pre (x : ((List Int) × Int)) : Prop :=
 (Term (r15in_l0_step x) (r15in_l0_pre x) (0:Int))
def r15in_t (x : ((List Int) × Int)) : Tr Bool true :=
 (LoopD.lp (r15in_l0 x) (r15in_l0_t x) z0 fun r =>
 (.s00 r (fun a =>
 (.ret true)) (fun b =>
 (.ret false))))
abbrev r15in_S : FnS := ⟨(.pair (.one (Ty.sl yi)) (.one yi)),(.one Ty.bool),r15in_pre,r15in⟩
theorem r15in_ok : SpecOk Tryz.prog 39 (fnSpec r15in_S) := SpecOk.tr r15in_S r15in_t (fn := Tryz.f39) tt_ok sp_r15faces_ok mixed (by kernel_rfl) (ItsOk.nil _ _) (fun x => (LpsOk.tr tt_ok (SpecsOk.ctxI sp_r15faces_ok (ItsOk.nil _ _)) mixed 0 (r15in_l0 x) (r15in_l0_t x) LpsOk.nil (by kernel_rfl) fun g s Q => (by kernel_rfl))) (fun x => (by kernel_rfl)) fun x Q => (by kernel_rfl)
def sp_r15in : List (Nat × Ev.Spec) := (39,fnSpec r15in_S) :: sp_r15faces
theorem sp_r15in_ok : SpecsOk Tryz.prog sp_r15in := SpecsOk.add (fn := Tryz.f39) (by kernel_rfl) r15in_ok sp_r15faces_ok
def r15fits_l0 (x : (((List I3) × ((List I2) × ((List I3) × (List I9)))) × ((Int × (Int × (List Int))) × Int))) : LoopD := ⟨[],⟨pvs 92 0 [(3,.v (.one (.ptr 0 0))),(4,.v (.one (.ptr 5 0))),(7,.v (.one (.ptr 7 0))),(9,.v (.one (.full 8))),(11,.v (.one (.b))),(12,.v (.one (.i .i64)))],[.cells [.full 1,.full 2,.full 3,.full 4] 26,.row yy3 0,.row yy2 0,.row yy3 0,.row yy9 0,.cells [.i .i64,.i .i64,.full 6] 29,.row yi 0,.cells [.i .i64,.i .i64,.i .i64,.i .i64,.i .i64,.i .i64] 37,.row yi 2],0,none,[],[2,3,4,5,6,7,8],[9,10,11,12,13,14,15,0,1],[.i,.i,.i,.i,.i,.i,(.l yi),.b,.i],[.l yy3 x.1.1,.l yy2 x.1.2.1,.l yy3 x.1.2.2.1,.l yy9 x.1.2.2.2,.i x.2.1.1,.i x.2.1.2.1,.l yi x.2.1.2.2]⟩,[⟨.ret,.ret,⟨pvs 92 0 [(6,.v (.one (.b)))],[],0,none,[],[0],[],[],[.b false]⟩⟩,⟨(.exit 0),.normal,⟨pvs 92 0 [(11,.v (.one (.b)))],[],0,none,[],[],[0],[.b],[]⟩⟩]⟩
def r15fits_l0_step (x : (((List I3) × ((List I2) × ((List I3) × (List I9)))) × ((Int × (Int × (List Int))) × Int))) (s : (Int × (Int × (Int × (Int × (Int × (Int × ((List Int) × (Bool × Int))))))))) : (Int × (Int × (Int × (Int × (Int × (Int × ((List Int) × (Bool × Int)))))))) ⊕ (Unit ⊕ Bool) :=
 (if (s.2.2.2.2.2.2.2.2 < (x.2.1.2.2.length:Int)) then
 (letV (r15faces (x.1,(x.2.1,(List.getD x.2.1.2.2 (Int.toNat s.2.2.2.2.2.2.2.2) (0:Int))))) fun y =>
 (if ((!y) = true) then
 (Sum.inr (Sum.inl ())) else
 (letV (r15shadow (x.1,((List.getD x.2.1.2.2 (Int.toNat s.2.2.2.2.2.2.2.2) (0:Int)),x.2.1.1))) fun y_1 =>
 (letV (r10overlap (((s.1,s.2.1),((s.2.2.1,s.2.2.2.1),(s.2.2.2.2.1,s.2.2.2.2.2.1))),y_1.1)) fun y_2 =>
 (if (y_2.1 = true) then
 (Sum.inr (Sum.inl ())) else
 (if (s.2.2.2.2.2.2.2.1 = true) then
 (Sum.inl (s.1,(s.2.1,(s.2.2.1,(s.2.2.2.1,(s.2.2.2.2.1,(s.2.2.2.2.2.1,(s.2.2.2.2.2.2.1,(true,(w64 (s.2.2.2.2.2.2.2.2 + (1:Int)))))))))))) else
 (letV (r15in (s.2.2.2.2.2.2.1,(List.getD x.2.1.2.2 (Int.toNat s.2.2.2.2.2.2.2.2) (0:Int)))) fun y_3 =>
 (Sum.inl (s.1,(s.2.1,(s.2.2.1,(s.2.2.2.1,(s.2.2.2.2.1,(s.2.2.2.2.2.1,(s.2.2.2.2.2.2.1,(y_3,(w64 (s.2.2.2.2.2.2.2.2 + (1:Int))))))))))))))))))) else
 (Sum.inr (Sum.inr (s.2.2.2.2.2.2.2.1))))
def r15fits_l0_pre (x : (((List I3) × ((List I2) × ((List I3) × (List I9)))) × ((Int × (Int × (List Int))) × Int))) (s : (Int × (Int × (Int × (Int × (Int × (Int × ((List Int) × (Bool × Int))))))))) : Prop :=
 ((s.2.2.2.2.2.2.2.2 < (x.2.1.2.2.length:Int)) →
 ((((0:Int) ≤ s.2.2.2.2.2.2.2.2) ∧ (s.2.2.2.2.2.2.2.2 < (x.2.1.2.2.length:Int))) ∧
 (((Int.toNat s.2.2.2.2.2.2.2.2) < (List.length x.2.1.2.2)) ∧
 (((Int.toNat s.2.2.2.2.2.2.2.2) < (List.length x.2.1.2.2)) ∧
 ((r15faces_pre (x.1,(x.2.1,(List.getD x.2.1.2.2 (Int.toNat s.2.2.2.2.2.2.2.2) (0:Int))))) ∧
 letP (r15faces (x.1,(x.2.1,(List.getD x.2.1.2.2 (Int.toNat s.2.2.2.2.2.2.2.2) (0:Int))))) fun y =>
 (¬ ((!y) = true) →
 ((((0:Int) ≤ s.2.2.2.2.2.2.2.2) ∧ (s.2.2.2.2.2.2.2.2 < (x.2.1.2.2.length:Int))) ∧
 (((Int.toNat s.2.2.2.2.2.2.2.2) < (List.length x.2.1.2.2)) ∧
 (((Int.toNat s.2.2.2.2.2.2.2.2) < (List.length x.2.1.2.2)) ∧
 ((r15shadow_pre (x.1,((List.getD x.2.1.2.2 (Int.toNat s.2.2.2.2.2.2.2.2) (0:Int)),x.2.1.1))) ∧
 letP (r15shadow (x.1,((List.getD x.2.1.2.2 (Int.toNat s.2.2.2.2.2.2.2.2) (0:Int)),x.2.1.1))) fun y_1 =>
 ((r10overlap_pre (((s.1,s.2.1),((s.2.2.1,s.2.2.2.1),(s.2.2.2.2.1,s.2.2.2.2.2.1))),y_1.1)) ∧
 letP (r10overlap (((s.1,s.2.1),((s.2.2.1,s.2.2.2.1),(s.2.2.2.2.1,s.2.2.2.2.2.1))),y_1.1)) fun y_2 =>
 (¬ (y_2.1 = true) →
 (¬ (s.2.2.2.2.2.2.2.1 = true) →
 ((((0:Int) ≤ s.2.2.2.2.2.2.2.2) ∧ (s.2.2.2.2.2.2.2.2 < (x.2.1.2.2.length:Int))) ∧
 (((Int.toNat s.2.2.2.2.2.2.2.2) < (List.length x.2.1.2.2)) ∧
 (((Int.toNat s.2.2.2.2.2.2.2.2) < (List.length x.2.1.2.2)) ∧
 (r15in_pre (s.2.2.2.2.2.2.1,(List.getD x.2.1.2.2 (Int.toNat s.2.2.2.2.2.2.2.2) (0:Int))))))))))))))))))))
def r15fits_l0_t (x : (((List I3) × ((List I2) × ((List I3) × (List I9)))) × ((Int × (Int × (List Int))) × Int))) (s : (Int × (Int × (Int × (Int × (Int × (Int × ((List Int) × (Bool × Int))))))))) : Tr ((Int × (Int × (Int × (Int × (Int × (Int × ((List Int) × (Bool × Int)))))))) ⊕ (Unit ⊕ Bool)) true :=
 (.i10 (s.2.2.2.2.2.2.2.2 < (nL x.2.1.2.2))
 (.oI2 s.2.2.2.2.2.2.2.2 x.2.1.2.2
 (.fn r15faces_S (x.1,(x.2.1,(gI x.2.1.2.2 s.2.2.2.2.2.2.2.2))) fun y =>
 (.b01 (!y)
 (.ret (.inr (Sum.inl ())))
 (.oI2 s.2.2.2.2.2.2.2.2 x.2.1.2.2
 (.fn r15shadow_S (x.1,((gI x.2.1.2.2 s.2.2.2.2.2.2.2.2),x.2.1.1)) fun y_1 =>
 (.fn r10overlap_S (((s.1,s.2.1),((s.2.2.1,s.2.2.2.1),(s.2.2.2.2.1,s.2.2.2.2.2.1))),y_1.1) fun y_2 =>
 (.b01 y_2.1
 (.ret (.inr (Sum.inl ())))
 (.b01 s.2.2.2.2.2.2.2.1
 (.ret (.inl (s.1,(s.2.1,(s.2.2.1,(s.2.2.2.1,(s.2.2.2.2.1,(s.2.2.2.2.2.1,(s.2.2.2.2.2.2.1,(true,(w1 s.2.2.2.2.2.2.2.2)))))))))))
 (.oI2 s.2.2.2.2.2.2.2.2 x.2.1.2.2
 (.fn r15in_S (s.2.2.2.2.2.2.1,(gI x.2.1.2.2 s.2.2.2.2.2.2.2.2)) fun y_3 =>
 (.ret (.inl (s.1,(s.2.1,(s.2.2.1,(s.2.2.2.1,(s.2.2.2.2.1,(s.2.2.2.2.2.1,(s.2.2.2.2.2.2.1,(y_3,(w1 s.2.2.2.2.2.2.2.2)))))))))))))))))))))
 (.ret (.inr (Sum.inr (s.2.2.2.2.2.2.2.1)))))
def r15fits (x : (((List I3) × ((List I2) × ((List I3) × (List I9)))) × ((Int × (Int × (List Int))) × Int))) : Bool :=
 (letV (r15faces x) fun y =>
 (if ((!y) = true) then
 false else
 (letV (r15in (x.2.1.2.2,x.2.2)) fun y_1 =>
 (if (y_1 = true) then
 false else
 (letV (r15shadow (x.1,(x.2.2,x.2.1.1))) fun y_2 =>
 (letV (r14next (x.1,x.2.2)) fun y_3 =>
 (letV (run (r15fits_l0_step x) (y_2.1.1.1,(y_2.1.1.2,(y_2.1.2.1.1,(y_2.1.2.1.2,(y_2.1.2.2.1,(y_2.1.2.2.2,(y_3.1,(((x.2.1.2.2.length:Int) == (0:Int)),(0:Int)))))))))) fun r =>
 (Sum.elim (fun a =>
 false) (fun b =>
 b) r))))))))
def r15fits_pre (x : (((List I3) × ((List I2) × ((List I3) × (List I9)))) × ((Int × (Int × (List Int))) × Int))) : Prop :=
 ((r15faces_pre x) ∧
 letP (r15faces x) fun y =>
 (¬ ((!y) = true) →
 ((r15in_pre (x.2.1.2.2,x.2.2)) ∧
 letP (r15in (x.2.1.2.2,x.2.2)) fun y_1 =>
 (¬ (y_1 = true) →
 ((r15shadow_pre (x.1,(x.2.2,x.2.1.1))) ∧
 letP (r15shadow (x.1,(x.2.2,x.2.1.1))) fun y_2 =>
 ((r14next_pre (x.1,x.2.2)) ∧
 letP (r14next (x.1,x.2.2)) fun y_3 =>
 (Term (r15fits_l0_step x) (r15fits_l0_pre x) (y_2.1.1.1,(y_2.1.1.2,(y_2.1.2.1.1,(y_2.1.2.1.2,(y_2.1.2.2.1,(y_2.1.2.2.2,(y_3.1,(((x.2.1.2.2.length:Int) == (0:Int)),(0:Int))))))))))))))))
def r15fits_t (x : (((List I3) × ((List I2) × ((List I3) × (List I9)))) × ((Int × (Int × (List Int))) × Int))) : Tr Bool true :=
 (.fn r15faces_S x fun y =>
 (.b01 (!y)
 (.ret false)
 (.fn r15in_S (x.2.1.2.2,x.2.2) fun y_1 =>
 (.b01 y_1
 (.ret false)
 (.fn r15shadow_S (x.1,(x.2.2,x.2.1.1)) fun y_2 =>
 (.fn r14next_S (x.1,x.2.2) fun y_3 =>
 (LoopD.lp (r15fits_l0 x) (r15fits_l0_t x) (y_2.1.1.1,(y_2.1.1.2,(y_2.1.2.1.1,(y_2.1.2.1.2,(y_2.1.2.2.1,(y_2.1.2.2.2,(y_3.1,(((nL x.2.1.2.2) == z0),z0)))))))) fun r =>
 (.s00 r (fun a =>
 (.ret false)) (fun b =>
 (.ret b))))))))))
abbrev r15fits_S : FnS := ⟨(.pair (.agg (Ty.prod (Ty.sl yy3) (Ty.prod (Ty.sl yy2) (Ty.prod (Ty.sl yy3) (Ty.sl yy9))))) (.pair (.agg (Ty.prod yi (Ty.prod yi (Ty.sl yi)))) (.one yi))),(.one Ty.bool),r15fits_pre,r15fits⟩
theorem r15fits_ok : SpecOk Tryz.prog 14 (fnSpec r15fits_S) := SpecOk.tr r15fits_S r15fits_t (fn := Tryz.f14) tt_ok sp_r15in_ok mixed (by kernel_rfl) (ItsOk.nil _ _) (fun x => (LpsOk.tr tt_ok (SpecsOk.ctxI sp_r15in_ok (ItsOk.nil _ _)) mixed 0 (r15fits_l0 x) (r15fits_l0_t x) LpsOk.nil (by kernel_rfl) fun g s Q => (by kernel_rfl))) (fun x => (by kernel_rfl)) fun x Q => (by kernel_rfl)
def sp_r15fits : List (Nat × Ev.Spec) := (14,fnSpec r15fits_S) :: sp_r15in
theorem sp_r15fits_ok : SpecsOk Tryz.prog sp_r15fits := SpecsOk.add (fn := Tryz.f14) (by kernel_rfl) r15fits_ok sp_r15in_ok
def r15least_l0 (x : (((List I3) × ((List I2) × ((List I3) × (List I9)))) × ((Int × (Int × (List Int))) × (List Bool)))) : LoopD := ⟨[],⟨pvs 27 0 [(2,.v (.one (.full 0))),(3,.v (.one (.ptr 1 0))),(4,.v (.one (.ptr 6 0))),(7,.v (.one (.i .i64)))],[.row Ty.bool 0,.cells [.full 2,.full 3,.full 4,.full 5] 26,.row yy3 0,.row yy2 0,.row yy3 0,.row yy9 0,.cells [.i .i64,.i .i64,.full 7] 29,.row yi 0],0,none,[],[1,2,3,4,5,6,7,8],[0],[.i],[.l Ty.bool x.2.2,.l yy3 x.1.1,.l yy2 x.1.2.1,.l yy3 x.1.2.2.1,.l yy9 x.1.2.2.2,.i x.2.1.1,.i x.2.1.2.1,.l yi x.2.1.2.2]⟩,[⟨.ret,.ret,⟨pvs 27 0 [(6,.v (.one (.i .i64)))],[],0,none,[],[],[0],[.i],[]⟩⟩,⟨(.exit 0),.normal,⟨pvs 27 0 [],[],0,none,[],[],[],[],[]⟩⟩]⟩
def r15least_l0_step (x : (((List I3) × ((List I2) × ((List I3) × (List I9)))) × ((Int × (Int × (List Int))) × (List Bool)))) (s:Int) : Int ⊕ (Int ⊕ Unit) :=
 (if (s < (x.1.2.2.2.length:Int)) then
 (if ((!(List.getD x.2.2 (Int.toNat s) false)) = true) then
 (letV (r15fits (x.1,(x.2.1,s))) fun y =>
 (if (y = true) then
 (Sum.inr (Sum.inl s)) else
 (Sum.inl (w64 (s + (1:Int)))))) else
 (Sum.inl (w64 (s + (1:Int))))) else
 (Sum.inr (Sum.inr (()))))
def r15least_l0_pre (x : (((List I3) × ((List I2) × ((List I3) × (List I9)))) × ((Int × (Int × (List Int))) × (List Bool)))) (s:Int) : Prop :=
 ((s < (x.1.2.2.2.length:Int)) →
 ((((0:Int) ≤ s) ∧ (s < (x.2.2.length:Int))) ∧
 (((Int.toNat s) < (List.length x.2.2)) ∧
 (((Int.toNat s) < (List.length x.2.2)) ∧
 (((!(List.getD x.2.2 (Int.toNat s) false)) = true) →
 (r15fits_pre (x.1,(x.2.1,s))))))))
def r15least_l0_t (x : (((List I3) × ((List I2) × ((List I3) × (List I9)))) × ((Int × (Int × (List Int))) × (List Bool)))) (s:Int) : Tr (Int ⊕ (Int ⊕ Unit)) true :=
 (.i10 (s < (nL x.1.2.2.2))
 (.oI2 s x.2.2
 (.b10 (!(gT x.2.2 s false))
 (.fn r15fits_S (x.1,(x.2.1,s)) fun y =>
 (.b00 y
 (.ret (.inr (Sum.inl s)))
 (.ret (.inl (w1 s)))))
 (.ret (.inl (w1 s)))))
 (.ret (.inr (Sum.inr (())))))
def r15least (x : (((List I3) × ((List I2) × ((List I3) × (List I9)))) × ((Int × (Int × (List Int))) × (List Bool)))) : Int :=
 (letV (run (r15least_l0_step x) (0:Int)) fun r =>
 (Sum.elim (fun a =>
 a) (fun b =>
 (-1:Int)) r))
def r15least_pre (x : (((List I3) × ((List I2) × ((List I3) × (List I9)))) × ((Int × (Int × (List Int))) × (List Bool)))) : Prop :=
 (Term (r15least_l0_step x) (r15least_l0_pre x) (0:Int))
def r15least_t (x : (((List I3) × ((List I2) × ((List I3) × (List I9)))) × ((Int × (Int × (List Int))) × (List Bool)))) : Tr Int true :=
 (LoopD.lp (r15least_l0 x) (r15least_l0_t x) z0 fun r =>
 (.s00 r (fun a =>
 (.ret a)) (fun b =>
 (.ret (-1:Int)))))
abbrev r15least_S : FnS := ⟨(.pair (.agg (Ty.prod (Ty.sl yy3) (Ty.prod (Ty.sl yy2) (Ty.prod (Ty.sl yy3) (Ty.sl yy9))))) (.pair (.agg (Ty.prod yi (Ty.prod yi (Ty.sl yi)))) (.one (Ty.sl Ty.bool)))),(.one yi),r15least_pre,r15least⟩
theorem r15least_ok : SpecOk Tryz.prog 33 (fnSpec r15least_S) := SpecOk.tr r15least_S r15least_t (fn := Tryz.f33) tt_ok sp_r15fits_ok mixed (by kernel_rfl) (ItsOk.nil _ _) (fun x => (LpsOk.tr tt_ok (SpecsOk.ctxI sp_r15fits_ok (ItsOk.nil _ _)) mixed 0 (r15least_l0 x) (r15least_l0_t x) LpsOk.nil (by kernel_rfl) fun g s Q => (by kernel_rfl))) (fun x => (by kernel_rfl)) fun x Q => (by kernel_rfl)
def sp_r15least : List (Nat × Ev.Spec) := (33,fnSpec r15least_S) :: sp_r15fits
theorem sp_r15least_ok : SpecsOk Tryz.prog sp_r15least := SpecsOk.add (fn := Tryz.f33) (by kernel_rfl) r15least_ok sp_r15fits_ok
def r15grow_l2 (x : ((List I3) × ((List I2) × ((List I3) × (List I9))))) : LoopD := ⟨[],⟨pvs 65 0 [(1,.v (.one (.ptr 0 0))),(4,.v (.one (.full 5))),(5,.v (.one (.full 6))),(6,.v (.one (.i .i64))),(10,.v (.one (.ptr 7 0))),(11,.v (.one (.i .i64)))],[.cells [.full 1,.full 2,.full 3,.full 4] 26,.row yy3 0,.row yy2 0,.row yy3 0,.row yy9 0,.row Ty.bool 2,.row (Ty.prod yi (Ty.prod yi (Ty.sl yi))) 2,.cells [.i .i64,.i .i64,.full 8] 29,.row yi 2],0,none,[],[2,3,4,5],[6,7,0,8,9,10,1],[(.l Ty.bool),(.l (Ty.prod yi (Ty.prod yi (Ty.sl yi)))),.i,.i,.i,(.l yi),.i],[.l yy3 x.1,.l yy2 x.2.1,.l yy3 x.2.2.1,.l yy9 x.2.2.2]⟩,[⟨(.exit 2),.normal,⟨pvs 65 0 [(1,.v (.one (.ptr 0 0))),(4,.v (.one (.full 5))),(5,.v (.one (.full 6))),(6,.v (.one (.i .i64))),(10,.v (.one (.ptr 7 0)))],[.cells [.full 1,.full 2,.full 3,.full 4] 26,.row yy3 0,.row yy2 0,.row yy3 0,.row yy9 0,.row Ty.bool 2,.row (Ty.prod yi (Ty.prod yi (Ty.sl yi))) 2,.cells [.i .i64,.i .i64,.full 8] 29,.row yi 2],0,none,[],[1,2,3,4],[5,6,0,7,8,9],[(.l Ty.bool),(.l (Ty.prod yi (Ty.prod yi (Ty.sl yi)))),.i,.i,.i,(.l yi)],[.l yy3 x.1,.l yy2 x.2.1,.l yy3 x.2.2.1,.l yy9 x.2.2.2]⟩⟩]⟩
def r15grow_l2_step (x : ((List I3) × ((List I2) × ((List I3) × (List I9))))) (s : ((List Bool) × ((List (Int × (Int × (List Int)))) × (Int × (Int × (Int × ((List Int) × Int))))))) : ((List Bool) × ((List (Int × (Int × (List Int)))) × (Int × (Int × (Int × ((List Int) × Int)))))) ⊕ ((List Bool) × ((List (Int × (Int × (List Int)))) × (Int × (Int × (Int × (List Int)))))) :=
 (if (s.2.2.2.2.2.2 ≥ (0:Int)) then
 (letV (List.set s.1 (Int.toNat s.2.2.2.2.2.2) true) fun y =>
 (letV (r15least (x,((s.2.2.2.1,(s.2.2.2.2.1,(s.2.2.2.2.2.1 ++ [s.2.2.2.2.2.2]))),y))) fun y_1 =>
 (Sum.inl (y,(s.2.1,(s.2.2.1,(s.2.2.2.1,(s.2.2.2.2.1,((s.2.2.2.2.2.1 ++ [s.2.2.2.2.2.2]),y_1))))))))) else
 (Sum.inr ((s.1,(s.2.1,(s.2.2.1,(s.2.2.2.1,(s.2.2.2.2.1,s.2.2.2.2.2.1))))))))
def r15grow_l2_pre (x : ((List I3) × ((List I2) × ((List I3) × (List I9))))) (s : ((List Bool) × ((List (Int × (Int × (List Int)))) × (Int × (Int × (Int × ((List Int) × Int))))))) : Prop :=
 ((s.2.2.2.2.2.2 ≥ (0:Int)) →
 ((((0:Int) ≤ s.2.2.2.2.2.2) ∧ (s.2.2.2.2.2.2 < (s.1.length:Int))) ∧
 (((Int.toNat s.2.2.2.2.2.2) < (List.length s.1)) ∧
 (((Int.toNat s.2.2.2.2.2.2) < (List.length s.1)) ∧
 (letP (List.set s.1 (Int.toNat s.2.2.2.2.2.2) true) fun y =>
 ((((List.length s.2.2.2.2.2.1) + 1) < 1099511627776) ∧
 (r15least_pre (x,((s.2.2.2.1,(s.2.2.2.2.1,(s.2.2.2.2.2.1 ++ [s.2.2.2.2.2.2]))),y)))))))))
def r15grow_l2_t (x : ((List I3) × ((List I2) × ((List I3) × (List I9))))) (s : ((List Bool) × ((List (Int × (Int × (List Int)))) × (Int × (Int × (Int × ((List Int) × Int))))))) : Tr (((List Bool) × ((List (Int × (Int × (List Int)))) × (Int × (Int × (Int × ((List Int) × Int)))))) ⊕ ((List Bool) × ((List (Int × (Int × (List Int)))) × (Int × (Int × (Int × (List Int))))))) true :=
 (.i10 (s.2.2.2.2.2.2 ≥ z0)
 (.oI2 s.2.2.2.2.2.2 s.1
 (.lt (List.set s.1 (tN s.2.2.2.2.2.2) true) fun y =>
 (.od (((List.length s.2.2.2.2.2.1) + 1) < 1099511627776)
 (.fn r15least_S (x,((s.2.2.2.1,(s.2.2.2.2.1,(s.2.2.2.2.2.1 ++ [s.2.2.2.2.2.2]))),y)) fun y_1 =>
 (.ret (.inl (y,(s.2.1,(s.2.2.1,(s.2.2.2.1,(s.2.2.2.2.1,((s.2.2.2.2.2.1 ++ [s.2.2.2.2.2.2]),y_1))))))))))))
 (.ret (.inr ((s.1,(s.2.1,(s.2.2.1,(s.2.2.2.1,(s.2.2.2.2.1,s.2.2.2.2.2.1)))))))))
def r15grow_l0 (x : ((List I3) × ((List I2) × ((List I3) × (List I9))))) : LoopD := ⟨[],⟨pvs 65 0 [(1,.v (.one (.ptr 0 0))),(4,.v (.one (.full 5))),(5,.v (.one (.full 6))),(6,.v (.one (.i .i64)))],[.cells [.full 1,.full 2,.full 3,.full 4] 26,.row yy3 0,.row yy2 0,.row yy3 0,.row yy9 0,.row Ty.bool 2,.row (Ty.prod yi (Ty.prod yi (Ty.sl yi))) 2],0,none,[],[1,2,3,4],[5,6,0],[(.l Ty.bool),(.l (Ty.prod yi (Ty.prod yi (Ty.sl yi)))),.i],[.l yy3 x.1,.l yy2 x.2.1,.l yy3 x.2.2.1,.l yy9 x.2.2.2]⟩,[⟨(.exit 0),.normal,⟨pvs 65 0 [(5,.v (.one (.full 0)))],[.row (Ty.prod yi (Ty.prod yi (Ty.sl yi))) 2],0,none,[],[],[0],[(.l (Ty.prod yi (Ty.prod yi (Ty.sl yi))))],[]⟩⟩]⟩
def r15grow_l0_step (x : ((List I3) × ((List I2) × ((List I3) × (List I9))))) (s : ((List Bool) × ((List (Int × (Int × (List Int)))) × Int))) : ((List Bool) × ((List (Int × (Int × (List Int)))) × Int)) ⊕ (List (Int × (Int × (List Int)))) :=
 (if (s.2.2 < (x.2.2.2.length:Int)) then
 (letV (r15facing (x,s.2.2)) fun y =>
 (if ((!y.2.2) = true) then
 (Sum.inl (s.1,(s.2.1,(w64 (s.2.2 + (1:Int)))))) else
 (if ((List.getD s.1 (Int.toNat s.2.2) false) = true) then
 (Sum.inl (s.1,(s.2.1,(w64 (s.2.2 + (1:Int)))))) else
 (letV (run (r15grow_l2_step x) (s.1,(s.2.1,(s.2.2,(y.1,(y.2.1,([],s.2.2))))))) fun r =>
 (Sum.inl (r.1,((r.2.1 ++ [r.2.2.2]),(w64 (r.2.2.1 + (1:Int)))))))))) else
 (Sum.inr (s.2.1)))
def r15grow_l0_pre (x : ((List I3) × ((List I2) × ((List I3) × (List I9))))) (s : ((List Bool) × ((List (Int × (Int × (List Int)))) × Int))) : Prop :=
 ((s.2.2 < (x.2.2.2.length:Int)) →
 ((r15facing_pre (x,s.2.2)) ∧
 letP (r15facing (x,s.2.2)) fun y =>
 (¬ ((!y.2.2) = true) →
 ((((0:Int) ≤ s.2.2) ∧ (s.2.2 < (s.1.length:Int))) ∧
 (((Int.toNat s.2.2) < (List.length s.1)) ∧
 (((Int.toNat s.2.2) < (List.length s.1)) ∧
 (¬ ((List.getD s.1 (Int.toNat s.2.2) false) = true) →
 (Term (r15grow_l2_step x) (r15grow_l2_pre x) (s.1,(s.2.1,(s.2.2,(y.1,(y.2.1,([],s.2.2)))))) ∧
 letP (run (r15grow_l2_step x) (s.1,(s.2.1,(s.2.2,(y.1,(y.2.1,([],s.2.2))))))) fun r =>
 (((List.length r.2.1) + 1) < 1099511627776)))))))))
def r15grow_l0_t (x : ((List I3) × ((List I2) × ((List I3) × (List I9))))) (s : ((List Bool) × ((List (Int × (Int × (List Int)))) × Int))) : Tr (((List Bool) × ((List (Int × (Int × (List Int)))) × Int)) ⊕ (List (Int × (Int × (List Int))))) true :=
 (.i10 (s.2.2 < (nL x.2.2.2))
 (.fn r15facing_S (x,s.2.2) fun y =>
 (.b01 (!y.2.2)
 (.ret (.inl (s.1,(s.2.1,(w1 s.2.2)))))
 (.oI2 s.2.2 s.1
 (.b01 (gT s.1 s.2.2 false)
 (.ret (.inl (s.1,(s.2.1,(w1 s.2.2)))))
 (LoopD.lp (r15grow_l2 x) (r15grow_l2_t x) (s.1,(s.2.1,(s.2.2,(y.1,(y.2.1,([],s.2.2)))))) fun r =>
 (.od (((List.length r.2.1) + 1) < 1099511627776)
 (.ret (.inl (r.1,((r.2.1 ++ [r.2.2.2]),(w1 r.2.2.1)))))))))))
 (.ret (.inr (s.2.1))))
def r15grow (x : ((List I3) × ((List I2) × ((List I3) × (List I9))))) : ((List (Int × (Int × (List Int)))) × Int) :=
 (letV (r15tame x) fun y =>
 (if ((!y) = true) then
 ([],(1:Int)) else
 (letV (run (r15grow_l0_step x) ((List.replicate (List.length x.2.2.2) false),([],(0:Int)))) fun r =>
 (r,(0:Int)))))
def r15grow_pre (x : ((List I3) × ((List I2) × ((List I3) × (List I9))))) : Prop :=
 ((r15tame_pre x) ∧
 letP (r15tame x) fun y =>
 (¬ ((!y) = true) →
 ((((x.2.2.2.length:Int) ≤ (x.2.2.2.length:Int)) ∧ ((List.length x.2.2.2) < 1099511627776)) ∧
 (Term (r15grow_l0_step x) (r15grow_l0_pre x) ((List.replicate (List.length x.2.2.2) false),([],(0:Int)))))))
def r15grow_t (x : ((List I3) × ((List I2) × ((List I3) × (List I9))))) : Tr ((List (Int × (Int × (List Int)))) × Int) true :=
 (.fn r15tame_S x fun y =>
 (.b01 (!y)
 (.ret ([],z1))
 (.og (((decide (z0 ≤ (nL x.2.2.2))) && (decide ((nL x.2.2.2) ≤ (nL x.2.2.2)))) && (decide ((List.length x.2.2.2) < 1099511627776))) (((nL x.2.2.2) ≤ (nL x.2.2.2)) ∧ ((List.length x.2.2.2) < 1099511627776)) (fun h => (and_t (and_t rfl (decide_eq_true h.1)) (decide_eq_true h.2)))
 (LoopD.lp (r15grow_l0 x) (r15grow_l0_t x) ((List.replicate (List.length x.2.2.2) false),([],z0)) fun r =>
 (.ret (r,z0))))))
abbrev r15grow_S : FnS := ⟨(.agg (Ty.prod (Ty.sl yy3) (Ty.prod (Ty.sl yy2) (Ty.prod (Ty.sl yy3) (Ty.sl yy9))))),(.pair (.one (Ty.sl (Ty.prod yi (Ty.prod yi (Ty.sl yi))))) (.one yi)),r15grow_pre,r15grow⟩
theorem r15grow_ok : SpecOk Tryz.prog 11 (fnSpec r15grow_S) := SpecOk.tr r15grow_S r15grow_t (fn := Tryz.f11) tt_ok sp_r15least_ok mixed (by kernel_rfl) (ItsOk.nil _ _) (fun x => (LpsOk.tr tt_ok (SpecsOk.ctxI sp_r15least_ok (ItsOk.nil _ _)) mixed 0 (r15grow_l0 x) (r15grow_l0_t x) (LpsOk.tr tt_ok (SpecsOk.ctxI sp_r15least_ok (ItsOk.nil _ _)) mixed 2 (r15grow_l2 x) (r15grow_l2_t x) LpsOk.nil (by kernel_rfl) fun g s Q => (by kernel_rfl)) (by kernel_rfl) fun g s Q => (by kernel_rfl))) (fun x => (by kernel_rfl)) fun x Q => (by kernel_rfl)
def sp_r15grow : List (Nat × Ev.Spec) := (11,fnSpec r15grow_S) :: sp_r15least
theorem sp_r15grow_ok : SpecsOk Tryz.prog sp_r15grow := SpecsOk.add (fn := Tryz.f11) (by kernel_rfl) r15grow_ok sp_r15least_ok
def r15is_l2 (x : (((List I3) × ((List I2) × ((List I3) × (List I9)))) × (List (Int × (Int × (List Int)))))) : LoopD := ⟨[],⟨pvs 104 0 [(1,.v (.one (.full 0))),(2,.v (.one (.ptr 1 0))),(5,.v (.one (.full 6))),(6,.v (.one (.i .i64))),(7,.v (.one (.ptr 7 0))),(8,.v (.one (.i .i64)))],[.row (Ty.prod yi (Ty.prod yi (Ty.sl yi))) 0,.cells [.full 2,.full 3,.full 4,.full 5] 26,.row yy3 0,.row yy2 0,.row yy3 0,.row yy9 0,.row yi 2,.cells [.i .i64,.i .i64,.full 8] 29,.row yi 2],0,none,[],[2,3,4,5,6],[7,0,8,9,10,1],[(.l yi),.i,.i,.i,(.l yi),.i],[.l (Ty.prod yi (Ty.prod yi (Ty.sl yi))) x.2,.l yy3 x.1.1,.l yy2 x.1.2.1,.l yy3 x.1.2.2.1,.l yy9 x.1.2.2.2]⟩,[⟨.ret,.ret,⟨pvs 104 0 [(4,.v (.one (.b)))],[],0,none,[],[0],[],[],[.b false]⟩⟩,⟨(.exit 2),.normal,⟨pvs 104 0 [(1,.v (.one (.full 0))),(2,.v (.one (.ptr 1 0))),(5,.v (.one (.full 6))),(6,.v (.one (.i .i64)))],[.row (Ty.prod yi (Ty.prod yi (Ty.sl yi))) 0,.cells [.full 2,.full 3,.full 4,.full 5] 26,.row yy3 0,.row yy2 0,.row yy3 0,.row yy9 0,.row yi 2],0,none,[],[1,2,3,4,5],[6,0],[(.l yi),.i],[.l (Ty.prod yi (Ty.prod yi (Ty.sl yi))) x.2,.l yy3 x.1.1,.l yy2 x.1.2.1,.l yy3 x.1.2.2.1,.l yy9 x.1.2.2.2]⟩⟩]⟩
def r15is_l2_step (x : (((List I3) × ((List I2) × ((List I3) × (List I9)))) × (List (Int × (Int × (List Int)))))) (s : ((List Int) × (Int × (Int × (Int × ((List Int) × Int)))))) : ((List Int) × (Int × (Int × (Int × ((List Int) × Int))))) ⊕ (Unit ⊕ ((List Int) × Int)) :=
 (if (s.2.2.2.2.2 < ((List.getD x.2 (Int.toNat s.2.1) ((0:Int),((0:Int),[]))).2.2.length:Int)) then
 (letV (r15fits (x.1,((s.2.2.1,(s.2.2.2.1,s.2.2.2.2.1)),(List.getD (List.getD x.2 (Int.toNat s.2.1) ((0:Int),((0:Int),[]))).2.2 (Int.toNat s.2.2.2.2.2) (0:Int))))) fun y =>
 (if ((!y) = true) then
 (Sum.inr (Sum.inl ())) else
 (letV (List.set s.1 (Int.toNat (List.getD (List.getD x.2 (Int.toNat s.2.1) ((0:Int),((0:Int),[]))).2.2 (Int.toNat s.2.2.2.2.2) (0:Int))) (w64 ((List.getD s.1 (Int.toNat (List.getD (List.getD x.2 (Int.toNat s.2.1) ((0:Int),((0:Int),[]))).2.2 (Int.toNat s.2.2.2.2.2) (0:Int))) (0:Int)) + (1:Int)))) fun y_1 =>
 (Sum.inl (y_1,(s.2.1,(s.2.2.1,(s.2.2.2.1,((s.2.2.2.2.1 ++ [(List.getD (List.getD x.2 (Int.toNat s.2.1) ((0:Int),((0:Int),[]))).2.2 (Int.toNat s.2.2.2.2.2) (0:Int))]),(w64 (s.2.2.2.2.2 + (1:Int)))))))))))) else
 (Sum.inr (Sum.inr ((s.1,s.2.1)))))
def r15is_l2_pre (x : (((List I3) × ((List I2) × ((List I3) × (List I9)))) × (List (Int × (Int × (List Int)))))) (s : ((List Int) × (Int × (Int × (Int × ((List Int) × Int)))))) : Prop :=
 ((((0:Int) ≤ s.2.1) ∧ (s.2.1 < (x.2.length:Int))) ∧
 (((Int.toNat s.2.1) < (List.length x.2)) ∧
 (((Int.toNat s.2.1) < (List.length x.2)) ∧
 (((Int.toNat s.2.1) < (List.length x.2)) ∧
 ((s.2.2.2.2.2 < ((List.getD x.2 (Int.toNat s.2.1) ((0:Int),((0:Int),[]))).2.2.length:Int)) →
 ((((0:Int) ≤ s.2.1) ∧ (s.2.1 < (x.2.length:Int))) ∧
 (((Int.toNat s.2.1) < (List.length x.2)) ∧
 (((Int.toNat s.2.1) < (List.length x.2)) ∧
 (((Int.toNat s.2.1) < (List.length x.2)) ∧
 ((((0:Int) ≤ s.2.2.2.2.2) ∧ (s.2.2.2.2.2 < ((List.getD x.2 (Int.toNat s.2.1) ((0:Int),((0:Int),[]))).2.2.length:Int))) ∧
 (((Int.toNat s.2.2.2.2.2) < (List.length (List.getD x.2 (Int.toNat s.2.1) ((0:Int),((0:Int),[]))).2.2)) ∧
 (((Int.toNat s.2.2.2.2.2) < (List.length (List.getD x.2 (Int.toNat s.2.1) ((0:Int),((0:Int),[]))).2.2)) ∧
 ((r15fits_pre (x.1,((s.2.2.1,(s.2.2.2.1,s.2.2.2.2.1)),(List.getD (List.getD x.2 (Int.toNat s.2.1) ((0:Int),((0:Int),[]))).2.2 (Int.toNat s.2.2.2.2.2) (0:Int))))) ∧
 letP (r15fits (x.1,((s.2.2.1,(s.2.2.2.1,s.2.2.2.2.1)),(List.getD (List.getD x.2 (Int.toNat s.2.1) ((0:Int),((0:Int),[]))).2.2 (Int.toNat s.2.2.2.2.2) (0:Int))))) fun y =>
 (¬ ((!y) = true) →
 ((((List.length s.2.2.2.2.1) + 1) < 1099511627776) ∧
 ((((0:Int) ≤ (List.getD (List.getD x.2 (Int.toNat s.2.1) ((0:Int),((0:Int),[]))).2.2 (Int.toNat s.2.2.2.2.2) (0:Int))) ∧ ((List.getD (List.getD x.2 (Int.toNat s.2.1) ((0:Int),((0:Int),[]))).2.2 (Int.toNat s.2.2.2.2.2) (0:Int)) < (s.1.length:Int))) ∧
 (((Int.toNat (List.getD (List.getD x.2 (Int.toNat s.2.1) ((0:Int),((0:Int),[]))).2.2 (Int.toNat s.2.2.2.2.2) (0:Int))) < (List.length s.1)) ∧
 (((Int.toNat (List.getD (List.getD x.2 (Int.toNat s.2.1) ((0:Int),((0:Int),[]))).2.2 (Int.toNat s.2.2.2.2.2) (0:Int))) < (List.length s.1)) ∧
 ((((0:Int) ≤ (List.getD (List.getD x.2 (Int.toNat s.2.1) ((0:Int),((0:Int),[]))).2.2 (Int.toNat s.2.2.2.2.2) (0:Int))) ∧ ((List.getD (List.getD x.2 (Int.toNat s.2.1) ((0:Int),((0:Int),[]))).2.2 (Int.toNat s.2.2.2.2.2) (0:Int)) < (s.1.length:Int))) ∧
 (((Int.toNat (List.getD (List.getD x.2 (Int.toNat s.2.1) ((0:Int),((0:Int),[]))).2.2 (Int.toNat s.2.2.2.2.2) (0:Int))) < (List.length s.1)) ∧
 ((Int.toNat (List.getD (List.getD x.2 (Int.toNat s.2.1) ((0:Int),((0:Int),[]))).2.2 (Int.toNat s.2.2.2.2.2) (0:Int))) < (List.length s.1))))))))))))))))))))))
def r15is_l2_t (x : (((List I3) × ((List I2) × ((List I3) × (List I9)))) × (List (Int × (Int × (List Int)))))) (s : ((List Int) × (Int × (Int × (Int × ((List Int) × Int)))))) : Tr (((List Int) × (Int × (Int × (Int × ((List Int) × Int))))) ⊕ (Unit ⊕ ((List Int) × Int))) true :=
 (.oI3 s.2.1 x.2
 (.i10 (s.2.2.2.2.2 < (nL (gT x.2 s.2.1 (z0,(z0,[]))).2.2))
 (.oI3 s.2.1 x.2
 (.oI2 s.2.2.2.2.2 (gT x.2 s.2.1 (z0,(z0,[]))).2.2
 (.fn r15fits_S (x.1,((s.2.2.1,(s.2.2.2.1,s.2.2.2.2.1)),(gI (gT x.2 s.2.1 (z0,(z0,[]))).2.2 s.2.2.2.2.2))) fun y =>
 (.b01 (!y)
 (.ret (.inr (Sum.inl ())))
 (.od (((List.length s.2.2.2.2.1) + 1) < 1099511627776)
 (.oI2 (gI (gT x.2 s.2.1 (z0,(z0,[]))).2.2 s.2.2.2.2.2) s.1
 (.oI2 (gI (gT x.2 s.2.1 (z0,(z0,[]))).2.2 s.2.2.2.2.2) s.1
 (.lt (List.set s.1 (tN (gI (gT x.2 s.2.1 (z0,(z0,[]))).2.2 s.2.2.2.2.2)) (w1 (gI s.1 (gI (gT x.2 s.2.1 (z0,(z0,[]))).2.2 s.2.2.2.2.2)))) fun y_1 =>
 (.ret (.inl (y_1,(s.2.1,(s.2.2.1,(s.2.2.2.1,((s.2.2.2.2.1 ++ [(gI (gT x.2 s.2.1 (z0,(z0,[]))).2.2 s.2.2.2.2.2)]),(w1 s.2.2.2.2.2))))))))))))))))
 (.ret (.inr (Sum.inr ((s.1,s.2.1)))))))
def r15is_l0 (x : (((List I3) × ((List I2) × ((List I3) × (List I9)))) × (List (Int × (Int × (List Int)))))) : LoopD := ⟨[],⟨pvs 104 0 [(1,.v (.one (.full 0))),(2,.v (.one (.ptr 1 0))),(5,.v (.one (.full 6))),(6,.v (.one (.i .i64)))],[.row (Ty.prod yi (Ty.prod yi (Ty.sl yi))) 0,.cells [.full 2,.full 3,.full 4,.full 5] 26,.row yy3 0,.row yy2 0,.row yy3 0,.row yy9 0,.row yi 2],0,none,[],[1,2,3,4,5],[6,0],[(.l yi),.i],[.l (Ty.prod yi (Ty.prod yi (Ty.sl yi))) x.2,.l yy3 x.1.1,.l yy2 x.1.2.1,.l yy3 x.1.2.2.1,.l yy9 x.1.2.2.2]⟩,[⟨.ret,.ret,⟨pvs 104 0 [(4,.v (.one (.b)))],[],0,none,[],[0],[],[],[.b false]⟩⟩,⟨(.exit 0),.normal,⟨pvs 104 0 [(2,.v (.one (.ptr 0 0))),(5,.v (.one (.full 5)))],[.cells [.full 1,.full 2,.full 3,.full 4] 26,.row yy3 0,.row yy2 0,.row yy3 0,.row yy9 0,.row yi 2],0,none,[],[0,1,2,3],[4],[(.l yi)],[.l yy3 x.1.1,.l yy2 x.1.2.1,.l yy3 x.1.2.2.1,.l yy9 x.1.2.2.2]⟩⟩]⟩
def r15is_l0_step (x : (((List I3) × ((List I2) × ((List I3) × (List I9)))) × (List (Int × (Int × (List Int)))))) (s : ((List Int) × Int)) : ((List Int) × Int) ⊕ (Unit ⊕ (List Int)) :=
 (if (s.2 < (x.2.length:Int)) then
 (if ((((List.getD x.2 (Int.toNat s.2) ((0:Int),((0:Int),[]))).2.2.length:Int) == (0:Int)) = true) then
 (Sum.inr (Sum.inl ())) else
 (letV (run (r15is_l2_step x) (s.1,(s.2,((List.getD x.2 (Int.toNat s.2) ((0:Int),((0:Int),[]))).1,((List.getD x.2 (Int.toNat s.2) ((0:Int),((0:Int),[]))).2.1,([],(0:Int))))))) fun r =>
 (Sum.elim (fun a =>
 (Sum.inr (Sum.inl ()))) (fun b =>
 (Sum.inl (b.1,(w64 (b.2 + (1:Int)))))) r))) else
 (Sum.inr (Sum.inr (s.1))))
def r15is_l0_pre (x : (((List I3) × ((List I2) × ((List I3) × (List I9)))) × (List (Int × (Int × (List Int)))))) (s : ((List Int) × Int)) : Prop :=
 ((s.2 < (x.2.length:Int)) →
 ((((0:Int) ≤ s.2) ∧ (s.2 < (x.2.length:Int))) ∧
 (((Int.toNat s.2) < (List.length x.2)) ∧
 (((Int.toNat s.2) < (List.length x.2)) ∧
 (((Int.toNat s.2) < (List.length x.2)) ∧
 ((((0:Int) ≤ s.2) ∧ (s.2 < (x.2.length:Int))) ∧
 (((Int.toNat s.2) < (List.length x.2)) ∧
 (((Int.toNat s.2) < (List.length x.2)) ∧
 (((Int.toNat s.2) < (List.length x.2)) ∧
 ((((0:Int) ≤ s.2) ∧ (s.2 < (x.2.length:Int))) ∧
 (((Int.toNat s.2) < (List.length x.2)) ∧
 (((Int.toNat s.2) < (List.length x.2)) ∧
 (((Int.toNat s.2) < (List.length x.2)) ∧
 (¬ ((((List.getD x.2 (Int.toNat s.2) ((0:Int),((0:Int),[]))).2.2.length:Int) == (0:Int)) = true) →
 (Term (r15is_l2_step x) (r15is_l2_pre x) (s.1,(s.2,((List.getD x.2 (Int.toNat s.2) ((0:Int),((0:Int),[]))).1,((List.getD x.2 (Int.toNat s.2) ((0:Int),((0:Int),[]))).2.1,([],(0:Int)))))))))))))))))))))
def r15is_l0_t (x : (((List I3) × ((List I2) × ((List I3) × (List I9)))) × (List (Int × (Int × (List Int)))))) (s : ((List Int) × Int)) : Tr (((List Int) × Int) ⊕ (Unit ⊕ (List Int))) true :=
 (.i10 (s.2 < (nL x.2))
 (.oI3 s.2 x.2
 (.oI3 s.2 x.2
 (.oI3 s.2 x.2
 (.b01 ((nL (gT x.2 s.2 (z0,(z0,[]))).2.2) == z0)
 (.ret (.inr (Sum.inl ())))
 (LoopD.lp (r15is_l2 x) (r15is_l2_t x) (s.1,(s.2,((gT x.2 s.2 (z0,(z0,[]))).1,((gT x.2 s.2 (z0,(z0,[]))).2.1,([],z0))))) fun r =>
 (.s00 r (fun a =>
 (.ret (.inr (Sum.inl ())))) (fun b =>
 (.ret (.inl (b.1,(w1 b.2)))))))))))
 (.ret (.inr (Sum.inr (s.1)))))
def r15is_l4 (x : (((List I3) × ((List I2) × ((List I3) × (List I9)))) × (List (Int × (Int × (List Int)))))) : LoopD := ⟨[],⟨pvs 104 0 [(2,.v (.one (.ptr 0 0))),(5,.v (.one (.full 5))),(10,.v (.one (.i .i64)))],[.cells [.full 1,.full 2,.full 3,.full 4] 26,.row yy3 0,.row yy2 0,.row yy3 0,.row yy9 0,.row yi 2],0,none,[],[1,2,3,4],[5,0],[(.l yi),.i],[.l yy3 x.1.1,.l yy2 x.1.2.1,.l yy3 x.1.2.2.1,.l yy9 x.1.2.2.2]⟩,[⟨.ret,.ret,⟨pvs 104 0 [(4,.v (.one (.b)))],[],0,none,[],[0],[],[],[.b false]⟩⟩,⟨(.exit 4),.normal,⟨pvs 104 0 [],[],0,none,[],[],[],[],[]⟩⟩]⟩
def r15is_l4_step (x : (((List I3) × ((List I2) × ((List I3) × (List I9)))) × (List (Int × (Int × (List Int)))))) (s : ((List Int) × Int)) : ((List Int) × Int) ⊕ (Unit ⊕ Unit) :=
 (if (s.2 < (x.1.2.2.2.length:Int)) then
 (letV (r15facing (x.1,s.2)) fun y =>
 (if (y.2.2 = true) then
 (if (((List.getD s.1 (Int.toNat s.2) (0:Int)) != (1:Int)) = true) then
 (Sum.inr (Sum.inl ())) else
 (Sum.inl (s.1,(w64 (s.2 + (1:Int)))))) else
 (Sum.inl (s.1,(w64 (s.2 + (1:Int))))))) else
 (Sum.inr (Sum.inr (()))))
def r15is_l4_pre (x : (((List I3) × ((List I2) × ((List I3) × (List I9)))) × (List (Int × (Int × (List Int)))))) (s : ((List Int) × Int)) : Prop :=
 ((s.2 < (x.1.2.2.2.length:Int)) →
 ((r15facing_pre (x.1,s.2)) ∧
 letP (r15facing (x.1,s.2)) fun y =>
 ((y.2.2 = true) →
 ((((0:Int) ≤ s.2) ∧ (s.2 < (s.1.length:Int))) ∧
 (((Int.toNat s.2) < (List.length s.1)) ∧
 ((Int.toNat s.2) < (List.length s.1)))))))
def r15is_l4_t (x : (((List I3) × ((List I2) × ((List I3) × (List I9)))) × (List (Int × (Int × (List Int)))))) (s : ((List Int) × Int)) : Tr (((List Int) × Int) ⊕ (Unit ⊕ Unit)) true :=
 (.i10 (s.2 < (nL x.1.2.2.2))
 (.fn r15facing_S (x.1,s.2) fun y =>
 (.b10 y.2.2
 (.oI2 s.2 s.1
 (.b00 ((gI s.1 s.2) != z1)
 (.ret (.inr (Sum.inl ())))
 (.ret (.inl (s.1,(w1 s.2))))))
 (.ret (.inl (s.1,(w1 s.2))))))
 (.ret (.inr (Sum.inr (())))))
def r15is (x : (((List I3) × ((List I2) × ((List I3) × (List I9)))) × (List (Int × (Int × (List Int)))))) : Bool :=
 (letV (r15tame x.1) fun y =>
 (if ((!y) = true) then
 false else
 (letV (run (r15is_l0_step x) ((List.replicate (List.length x.1.2.2.2) (0:Int)),(0:Int))) fun r =>
 (Sum.elim (fun a =>
 false) (fun b =>
 (letV (run (r15is_l4_step x) (b,(0:Int))) fun r_1 =>
 (Sum.elim (fun a =>
 false) (fun b_1 =>
 true) r_1))) r))))
def r15is_pre (x : (((List I3) × ((List I2) × ((List I3) × (List I9)))) × (List (Int × (Int × (List Int)))))) : Prop :=
 ((r15tame_pre x.1) ∧
 letP (r15tame x.1) fun y =>
 (¬ ((!y) = true) →
 ((((x.1.2.2.2.length:Int) ≤ (x.1.2.2.2.length:Int)) ∧ ((List.length x.1.2.2.2) < 1099511627776)) ∧
 (Term (r15is_l0_step x) (r15is_l0_pre x) ((List.replicate (List.length x.1.2.2.2) (0:Int)),(0:Int)) ∧
 letP (run (r15is_l0_step x) ((List.replicate (List.length x.1.2.2.2) (0:Int)),(0:Int))) fun r =>
 (cS r (fun a =>
 True) (fun b =>
 (Term (r15is_l4_step x) (r15is_l4_pre x) (b,(0:Int)))))))))
def r15is_t (x : (((List I3) × ((List I2) × ((List I3) × (List I9)))) × (List (Int × (Int × (List Int)))))) : Tr Bool true :=
 (.fn r15tame_S x.1 fun y =>
 (.b01 (!y)
 (.ret false)
 (.og (((decide (z0 ≤ (nL x.1.2.2.2))) && (decide ((nL x.1.2.2.2) ≤ (nL x.1.2.2.2)))) && (decide ((List.length x.1.2.2.2) < 1099511627776))) (((nL x.1.2.2.2) ≤ (nL x.1.2.2.2)) ∧ ((List.length x.1.2.2.2) < 1099511627776)) (fun h => (and_t (and_t rfl (decide_eq_true h.1)) (decide_eq_true h.2)))
 (LoopD.lp (r15is_l0 x) (r15is_l0_t x) ((List.replicate (List.length x.1.2.2.2) z0),z0) fun r =>
 (.s01 r (fun a =>
 (.ret false)) (fun b =>
 (LoopD.lp (r15is_l4 x) (r15is_l4_t x) (b,z0) fun r_1 =>
 (.s00 r_1 (fun a =>
 (.ret false)) (fun b_1 =>
 (.ret true))))))))))
abbrev r15is_S : FnS := ⟨(.pair (.agg (Ty.prod (Ty.sl yy3) (Ty.prod (Ty.sl yy2) (Ty.prod (Ty.sl yy3) (Ty.sl yy9))))) (.one (Ty.sl (Ty.prod yi (Ty.prod yi (Ty.sl yi)))))),(.one Ty.bool),r15is_pre,r15is⟩
theorem r15is_ok : SpecOk Tryz.prog 16 (fnSpec r15is_S) := SpecOk.tr r15is_S r15is_t (fn := Tryz.f16) tt_ok sp_r15grow_ok mixed (by kernel_rfl) (ItsOk.nil _ _) (fun x => (LpsOk.tr tt_ok (SpecsOk.ctxI sp_r15grow_ok (ItsOk.nil _ _)) mixed 0 (r15is_l0 x) (r15is_l0_t x) (LpsOk.tr tt_ok (SpecsOk.ctxI sp_r15grow_ok (ItsOk.nil _ _)) mixed 2 (r15is_l2 x) (r15is_l2_t x) (LpsOk.tr tt_ok (SpecsOk.ctxI sp_r15grow_ok (ItsOk.nil _ _)) mixed 4 (r15is_l4 x) (r15is_l4_t x) LpsOk.nil (by kernel_rfl) fun g s Q => (by kernel_rfl)) (by kernel_rfl) fun g s Q => (by kernel_rfl)) (by kernel_rfl) fun g s Q => (by kernel_rfl))) (fun x => (by kernel_rfl)) fun x Q => (by kernel_rfl)
def sp_r15is : List (Nat × Ev.Spec) := (16,fnSpec r15is_S) :: sp_r15grow
theorem sp_r15is_ok : SpecsOk Tryz.prog sp_r15is := SpecsOk.add (fn := Tryz.f16) (by kernel_rfl) r15is_ok sp_r15grow_ok
end Go.Proofs.YtkbmjhabfjgoiaaGreat
