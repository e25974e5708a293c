/- Models of functions of layers 4, 8 and of the library. -/
import Derived.Test.YtleemdeodmdnkaaEvY
import Derived.Test.YtleemdeodmdnkaaTt
noncomputable section
set_option linter.unusedSectionVars false
set_option linter.unusedVariables false
set_option linter.unusedSimpArgs false
namespace Go.Proofs.Ytleemdeodmdnkaa
open Go Go.Ev Go.Proofs
def isnan (x:Int) : Bool :=
 (x != x)
def isnan_pre (_:Int) : Prop := True
def isnan_t (x:Int) : Tr Bool false :=
 (.ret (x != x))
abbrev isnan_S : FnS := ⟨(.one yi),(.one Ty.bool),isnan_pre,isnan⟩
theorem isnan_ok : SpecOk Try.prog 51 (fnSpec isnan_S) := SpecOk.tr isnan_S isnan_t (fn := Try.f51) tt_ok (SpecsOk.nil _) mixed (by kernel_rfl) (ItsOk.nil _ _) (fun x => LpsOk.nil) (fun x => (by kernel_rfl)) fun x Q => (by kernel_rfl)
def sp_isnan : List (Nat × Ev.Spec) := (51,fnSpec isnan_S) :: []
theorem sp_isnan_ok : SpecsOk Try.prog sp_isnan := SpecsOk.add (fn := Try.f51) (by kernel_rfl) isnan_ok (SpecsOk.nil _)
def compare (x : I2) : Int :=
 (letV (isnan x.1) fun y =>
 (letV (isnan x.2) fun y_1 =>
 (if (y = true) then
 (if (y_1 = true) then
 (0:Int) else
 (-1:Int)) else
 (if (y_1 = true) then
 (1:Int) else
 (if (x.1 < x.2) then
 (-1:Int) else
 (if (x.1 > x.2) then
 (1:Int) else
 (0:Int)))))))
def compare_pre (_ : I2) : Prop := True
def compare_t (x : I2) : Tr Int false :=
 (.fn0 isnan_S x.1 trivial fun y =>
 (.fn0 isnan_S x.2 trivial fun y_1 =>
 (.b00 y
 (.b00 y_1
 (.ret z0)
 (.ret (-1:Int)))
 (.b00 y_1
 (.ret z1)
 (.i00 (x.1 < x.2)
 (.ret (-1:Int))
 (.i00 (x.1 > x.2)
 (.ret z1)
 (.ret z0)))))))
abbrev compare_S : FnS := ⟨(.pair (.one yi) (.one yi)),(.one yi),compare_pre,compare⟩
theorem compare_ok : SpecOk Try.prog 34 (fnSpec compare_S) := SpecOk.tr compare_S compare_t (fn := Try.f34) tt_ok sp_isnan_ok mixed (by kernel_rfl) (ItsOk.nil _ _) (fun x => LpsOk.nil) (fun x => (by kernel_rfl)) fun x Q => (by kernel_rfl)
def sp_compare : List (Nat × Ev.Spec) := (34,fnSpec compare_S) :: sp_isnan
theorem sp_compare_ok : SpecsOk Try.prog sp_compare := SpecsOk.add (fn := Try.f34) (by kernel_rfl) compare_ok sp_isnan_ok
def cmpor_l0 (x : (List Int)) : LoopD := ⟨[],⟨pvs 18 0 [(3,.v (.one (.i .i64))),(6,.v (.one (.full 0))),(7,.v (.one (.i .i64))),(8,.v (.one (.i .i64)))],[.row yi 0],0,none,[],[0,1,3],[2],[.i],[.i (0:Int),.i (x.length:Int),.l yi x]⟩,[⟨.ret,.ret,⟨pvs 18 0 [(2,.v (.one (.i .i64)))],[],0,none,[],[],[0],[.i],[]⟩⟩,⟨(.exit 0),.normal,⟨pvs 18 0 [(3,.v (.one (.i .i64)))],[],0,none,[],[0],[],[],[.i (0:Int)]⟩⟩]⟩
def cmpor_l0_step (x : (List Int)) (s:Int) : Int ⊕ (Int ⊕ Unit) :=
 (if (s < (x.length:Int)) then
 (if (((List.getD x (Int.toNat s) (0:Int)) != (0:Int)) = true) then
 (Sum.inr (Sum.inl (List.getD x (Int.toNat s) (0:Int)))) else
 (Sum.inl (w64 (s + (1:Int))))) else
 (Sum.inr (Sum.inr (()))))
def cmpor_l0_pre (x : (List Int)) (s:Int) : Prop :=
 ((s < (x.length:Int)) →
 ((((0:Int) ≤ s) ∧ (s < (x.length:Int))) ∧
 (((Int.toNat s) < (List.length x)) ∧
 ((Int.toNat s) < (List.length x)))))
def cmpor_l0_t (x : (List Int)) (s:Int) : Tr (Int ⊕ (Int ⊕ Unit)) true :=
 (.i10 (s < (nL x))
 (.oI2 s x
 (.b00 ((gI x s) != z0)
 (.ret (.inr (Sum.inl (gI x s))))
 (.ret (.inl (w1 s)))))
 (.ret (.inr (Sum.inr (())))))
def cmpor (x : (List Int)) : Int :=
 (letV (run (cmpor_l0_step x) (0:Int)) fun r =>
 (Sum.elim (fun a =>
 a) (fun b =>
 (0:Int)) r))
def cmpor_pre (x : (List Int)) : Prop :=
 (Term (cmpor_l0_step x) (cmpor_l0_pre x) (0:Int))
def cmpor_t (x : (List Int)) : Tr Int true :=
 (LoopD.lp (cmpor_l0 x) (cmpor_l0_t x) z0 fun r =>
 (.s00 r (fun a =>
 (.ret a)) (fun b =>
 (.ret z0))))
abbrev cmpor_S : FnS := ⟨(.one (Ty.sl yi)),(.one yi),cmpor_pre,cmpor⟩
theorem cmpor_ok : SpecOk Try.prog 33 (fnSpec cmpor_S) := SpecOk.tr cmpor_S cmpor_t (fn := Try.f33) tt_ok sp_compare_ok mixed (by kernel_rfl) (ItsOk.nil _ _) (fun x => (LpsOk.tr tt_ok (SpecsOk.ctxI sp_compare_ok (ItsOk.nil _ _)) mixed 0 (cmpor_l0 x) (cmpor_l0_t x) LpsOk.nil (by kernel_rfl) fun g s Q => (by kernel_rfl))) (fun x => (by kernel_rfl)) fun x Q => (by kernel_rfl)
def sp_cmpor : List (Nat × Ev.Spec) := (33,fnSpec cmpor_S) :: sp_compare
theorem sp_cmpor_ok : SpecsOk Try.prog sp_cmpor := SpecsOk.add (fn := Try.f33) (by kernel_rfl) cmpor_ok sp_compare_ok
def near_l0 (x : (List Int)) : LoopD := ⟨[],⟨pvs 18 0 [(5,.v (.one (.full 0))),(6,.v (.one (.i .i64))),(7,.v (.one (.i .i64)))],[.row yi 0],0,none,[],[0,2],[1],[.i],[.i (x.length:Int),.l yi x]⟩,[⟨.ret,.ret,⟨pvs 18 0 [(2,.v (.one (.b)))],[],0,none,[],[0],[],[],[.b false]⟩⟩,⟨(.exit 0),.normal,⟨pvs 18 0 [],[],0,none,[],[],[],[],[]⟩⟩]⟩
def near_l0_step (x : (List Int)) (s:Int) : Int ⊕ (Unit ⊕ Unit) :=
 (if (s < (x.length:Int)) then
 (if ((List.getD x (Int.toNat s) (0:Int)) < (-1048576:Int)) then
 (Sum.inr (Sum.inl ())) else
 (if ((List.getD x (Int.toNat s) (0:Int)) > (1048576:Int)) then
 (Sum.inr (Sum.inl ())) else
 (Sum.inl (w64 (s + (1:Int)))))) else
 (Sum.inr (Sum.inr (()))))
def near_l0_pre (x : (List Int)) (s:Int) : Prop :=
 ((s < (x.length:Int)) →
 ((((0:Int) ≤ s) ∧ (s < (x.length:Int))) ∧
 (((Int.toNat s) < (List.length x)) ∧
 ((Int.toNat s) < (List.length x)))))
def near_l0_t (x : (List Int)) (s:Int) : Tr (Int ⊕ (Unit ⊕ Unit)) true :=
 (.i10 (s < (nL x))
 (.oI2 s x
 (.i00 ((gI x s) < (-1048576:Int))
 (.ret (.inr (Sum.inl ())))
 (.i00 ((gI x s) > (1048576:Int))
 (.ret (.inr (Sum.inl ())))
 (.ret (.inl (w1 s))))))
 (.ret (.inr (Sum.inr (())))))
def near (x : (List Int)) : Bool :=
 (letV (run (near_l0_step x) (0:Int)) fun r =>
 (Sum.elim (fun a =>
 false) (fun b =>
 true) r))
def near_pre (x : (List Int)) : Prop :=
 (Term (near_l0_step x) (near_l0_pre x) (0:Int))
def near_t (x : (List Int)) : Tr Bool true :=
 (LoopD.lp (near_l0 x) (near_l0_t x) z0 fun r =>
 (.s00 r (fun a =>
 (.ret false)) (fun b =>
 (.ret true))))
abbrev near_S : FnS := ⟨(.one (Ty.sl yi)),(.one Ty.bool),near_pre,near⟩
theorem near_ok : SpecOk Try.prog 59 (fnSpec near_S) := SpecOk.tr near_S near_t (fn := Try.f59) tt_ok sp_cmpor_ok mixed (by kernel_rfl) (ItsOk.nil _ _) (fun x => (LpsOk.tr tt_ok (SpecsOk.ctxI sp_cmpor_ok (ItsOk.nil _ _)) mixed 0 (near_l0 x) (near_l0_t x) LpsOk.nil (by kernel_rfl) fun g s Q => (by kernel_rfl))) (fun x => (by kernel_rfl)) fun x Q => (by kernel_rfl)
def sp_near : List (Nat × Ev.Spec) := (59,fnSpec near_S) :: sp_cmpor
theorem sp_near_ok : SpecsOk Try.prog sp_near := SpecsOk.add (fn := Try.f59) (by kernel_rfl) near_ok sp_cmpor_ok
def is2_l0 (x : (List I2)) : LoopD := ⟨[],⟨pvs 19 0 [(5,.v (.one (.full 0))),(6,.v (.one (.i .i64))),(7,.v (.one (.i .i64)))],[.row yy2 0],0,none,[],[0,2],[1],[.i],[.i (x.length:Int),.l yy2 x]⟩,[⟨.ret,.ret,⟨pvs 19 0 [(2,.v (.one (.b)))],[],0,none,[],[0],[],[],[.b false]⟩⟩,⟨(.exit 0),.normal,⟨pvs 19 0 [],[],0,none,[],[],[],[],[]⟩⟩]⟩
def is2_l0_step (x : (List I2)) (s:Int) : Int ⊕ (Unit ⊕ Unit) :=
 (if (s < (x.length:Int)) then
 (letV (near [(List.getD x (Int.toNat s) ((0:Int),(0:Int))).1,(List.getD x (Int.toNat s) ((0:Int),(0:Int))).2]) fun y =>
 (if ((!y) = true) then
 (Sum.inr (Sum.inl ())) else
 (Sum.inl (w64 (s + (1:Int)))))) else
 (Sum.inr (Sum.inr (()))))
def is2_l0_pre (x : (List I2)) (s:Int) : Prop :=
 ((s < (x.length:Int)) →
 ((((0:Int) ≤ s) ∧ (s < (x.length:Int))) ∧
 (((Int.toNat s) < (List.length x)) ∧
 (((Int.toNat s) < (List.length x)) ∧
 (near_pre [(List.getD x (Int.toNat s) ((0:Int),(0:Int))).1,(List.getD x (Int.toNat s) ((0:Int),(0:Int))).2])))))
def is2_l0_t (x : (List I2)) (s:Int) : Tr (Int ⊕ (Unit ⊕ Unit)) true :=
 (.i10 (s < (nL x))
 (.oI2 s x
 (.fn near_S [(gT x s zz2).1,(gT x s zz2).2] fun y =>
 (.b00 (!y)
 (.ret (.inr (Sum.inl ())))
 (.ret (.inl (w1 s))))))
 (.ret (.inr (Sum.inr (())))))
def is2 (x : (List I2)) : Bool :=
 (letV (run (is2_l0_step x) (0:Int)) fun r =>
 (Sum.elim (fun a =>
 false) (fun b =>
 true) r))
def is2_pre (x : (List I2)) : Prop :=
 (Term (is2_l0_step x) (is2_l0_pre x) (0:Int))
def is2_t (x : (List I2)) : Tr Bool true :=
 (LoopD.lp (is2_l0 x) (is2_l0_t x) z0 fun r =>
 (.s00 r (fun a =>
 (.ret false)) (fun b =>
 (.ret true))))
abbrev is2_S : FnS := ⟨(.one (Ty.sl yy2)),(.one Ty.bool),is2_pre,is2⟩
theorem is2_ok : SpecOk Try.prog 45 (fnSpec is2_S) := SpecOk.tr is2_S is2_t (fn := Try.f45) tt_ok sp_near_ok mixed (by kernel_rfl) (ItsOk.nil _ _) (fun x => (LpsOk.tr tt_ok (SpecsOk.ctxI sp_near_ok (ItsOk.nil _ _)) mixed 0 (is2_l0 x) (is2_l0_t x) LpsOk.nil (by kernel_rfl) fun g s Q => (by kernel_rfl))) (fun x => (by kernel_rfl)) fun x Q => (by kernel_rfl)
def sp_is2 : List (Nat × Ev.Spec) := (45,fnSpec is2_S) :: sp_near
theorem sp_is2_ok : SpecsOk Try.prog sp_is2 := SpecsOk.add (fn := Try.f45) (by kernel_rfl) is2_ok sp_near_ok
def is3_l0 (x : (List I3)) : LoopD := ⟨[],⟨pvs 21 0 [(5,.v (.one (.full 0))),(6,.v (.one (.i .i64))),(7,.v (.one (.i .i64)))],[.row yy3 0],0,none,[],[0,2],[1],[.i],[.i (x.length:Int),.l yy3 x]⟩,[⟨.ret,.ret,⟨pvs 21 0 [(2,.v (.one (.b)))],[],0,none,[],[0],[],[],[.b false]⟩⟩,⟨(.exit 0),.normal,⟨pvs 21 0 [],[],0,none,[],[],[],[],[]⟩⟩]⟩
def is3_l0_step (x : (List I3)) (s:Int) : Int ⊕ (Unit ⊕ Unit) :=
 (if (s < (x.length:Int)) then
 (letV (near [(List.getD x (Int.toNat s) ((0:Int),((0:Int),(0:Int)))).1,(List.getD x (Int.toNat s) ((0:Int),((0:Int),(0:Int)))).2.1,(List.getD x (Int.toNat s) ((0:Int),((0:Int),(0:Int)))).2.2]) fun y =>
 (if ((!y) = true) then
 (Sum.inr (Sum.inl ())) else
 (Sum.inl (w64 (s + (1:Int)))))) else
 (Sum.inr (Sum.inr (()))))
def is3_l0_pre (x : (List I3)) (s:Int) : Prop :=
 ((s < (x.length:Int)) →
 ((((0:Int) ≤ s) ∧ (s < (x.length:Int))) ∧
 (((Int.toNat s) < (List.length x)) ∧
 (((Int.toNat s) < (List.length x)) ∧
 (near_pre [(List.getD x (Int.toNat s) ((0:Int),((0:Int),(0:Int)))).1,(List.getD x (Int.toNat s) ((0:Int),((0:Int),(0:Int)))).2.1,(List.getD x (Int.toNat s) ((0:Int),((0:Int),(0:Int)))).2.2])))))
def is3_l0_t (x : (List I3)) (s:Int) : Tr (Int ⊕ (Unit ⊕ Unit)) true :=
 (.i10 (s < (nL x))
 (.oI2 s x
 (.fn near_S [(gT x s zz3).1,(gT x s zz3).2.1,(gT x s zz3).2.2] fun y =>
 (.b00 (!y)
 (.ret (.inr (Sum.inl ())))
 (.ret (.inl (w1 s))))))
 (.ret (.inr (Sum.inr (())))))
def is3 (x : (List I3)) : Bool :=
 (letV (run (is3_l0_step x) (0:Int)) fun r =>
 (Sum.elim (fun a =>
 false) (fun b =>
 true) r))
def is3_pre (x : (List I3)) : Prop :=
 (Term (is3_l0_step x) (is3_l0_pre x) (0:Int))
def is3_t (x : (List I3)) : Tr Bool true :=
 (LoopD.lp (is3_l0 x) (is3_l0_t x) z0 fun r =>
 (.s00 r (fun a =>
 (.ret false)) (fun b =>
 (.ret true))))
abbrev is3_S : FnS := ⟨(.one (Ty.sl yy3)),(.one Ty.bool),is3_pre,is3⟩
theorem is3_ok : SpecOk Try.prog 44 (fnSpec is3_S) := SpecOk.tr is3_S is3_t (fn := Try.f44) tt_ok sp_is2_ok mixed (by kernel_rfl) (ItsOk.nil _ _) (fun x => (LpsOk.tr tt_ok (SpecsOk.ctxI sp_is2_ok (ItsOk.nil _ _)) mixed 0 (is3_l0 x) (is3_l0_t x) LpsOk.nil (by kernel_rfl) fun g s Q => (by kernel_rfl))) (fun x => (by kernel_rfl)) fun x Q => (by kernel_rfl)
def sp_is3 : List (Nat × Ev.Spec) := (44,fnSpec is3_S) :: sp_is2
theorem sp_is3_ok : SpecsOk Try.prog sp_is3 := SpecsOk.add (fn := Try.f44) (by kernel_rfl) is3_ok sp_is2_ok
def mfew (x : ((List I3) × ((List I2) × ((List I3) × (List I9))))) : Bool :=
 (if ((maxI (maxI (x.1.length:Int) (x.2.1.length:Int)) (x.2.2.1.length:Int)) ≤ (2000:Int)) then
 (decide ((x.2.2.2.length:Int) ≤ (500:Int))) else
 false)
def mfew_pre (_ : ((List I3) × ((List I2) × ((List I3) × (List I9))))) : Prop := True
def mfew_t (x : ((List I3) × ((List I2) × ((List I3) × (List I9))))) : Tr Bool false :=
 (.i00 ((maxI (maxI (nL x.1) (nL x.2.1)) (nL x.2.2.1)) ≤ (2000:Int))
 (.ret (decide ((nL x.2.2.2) ≤ (500:Int))))
 (.ret false))
abbrev mfew_S : FnS := ⟨(.agg (Ty.prod (Ty.sl yy3) (Ty.prod (Ty.sl yy2) (Ty.prod (Ty.sl yy3) (Ty.sl yy9))))),(.one Ty.bool),mfew_pre,mfew⟩
theorem mfew_ok : SpecOk Try.prog 43 (fnSpec mfew_S) := SpecOk.tr mfew_S mfew_t (fn := Try.f43) tt_ok sp_is3_ok mixed (by kernel_rfl) (ItsOk.nil _ _) (fun x => LpsOk.nil) (fun x => (by kernel_rfl)) fun x Q => (by kernel_rfl)
def sp_mfew : List (Nat × Ev.Spec) := (43,fnSpec mfew_S) :: sp_is3
theorem sp_mfew_ok : SpecsOk Try.prog sp_mfew := SpecsOk.add (fn := Try.f43) (by kernel_rfl) mfew_ok sp_is3_ok
def among (x : (Int × (Int × Bool))) : Bool :=
 (if (x.1 ≥ (0:Int)) then
 (if (x.1 < x.2.1) then
 true else
 (if (x.2.2 = true) then
 (x.1 == (-1:Int)) else
 false)) else
 (if (x.2.2 = true) then
 (x.1 == (-1:Int)) else
 false))
def among_pre (_ : (Int × (Int × Bool))) : Prop := True
def among_t (x : (Int × (Int × Bool))) : Tr Bool false :=
 (.i00 (x.1 ≥ z0)
 (.i00 (x.1 < x.2.1)
 (.ret true)
 (.b00 x.2.2
 (.ret (x.1 == (-1:Int)))
 (.ret false)))
 (.b00 x.2.2
 (.ret (x.1 == (-1:Int)))
 (.ret false)))
abbrev among_S : FnS := ⟨(.pair (.one yi) (.pair (.one yi) (.one Ty.bool))),(.one Ty.bool),among_pre,among⟩
theorem among_ok : SpecOk Try.prog 46 (fnSpec among_S) := SpecOk.tr among_S among_t (fn := Try.f46) tt_ok sp_mfew_ok mixed (by kernel_rfl) (ItsOk.nil _ _) (fun x => LpsOk.nil) (fun x => (by kernel_rfl)) fun x Q => (by kernel_rfl)
def sp_among : List (Nat × Ev.Spec) := (46,fnSpec among_S) :: sp_mfew
theorem sp_among_ok : SpecsOk Try.prog sp_among := SpecsOk.add (fn := Try.f46) (by kernel_rfl) among_ok sp_mfew_ok
def meshis_l0 (x : ((List I3) × ((List I2) × ((List I3) × (List I9))))) : LoopD := ⟨[],⟨pvs 86 0 [(1,.v (.one (.ptr 0 0))),(29,.v (.one (.full 4))),(30,.v (.one (.i .i64))),(31,.v (.one (.i .i64)))],[.cells [.full 1,.full 2,.full 3,.full 4] 26,.row yy3 0,.row yy2 0,.row yy3 0,.row yy9 0],0,none,[],[0,2,3,4,5],[1],[.i],[.i (x.2.2.2.length:Int),.l yy3 x.1,.l yy2 x.2.1,.l yy3 x.2.2.1,.l yy9 x.2.2.2]⟩,[⟨.ret,.ret,⟨pvs 86 0 [(2,.v (.one (.b)))],[],0,none,[],[0],[],[],[.b false]⟩⟩,⟨(.exit 0),.normal,⟨pvs 86 0 [],[],0,none,[],[],[],[],[]⟩⟩]⟩
def meshis_l0_step (x : ((List I3) × ((List I2) × ((List I3) × (List I9))))) (s:Int) : Int ⊕ (Unit ⊕ Unit) :=
 (if (s < (x.2.2.2.length:Int)) then
 (letV (among ((List.getD x.2.2.2 (Int.toNat s) (((0:Int),((0:Int),(0:Int))),(((0:Int),((0:Int),(0:Int))),((0:Int),((0:Int),(0:Int)))))).1.1,((x.1.length:Int),false))) fun y =>
 (if ((!y) = true) then
 (Sum.inr (Sum.inl ())) else
 (letV (among ((List.getD x.2.2.2 (Int.toNat s) (((0:Int),((0:Int),(0:Int))),(((0:Int),((0:Int),(0:Int))),((0:Int),((0:Int),(0:Int)))))).1.2.1,((x.2.1.length:Int),true))) fun y_1 =>
 (if ((!y_1) = true) then
 (Sum.inr (Sum.inl ())) else
 (letV (among ((List.getD x.2.2.2 (Int.toNat s) (((0:Int),((0:Int),(0:Int))),(((0:Int),((0:Int),(0:Int))),((0:Int),((0:Int),(0:Int)))))).1.2.2,((x.2.2.1.length:Int),true))) fun y_2 =>
 (if ((!y_2) = true) then
 (Sum.inr (Sum.inl ())) else
 (if ((!((decide ((List.getD x.2.2.2 (Int.toNat s) (((0:Int),((0:Int),(0:Int))),(((0:Int),((0:Int),(0:Int))),((0:Int),((0:Int),(0:Int)))))).1.2.1 < (0:Int))) == (decide ((List.getD x.2.2.2 (Int.toNat s) (((0:Int),((0:Int),(0:Int))),(((0:Int),((0:Int),(0:Int))),((0:Int),((0:Int),(0:Int)))))).1.2.1 < (0:Int))))) = true) then
 (Sum.inr (Sum.inl ())) else
 (if ((!((decide ((List.getD x.2.2.2 (Int.toNat s) (((0:Int),((0:Int),(0:Int))),(((0:Int),((0:Int),(0:Int))),((0:Int),((0:Int),(0:Int)))))).1.2.2 < (0:Int))) == (decide ((List.getD x.2.2.2 (Int.toNat s) (((0:Int),((0:Int),(0:Int))),(((0:Int),((0:Int),(0:Int))),((0:Int),((0:Int),(0:Int)))))).1.2.2 < (0:Int))))) = true) then
 (Sum.inr (Sum.inl ())) else
 (letV (among ((List.getD x.2.2.2 (Int.toNat s) (((0:Int),((0:Int),(0:Int))),(((0:Int),((0:Int),(0:Int))),((0:Int),((0:Int),(0:Int)))))).2.1.1,((x.1.length:Int),false))) fun y_3 =>
 (if ((!y_3) = true) then
 (Sum.inr (Sum.inl ())) else
 (letV (among ((List.getD x.2.2.2 (Int.toNat s) (((0:Int),((0:Int),(0:Int))),(((0:Int),((0:Int),(0:Int))),((0:Int),((0:Int),(0:Int)))))).2.1.2.1,((x.2.1.length:Int),true))) fun y_4 =>
 (if ((!y_4) = true) then
 (Sum.inr (Sum.inl ())) else
 (letV (among ((List.getD x.2.2.2 (Int.toNat s) (((0:Int),((0:Int),(0:Int))),(((0:Int),((0:Int),(0:Int))),((0:Int),((0:Int),(0:Int)))))).2.1.2.2,((x.2.2.1.length:Int),true))) fun y_5 =>
 (if ((!y_5) = true) then
 (Sum.inr (Sum.inl ())) else
 (if ((!((decide ((List.getD x.2.2.2 (Int.toNat s) (((0:Int),((0:Int),(0:Int))),(((0:Int),((0:Int),(0:Int))),((0:Int),((0:Int),(0:Int)))))).2.1.2.1 < (0:Int))) == (decide ((List.getD x.2.2.2 (Int.toNat s) (((0:Int),((0:Int),(0:Int))),(((0:Int),((0:Int),(0:Int))),((0:Int),((0:Int),(0:Int)))))).1.2.1 < (0:Int))))) = true) then
 (Sum.inr (Sum.inl ())) else
 (if ((!((decide ((List.getD x.2.2.2 (Int.toNat s) (((0:Int),((0:Int),(0:Int))),(((0:Int),((0:Int),(0:Int))),((0:Int),((0:Int),(0:Int)))))).2.1.2.2 < (0:Int))) == (decide ((List.getD x.2.2.2 (Int.toNat s) (((0:Int),((0:Int),(0:Int))),(((0:Int),((0:Int),(0:Int))),((0:Int),((0:Int),(0:Int)))))).1.2.2 < (0:Int))))) = true) then
 (Sum.inr (Sum.inl ())) else
 (letV (among ((List.getD x.2.2.2 (Int.toNat s) (((0:Int),((0:Int),(0:Int))),(((0:Int),((0:Int),(0:Int))),((0:Int),((0:Int),(0:Int)))))).2.2.1,((x.1.length:Int),false))) fun y_6 =>
 (if ((!y_6) = true) then
 (Sum.inr (Sum.inl ())) else
 (letV (among ((List.getD x.2.2.2 (Int.toNat s) (((0:Int),((0:Int),(0:Int))),(((0:Int),((0:Int),(0:Int))),((0:Int),((0:Int),(0:Int)))))).2.2.2.1,((x.2.1.length:Int),true))) fun y_7 =>
 (if ((!y_7) = true) then
 (Sum.inr (Sum.inl ())) else
 (letV (among ((List.getD x.2.2.2 (Int.toNat s) (((0:Int),((0:Int),(0:Int))),(((0:Int),((0:Int),(0:Int))),((0:Int),((0:Int),(0:Int)))))).2.2.2.2,((x.2.2.1.length:Int),true))) fun y_8 =>
 (if ((!y_8) = true) then
 (Sum.inr (Sum.inl ())) else
 (if ((!((decide ((List.getD x.2.2.2 (Int.toNat s) (((0:Int),((0:Int),(0:Int))),(((0:Int),((0:Int),(0:Int))),((0:Int),((0:Int),(0:Int)))))).2.2.2.1 < (0:Int))) == (decide ((List.getD x.2.2.2 (Int.toNat s) (((0:Int),((0:Int),(0:Int))),(((0:Int),((0:Int),(0:Int))),((0:Int),((0:Int),(0:Int)))))).1.2.1 < (0:Int))))) = true) then
 (Sum.inr (Sum.inl ())) else
 (if ((!((decide ((List.getD x.2.2.2 (Int.toNat s) (((0:Int),((0:Int),(0:Int))),(((0:Int),((0:Int),(0:Int))),((0:Int),((0:Int),(0:Int)))))).2.2.2.2 < (0:Int))) == (decide ((List.getD x.2.2.2 (Int.toNat s) (((0:Int),((0:Int),(0:Int))),(((0:Int),((0:Int),(0:Int))),((0:Int),((0:Int),(0:Int)))))).1.2.2 < (0:Int))))) = true) then
 (Sum.inr (Sum.inl ())) else
 (Sum.inl (w64 (s + (1:Int)))))))))))))))))))))))))))) else
 (Sum.inr (Sum.inr (()))))
def meshis_l0_pre (x : ((List I3) × ((List I2) × ((List I3) × (List I9))))) (s:Int) : Prop :=
 ((s < (x.2.2.2.length:Int)) →
 ((((0:Int) ≤ s) ∧ (s < (x.2.2.2.length:Int))) ∧
 (((Int.toNat s) < (List.length x.2.2.2)) ∧
 ((Int.toNat s) < (List.length x.2.2.2)))))
def meshis_l0_t (x : ((List I3) × ((List I2) × ((List I3) × (List I9))))) (s:Int) : Tr (Int ⊕ (Unit ⊕ Unit)) true :=
 (.i10 (s < (nL x.2.2.2))
 (.oI2 s x.2.2.2
 (.fn0 among_S ((gT x.2.2.2 s zz9).1.1,((nL x.1),false)) trivial fun y =>
 (.b00 (!y)
 (.ret (.inr (Sum.inl ())))
 (.fn0 among_S ((gT x.2.2.2 s zz9).1.2.1,((nL x.2.1),true)) trivial fun y_1 =>
 (.b00 (!y_1)
 (.ret (.inr (Sum.inl ())))
 (.fn0 among_S ((gT x.2.2.2 s zz9).1.2.2,((nL x.2.2.1),true)) trivial fun y_2 =>
 (.b00 (!y_2)
 (.ret (.inr (Sum.inl ())))
 (.b00 (!((decide ((gT x.2.2.2 s zz9).1.2.1 < z0)) == (decide ((gT x.2.2.2 s zz9).1.2.1 < z0))))
 (.ret (.inr (Sum.inl ())))
 (.b00 (!((decide ((gT x.2.2.2 s zz9).1.2.2 < z0)) == (decide ((gT x.2.2.2 s zz9).1.2.2 < z0))))
 (.ret (.inr (Sum.inl ())))
 (.fn0 among_S ((gT x.2.2.2 s zz9).2.1.1,((nL x.1),false)) trivial fun y_3 =>
 (.b00 (!y_3)
 (.ret (.inr (Sum.inl ())))
 (.fn0 among_S ((gT x.2.2.2 s zz9).2.1.2.1,((nL x.2.1),true)) trivial fun y_4 =>
 (.b00 (!y_4)
 (.ret (.inr (Sum.inl ())))
 (.fn0 among_S ((gT x.2.2.2 s zz9).2.1.2.2,((nL x.2.2.1),true)) trivial fun y_5 =>
 (.b00 (!y_5)
 (.ret (.inr (Sum.inl ())))
 (.b00 (!((decide ((gT x.2.2.2 s zz9).2.1.2.1 < z0)) == (decide ((gT x.2.2.2 s zz9).1.2.1 < z0))))
 (.ret (.inr (Sum.inl ())))
 (.b00 (!((decide ((gT x.2.2.2 s zz9).2.1.2.2 < z0)) == (decide ((gT x.2.2.2 s zz9).1.2.2 < z0))))
 (.ret (.inr (Sum.inl ())))
 (.fn0 among_S ((gT x.2.2.2 s zz9).2.2.1,((nL x.1),false)) trivial fun y_6 =>
 (.b00 (!y_6)
 (.ret (.inr (Sum.inl ())))
 (.fn0 among_S ((gT x.2.2.2 s zz9).2.2.2.1,((nL x.2.1),true)) trivial fun y_7 =>
 (.b00 (!y_7)
 (.ret (.inr (Sum.inl ())))
 (.fn0 among_S ((gT x.2.2.2 s zz9).2.2.2.2,((nL x.2.2.1),true)) trivial fun y_8 =>
 (.b00 (!y_8)
 (.ret (.inr (Sum.inl ())))
 (.b00 (!((decide ((gT x.2.2.2 s zz9).2.2.2.1 < z0)) == (decide ((gT x.2.2.2 s zz9).1.2.1 < z0))))
 (.ret (.inr (Sum.inl ())))
 (.b00 (!((decide ((gT x.2.2.2 s zz9).2.2.2.2 < z0)) == (decide ((gT x.2.2.2 s zz9).1.2.2 < z0))))
 (.ret (.inr (Sum.inl ())))
 (.ret (.inl (w1 s))))))))))))))))))))))))))))
 (.ret (.inr (Sum.inr (())))))
def meshis (x : ((List I3) × ((List I2) × ((List I3) × (List I9))))) : Bool :=
 (letV (mfew x) fun y =>
 (if ((!y) = true) then
 false else
 (letV (is3 x.1) fun y_1 =>
 (if ((!y_1) = true) then
 false else
 (letV (is2 x.2.1) fun y_2 =>
 (if ((!y_2) = true) then
 false else
 (letV (is3 x.2.2.1) fun y_3 =>
 (if ((!y_3) = true) then
 false else
 (letV (run (meshis_l0_step x) (0:Int)) fun r =>
 (Sum.elim (fun a =>
 false) (fun b =>
 true) r))))))))))
def meshis_pre (x : ((List I3) × ((List I2) × ((List I3) × (List I9))))) : Prop :=
 (letP (mfew x) fun y =>
 (¬ ((!y) = true) →
 ((is3_pre x.1) ∧
 letP (is3 x.1) fun y_1 =>
 (¬ ((!y_1) = true) →
 ((is2_pre x.2.1) ∧
 letP (is2 x.2.1) fun y_2 =>
 (¬ ((!y_2) = true) →
 ((is3_pre x.2.2.1) ∧
 letP (is3 x.2.2.1) fun y_3 =>
 (¬ ((!y_3) = true) →
 (Term (meshis_l0_step x) (meshis_l0_pre x) (0:Int))))))))))
def meshis_t (x : ((List I3) × ((List I2) × ((List I3) × (List I9))))) : Tr Bool true :=
 (.fn0 mfew_S x trivial fun y =>
 (.b01 (!y)
 (.ret false)
 (.fn is3_S x.1 fun y_1 =>
 (.b01 (!y_1)
 (.ret false)
 (.fn is2_S x.2.1 fun y_2 =>
 (.b01 (!y_2)
 (.ret false)
 (.fn is3_S x.2.2.1 fun y_3 =>
 (.b01 (!y_3)
 (.ret false)
 (LoopD.lp (meshis_l0 x) (meshis_l0_t x) z0 fun r =>
 (.s00 r (fun a =>
 (.ret false)) (fun b =>
 (.ret true))))))))))))
abbrev meshis_S : FnS := ⟨(.agg (Ty.prod (Ty.sl yy3) (Ty.prod (Ty.sl yy2) (Ty.prod (Ty.sl yy3) (Ty.sl yy9))))),(.one Ty.bool),meshis_pre,meshis⟩
theorem meshis_ok : SpecOk Try.prog 25 (fnSpec meshis_S) := SpecOk.tr meshis_S meshis_t (fn := Try.f25) tt_ok sp_among_ok mixed (by kernel_rfl) (ItsOk.nil _ _) (fun x => (LpsOk.tr tt_ok (SpecsOk.ctxI sp_among_ok (ItsOk.nil _ _)) mixed 0 (meshis_l0 x) (meshis_l0_t x) (LpsOk.unrollT tt_ok (SpecsOk.ctxI sp_among_ok (ItsOk.nil _ _)) mixed 2 4 LpsOk.nil (by kernel_rfl)) (by kernel_rfl) fun g s Q => (by kernel_rfl))) (fun x => (by kernel_rfl)) fun x Q => (by kernel_rfl)
def sp_meshis : List (Nat × Ev.Spec) := (25,fnSpec meshis_S) :: sp_among
theorem sp_meshis_ok : SpecsOk Try.prog sp_meshis := SpecsOk.add (fn := Try.f25) (by kernel_rfl) meshis_ok sp_among_ok
def ecmp (x : ((Int × (Int × (List Int))) × (Int × (Int × (List Int))))) : Int :=
 (letV (compare (x.1.1,x.2.1)) fun y =>
 (letV (compare (x.1.2.1,x.2.2.1)) fun y_1 =>
 (letV (cmpor [y,y_1]) fun y_2 =>
 y_2)))
def ecmp_pre (x : ((Int × (Int × (List Int))) × (Int × (Int × (List Int))))) : Prop :=
 (letP (compare (x.1.1,x.2.1)) fun y =>
 (letP (compare (x.1.2.1,x.2.2.1)) fun y_1 =>
 (cmpor_pre [y,y_1])))
def ecmp_t (x : ((Int × (Int × (List Int))) × (Int × (Int × (List Int))))) : Tr Int true :=
 (.fn0 compare_S (x.1.1,x.2.1) trivial fun y =>
 (.fn0 compare_S (x.1.2.1,x.2.2.1) trivial fun y_1 =>
 (.fn cmpor_S [y,y_1] fun y_2 =>
 (.ret y_2))))
abbrev ecmp_S : FnS := ⟨(.pair (.agg (Ty.prod yi (Ty.prod yi (Ty.sl yi)))) (.agg (Ty.prod yi (Ty.prod yi (Ty.sl yi))))),(.one yi),ecmp_pre,ecmp⟩
theorem ecmp_ok : SpecOk Try.prog 32 (fnSpec ecmp_S) := SpecOk.tr ecmp_S ecmp_t (fn := Try.f32) tt_ok sp_meshis_ok mixed (by kernel_rfl) (ItsOk.nil _ _) (fun x => LpsOk.nil) (fun x => (by kernel_rfl)) fun x Q => (by kernel_rfl)
def sp_ecmp : List (Nat × Ev.Spec) := (32,fnSpec ecmp_S) :: sp_meshis
theorem sp_ecmp_ok : SpecsOk Try.prog sp_ecmp := SpecsOk.add (fn := Try.f32) (by kernel_rfl) ecmp_ok sp_meshis_ok
end Go.Proofs.Ytleemdeodmdnkaa
