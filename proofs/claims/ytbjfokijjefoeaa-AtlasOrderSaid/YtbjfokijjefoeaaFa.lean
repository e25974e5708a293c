/- Models of functions of layers 4, 8, 10, 16. -/
import Derived.Test.YtbjfokijjefoeaaCm
namespace Go.Proofs.Ytbjfokijjefoeaa
open Go Go.Ev Go.Proofs
set_option linter.unusedVariables false
noncomputable def near_l0 (x : (List Int)) : LoopD := ⟨[],⟨pvs 18 0 [(5,.v (.one (.full 0))),(6,.v (.one (.i .i64))),(7,.v (.one (.i .i64)))],[.row yi 0],0,none,[],[0,2],[1],[.i],[.i (((List.length x):Nat):Int),.l yi x]⟩,[⟨.ret,.ret,⟨pvs 18 0 [(2,.v (.one (.b)))],[],0,none,[],[0],[],[],[.b false]⟩⟩,⟨(.exit 0),.normal,⟨pvs 18 0 [],[],0,none,[],[],[],[],[]⟩⟩]⟩
noncomputable def near_l0_step (x : (List Int)) (s:Int) : Int ⊕ (Unit ⊕ Unit) :=
 (if (s < (((List.length x):Nat):Int)) then
 (if ((List.getD x (Int.toNat s) (0:Int)) < (-1048576:Int)) then
 (Sum.inr (Sum.inl ())) else
 (if ((List.getD x (Int.toNat s) (0:Int)) > (1048576:Int)) then
 (Sum.inr (Sum.inl ())) else
 (Sum.inl (w64 (s + (1:Int)))))) else
 (Sum.inr (Sum.inr (()))))
noncomputable def near_l0_pre (x : (List Int)) (s:Int) : Prop :=
 ((s < (((List.length x):Nat):Int)) →
 ((((0:Int) ≤ s) ∧ (s < (((List.length x):Nat):Int))) ∧
 (((Int.toNat s) < (List.length x)) ∧
 ((Int.toNat s) < (List.length x)))))
noncomputable def near_l0_t (x : (List Int)) (s:Int) : Tr (Int ⊕ (Unit ⊕ Unit)) true :=
 (.i10 (s < (nL x))
 (.oR s (nL x)
 (.od ((tN s) < (List.length x))
 (.od ((tN s) < (List.length x))
 (.i00 ((gI x s) < (-1048576:Int))
 (.ret (.inr (Sum.inl ())))
 (.i00 ((gI x s) > (1048576:Int))
 (.ret (.inr (Sum.inl ())))
 (.ret (.inl (w1 s))))))))
 (.ret (.inr (Sum.inr (())))))
noncomputable def near (x : (List Int)) : Bool :=
 (letV (run (near_l0_step x) (0:Int)) fun r =>
 (Sum.elim (fun a =>
 false) (fun b =>
 true) r))
noncomputable def near_pre (x : (List Int)) : Prop :=
 (Term (near_l0_step x) (near_l0_pre x) (0:Int))
noncomputable def near_t (x : (List Int)) : Tr Bool true :=
 (LoopD.lp (near_l0 x) (near_l0_t x) z0 fun r =>
 (.s00 r (fun a =>
 (.ret false)) (fun b =>
 (.ret true))))
noncomputable abbrev near_S : FnS := ⟨(.one (Ty.sl yi)),(.one Ty.bool),near_pre,near⟩
theorem near_ok : SpecOk Try.prog 94 (fnSpec near_S) := SpecOk.tr near_S near_t (fn := Try.f94) tt_ok sp_byM_ok mixed (by kernel_rfl) (ItsOk.nil _ _) (fun x => (LpsOk.tr tt_ok (SpecsOk.ctxI sp_byM_ok (ItsOk.nil _ _)) mixed 0 (near_l0 x) (near_l0_t x) LpsOk.nil (by kernel_rfl) fun g s Q => (by kernel_rfl))) (fun x => (by kernel_rfl)) fun x Q => (by kernel_rfl)
def sp_near : List (Nat × Ev.Spec) := (94,fnSpec near_S) :: sp_byM
theorem sp_near_ok : SpecsOk Try.prog sp_near := SpecsOk.add (fn := Try.f94) (by kernel_rfl) near_ok sp_byM_ok
noncomputable def within_l0 (x : (Int × (List Int))) : LoopD := ⟨[],⟨pvs 23 0 [(0,.v (.one (.i .i64))),(7,.v (.one (.full 0))),(8,.v (.one (.i .i64))),(9,.v (.one (.i .i64)))],[.row yi 0],0,none,[],[0,1,3],[2],[.i],[.i x.1,.i (((List.length x.2):Nat):Int),.l yi x.2]⟩,[⟨.ret,.ret,⟨pvs 23 0 [(4,.v (.one (.b)))],[],0,none,[],[0],[],[],[.b false]⟩⟩,⟨(.exit 0),.normal,⟨pvs 23 0 [],[],0,none,[],[],[],[],[]⟩⟩]⟩
noncomputable def within_l0_step (x : (Int × (List Int))) (s:Int) : Int ⊕ (Unit ⊕ Unit) :=
 (if (s < (((List.length x.2):Nat):Int)) then
 (if ((List.getD x.2 (Int.toNat s) (0:Int)) < (w64 ((0:Int) - x.1))) then
 (Sum.inr (Sum.inl ())) else
 (if ((List.getD x.2 (Int.toNat s) (0:Int)) > x.1) then
 (Sum.inr (Sum.inl ())) else
 (Sum.inl (w64 (s + (1:Int)))))) else
 (Sum.inr (Sum.inr (()))))
noncomputable def within_l0_pre (x : (Int × (List Int))) (s:Int) : Prop :=
 ((s < (((List.length x.2):Nat):Int)) →
 ((((0:Int) ≤ s) ∧ (s < (((List.length x.2):Nat):Int))) ∧
 (((Int.toNat s) < (List.length x.2)) ∧
 ((Int.toNat s) < (List.length x.2)))))
noncomputable def within_l0_t (x : (Int × (List Int))) (s:Int) : Tr (Int ⊕ (Unit ⊕ Unit)) true :=
 (.i10 (s < (nL x.2))
 (.oR s (nL x.2)
 (.od ((tN s) < (List.length x.2))
 (.od ((tN s) < (List.length x.2))
 (.i00 ((gI x.2 s) < (w64 (z0 - x.1)))
 (.ret (.inr (Sum.inl ())))
 (.i00 ((gI x.2 s) > x.1)
 (.ret (.inr (Sum.inl ())))
 (.ret (.inl (w1 s))))))))
 (.ret (.inr (Sum.inr (())))))
noncomputable def within (x : (Int × (List Int))) : Bool :=
 (letV (run (within_l0_step x) (0:Int)) fun r =>
 (Sum.elim (fun a =>
 false) (fun b =>
 true) r))
noncomputable def within_pre (x : (Int × (List Int))) : Prop :=
 (Term (within_l0_step x) (within_l0_pre x) (0:Int))
noncomputable def within_t (x : (Int × (List Int))) : Tr Bool true :=
 (LoopD.lp (within_l0 x) (within_l0_t x) z0 fun r =>
 (.s00 r (fun a =>
 (.ret false)) (fun b =>
 (.ret true))))
noncomputable abbrev within_S : FnS := ⟨(.pair (.one yi) (.one (Ty.sl yi))),(.one Ty.bool),within_pre,within⟩
theorem within_ok : SpecOk Try.prog 86 (fnSpec within_S) := SpecOk.tr within_S within_t (fn := Try.f86) tt_ok sp_near_ok mixed (by kernel_rfl) (ItsOk.nil _ _) (fun x => (LpsOk.tr tt_ok (SpecsOk.ctxI sp_near_ok (ItsOk.nil _ _)) mixed 0 (within_l0 x) (within_l0_t x) LpsOk.nil (by kernel_rfl) fun g s Q => (by kernel_rfl))) (fun x => (by kernel_rfl)) fun x Q => (by kernel_rfl)
def sp_within : List (Nat × Ev.Spec) := (86,fnSpec within_S) :: sp_near
theorem sp_within_ok : SpecsOk Try.prog sp_within := SpecsOk.add (fn := Try.f86) (by kernel_rfl) within_ok sp_near_ok
noncomputable def is2_l0 (x : (List I2)) : LoopD := ⟨[],⟨pvs 19 0 [(5,.v (.one (.full 0))),(6,.v (.one (.i .i64))),(7,.v (.one (.i .i64)))],[.row yy2 0],0,none,[],[0,2],[1],[.i],[.i (((List.length x):Nat):Int),.l yy2 x]⟩,[⟨.ret,.ret,⟨pvs 19 0 [(2,.v (.one (.b)))],[],0,none,[],[0],[],[],[.b false]⟩⟩,⟨(.exit 0),.normal,⟨pvs 19 0 [],[],0,none,[],[],[],[],[]⟩⟩]⟩
noncomputable def is2_l0_step (x : (List I2)) (s:Int) : Int ⊕ (Unit ⊕ Unit) :=
 (if (s < (((List.length x):Nat):Int)) then
 (letV (near [(List.getD x (Int.toNat s) ((0:Int),(0:Int))).1,(List.getD x (Int.toNat s) ((0:Int),(0:Int))).2]) fun y =>
 (if ((!y) = true) then
 (Sum.inr (Sum.inl ())) else
 (Sum.inl (w64 (s + (1:Int)))))) else
 (Sum.inr (Sum.inr (()))))
noncomputable def is2_l0_pre (x : (List I2)) (s:Int) : Prop :=
 ((s < (((List.length x):Nat):Int)) →
 ((((0:Int) ≤ s) ∧ (s < (((List.length x):Nat):Int))) ∧
 (((Int.toNat s) < (List.length x)) ∧
 (((Int.toNat s) < (List.length x)) ∧
 (near_pre [(List.getD x (Int.toNat s) ((0:Int),(0:Int))).1,(List.getD x (Int.toNat s) ((0:Int),(0:Int))).2])))))
noncomputable def is2_l0_t (x : (List I2)) (s:Int) : Tr (Int ⊕ (Unit ⊕ Unit)) true :=
 (.i10 (s < (nL x))
 (.oR s (nL x)
 (.od ((tN s) < (List.length x))
 (.od ((tN s) < (List.length x))
 (.fn near_S [(gT x s zz2).1,(gT x s zz2).2] fun y =>
 (.b00 (!y)
 (.ret (.inr (Sum.inl ())))
 (.ret (.inl (w1 s))))))))
 (.ret (.inr (Sum.inr (())))))
noncomputable def is2 (x : (List I2)) : Bool :=
 (letV (run (is2_l0_step x) (0:Int)) fun r =>
 (Sum.elim (fun a =>
 false) (fun b =>
 true) r))
noncomputable def is2_pre (x : (List I2)) : Prop :=
 (Term (is2_l0_step x) (is2_l0_pre x) (0:Int))
noncomputable def is2_t (x : (List I2)) : Tr Bool true :=
 (LoopD.lp (is2_l0 x) (is2_l0_t x) z0 fun r =>
 (.s00 r (fun a =>
 (.ret false)) (fun b =>
 (.ret true))))
noncomputable abbrev is2_S : FnS := ⟨(.one (Ty.sl yy2)),(.one Ty.bool),is2_pre,is2⟩
theorem is2_ok : SpecOk Try.prog 92 (fnSpec is2_S) := SpecOk.tr is2_S is2_t (fn := Try.f92) tt_ok sp_within_ok mixed (by kernel_rfl) (ItsOk.nil _ _) (fun x => (LpsOk.tr tt_ok (SpecsOk.ctxI sp_within_ok (ItsOk.nil _ _)) mixed 0 (is2_l0 x) (is2_l0_t x) LpsOk.nil (by kernel_rfl) fun g s Q => (by kernel_rfl))) (fun x => (by kernel_rfl)) fun x Q => (by kernel_rfl)
def sp_is2 : List (Nat × Ev.Spec) := (92,fnSpec is2_S) :: sp_within
theorem sp_is2_ok : SpecsOk Try.prog sp_is2 := SpecsOk.add (fn := Try.f92) (by kernel_rfl) is2_ok sp_within_ok
noncomputable def small2_l0 (x : (List I2)) : LoopD := ⟨[],⟨pvs 19 0 [(5,.v (.one (.full 0))),(6,.v (.one (.i .i64))),(7,.v (.one (.i .i64)))],[.row yy2 0],0,none,[],[0,2],[1],[.i],[.i (((List.length x):Nat):Int),.l yy2 x]⟩,[⟨.ret,.ret,⟨pvs 19 0 [(2,.v (.one (.b)))],[],0,none,[],[0],[],[],[.b false]⟩⟩,⟨(.exit 0),.normal,⟨pvs 19 0 [],[],0,none,[],[],[],[],[]⟩⟩]⟩
noncomputable def small2_l0_step (x : (List I2)) (s:Int) : Int ⊕ (Unit ⊕ Unit) :=
 (if (s < (((List.length x):Nat):Int)) then
 (letV (within ((4096:Int),[(List.getD x (Int.toNat s) ((0:Int),(0:Int))).1,(List.getD x (Int.toNat s) ((0:Int),(0:Int))).2])) fun y =>
 (if ((!y) = true) then
 (Sum.inr (Sum.inl ())) else
 (Sum.inl (w64 (s + (1:Int)))))) else
 (Sum.inr (Sum.inr (()))))
noncomputable def small2_l0_pre (x : (List I2)) (s:Int) : Prop :=
 ((s < (((List.length x):Nat):Int)) →
 ((((0:Int) ≤ s) ∧ (s < (((List.length x):Nat):Int))) ∧
 (((Int.toNat s) < (List.length x)) ∧
 (((Int.toNat s) < (List.length x)) ∧
 (within_pre ((4096:Int),[(List.getD x (Int.toNat s) ((0:Int),(0:Int))).1,(List.getD x (Int.toNat s) ((0:Int),(0:Int))).2]))))))
noncomputable def small2_l0_t (x : (List I2)) (s:Int) : Tr (Int ⊕ (Unit ⊕ Unit)) true :=
 (.i10 (s < (nL x))
 (.oR s (nL x)
 (.od ((tN s) < (List.length x))
 (.od ((tN s) < (List.length x))
 (.fn within_S ((4096:Int),[(gT x s zz2).1,(gT x s zz2).2]) fun y =>
 (.b00 (!y)
 (.ret (.inr (Sum.inl ())))
 (.ret (.inl (w1 s))))))))
 (.ret (.inr (Sum.inr (())))))
noncomputable def small2 (x : (List I2)) : Bool :=
 (letV (run (small2_l0_step x) (0:Int)) fun r =>
 (Sum.elim (fun a =>
 false) (fun b =>
 true) r))
noncomputable def small2_pre (x : (List I2)) : Prop :=
 (Term (small2_l0_step x) (small2_l0_pre x) (0:Int))
noncomputable def small2_t (x : (List I2)) : Tr Bool true :=
 (LoopD.lp (small2_l0 x) (small2_l0_t x) z0 fun r =>
 (.s00 r (fun a =>
 (.ret false)) (fun b =>
 (.ret true))))
noncomputable abbrev small2_S : FnS := ⟨(.one (Ty.sl yy2)),(.one Ty.bool),small2_pre,small2⟩
theorem small2_ok : SpecOk Try.prog 76 (fnSpec small2_S) := SpecOk.tr small2_S small2_t (fn := Try.f76) tt_ok sp_is2_ok mixed (by kernel_rfl) (ItsOk.nil _ _) (fun x => (LpsOk.tr tt_ok (SpecsOk.ctxI sp_is2_ok (ItsOk.nil _ _)) mixed 0 (small2_l0 x) (small2_l0_t x) LpsOk.nil (by kernel_rfl) fun g s Q => (by kernel_rfl))) (fun x => (by kernel_rfl)) fun x Q => (by kernel_rfl)
def sp_small2 : List (Nat × Ev.Spec) := (76,fnSpec small2_S) :: sp_is2
theorem sp_small2_ok : SpecsOk Try.prog sp_small2 := SpecsOk.add (fn := Try.f76) (by kernel_rfl) small2_ok sp_is2_ok
noncomputable def sub2 (x : (I2 × I2)) : I2 :=
 (letV (is2 [x.1,x.2]) fun y =>
 (if ((!y) = true) then
 ((0:Int),(0:Int)) else
 ((w64 (x.1.1 - x.2.1)),(w64 (x.1.2 - x.2.2)))))
noncomputable def sub2_pre (x : (I2 × I2)) : Prop :=
 (is2_pre [x.1,x.2])
noncomputable def sub2_t (x : (I2 × I2)) : Tr I2 true :=
 (.fn is2_S [x.1,x.2] fun y =>
 (.b00 (!y)
 (.ret zz2)
 (.ret ((w64 (x.1.1 - x.2.1)),(w64 (x.1.2 - x.2.2))))))
noncomputable abbrev sub2_S : FnS := ⟨(.pair (.agg yy2) (.agg yy2)),(.agg yy2),sub2_pre,sub2⟩
theorem sub2_ok : SpecOk Try.prog 90 (fnSpec sub2_S) := SpecOk.tr sub2_S sub2_t (fn := Try.f90) tt_ok sp_small2_ok mixed (by kernel_rfl) (ItsOk.nil _ _) (fun x => LpsOk.nil) (fun x => (by kernel_rfl)) fun x Q => (by kernel_rfl)
def sp_sub2 : List (Nat × Ev.Spec) := (90,fnSpec sub2_S) :: sp_small2
theorem sp_sub2_ok : SpecsOk Try.prog sp_sub2 := SpecsOk.add (fn := Try.f90) (by kernel_rfl) sub2_ok sp_small2_ok
noncomputable def cross2 (x : (I2 × I2)) : I2 :=
 (letV (is2 [x.1,x.2]) fun y =>
 (if ((!y) = true) then
 ((0:Int),(5:Int)) else
 ((w64 ((w64 (x.1.1 * x.2.2)) - (w64 (x.1.2 * x.2.1)))),(0:Int))))
noncomputable def cross2_pre (x : (I2 × I2)) : Prop :=
 (is2_pre [x.1,x.2])
noncomputable def cross2_t (x : (I2 × I2)) : Tr I2 true :=
 (.fn is2_S [x.1,x.2] fun y =>
 (.b00 (!y)
 (.ret (z0,(5:Int)))
 (.ret ((w64 ((w64 (x.1.1 * x.2.2)) - (w64 (x.1.2 * x.2.1)))),z0))))
noncomputable abbrev cross2_S : FnS := ⟨(.pair (.agg yy2) (.agg yy2)),(.pair (.one yi) (.one yi)),cross2_pre,cross2⟩
theorem cross2_ok : SpecOk Try.prog 89 (fnSpec cross2_S) := SpecOk.tr cross2_S cross2_t (fn := Try.f89) tt_ok sp_sub2_ok mixed (by kernel_rfl) (ItsOk.nil _ _) (fun x => LpsOk.nil) (fun x => (by kernel_rfl)) fun x Q => (by kernel_rfl)
def sp_cross2 : List (Nat × Ev.Spec) := (89,fnSpec cross2_S) :: sp_sub2
theorem sp_cross2_ok : SpecsOk Try.prog sp_cross2 := SpecsOk.add (fn := Try.f89) (by kernel_rfl) cross2_ok sp_sub2_ok
noncomputable def parea (x : I6) : I2 :=
 (letV (small2 [x.1,x.2.1,x.2.2]) fun y =>
 (if ((!y) = true) then
 ((0:Int),(5:Int)) else
 (letV (sub2 (x.2.1,x.1)) fun y_1 =>
 (letV (sub2 (x.2.2,x.1)) fun y_2 =>
 (letV (cross2 (y_1,y_2)) fun y_3 =>
 y_3)))))
noncomputable def parea_pre (x : I6) : Prop :=
 ((small2_pre [x.1,x.2.1,x.2.2]) ∧
 letP (small2 [x.1,x.2.1,x.2.2]) fun y =>
 (¬ ((!y) = true) →
 ((sub2_pre (x.2.1,x.1)) ∧
 letP (sub2 (x.2.1,x.1)) fun y_1 =>
 ((sub2_pre (x.2.2,x.1)) ∧
 letP (sub2 (x.2.2,x.1)) fun y_2 =>
 (cross2_pre (y_1,y_2))))))
noncomputable def parea_t (x : I6) : Tr I2 true :=
 (.fn small2_S [x.1,x.2.1,x.2.2] fun y =>
 (.b01 (!y)
 (.ret (z0,(5:Int)))
 (.fn sub2_S (x.2.1,x.1) fun y_1 =>
 (.fn sub2_S (x.2.2,x.1) fun y_2 =>
 (.fn cross2_S (y_1,y_2) fun y_3 =>
 (.ret y_3))))))
noncomputable abbrev parea_S : FnS := ⟨(.agg yy6),(.pair (.one yi) (.one yi)),parea_pre,parea⟩
theorem parea_ok : SpecOk Try.prog 84 (fnSpec parea_S) := SpecOk.tr parea_S parea_t (fn := Try.f84) tt_ok sp_cross2_ok mixed (by kernel_rfl) (ItsOk.nil _ _) (fun x => LpsOk.nil) (fun x => (by kernel_rfl)) fun x Q => (by kernel_rfl)
def sp_parea : List (Nat × Ev.Spec) := (84,fnSpec parea_S) :: sp_cross2
theorem sp_parea_ok : SpecsOk Try.prog sp_parea := SpecsOk.add (fn := Try.f84) (by kernel_rfl) parea_ok sp_cross2_ok
noncomputable def sarea (x : I6) : I2 :=
 (letV (parea x) fun y =>
 y)
noncomputable def sarea_pre (x : I6) : Prop :=
 (parea_pre x)
noncomputable def sarea_t (x : I6) : Tr I2 true :=
 (.fn parea_S x fun y =>
 (.ret y))
noncomputable abbrev sarea_S : FnS := ⟨(.pair (.agg yy2) (.pair (.agg yy2) (.agg yy2))),(.pair (.one yi) (.one yi)),sarea_pre,sarea⟩
theorem sarea_ok : SpecOk Try.prog 73 (fnSpec sarea_S) := SpecOk.tr sarea_S sarea_t (fn := Try.f73) tt_ok sp_parea_ok mixed (by kernel_rfl) (ItsOk.nil _ _) (fun x => LpsOk.nil) (fun x => (by kernel_rfl)) fun x Q => (by kernel_rfl)
def sp_sarea : List (Nat × Ev.Spec) := (73,fnSpec sarea_S) :: sp_parea
theorem sp_sarea_ok : SpecsOk Try.prog sp_sarea := SpecsOk.add (fn := Try.f73) (by kernel_rfl) sarea_ok sp_parea_ok
noncomputable def sside (x : I6) : I2 :=
 (letV (sarea x) fun y =>
 (letV (compare (y.1,(0:Int))) fun y_1 =>
 (y_1,y.2)))
noncomputable def sside_pre (x : I6) : Prop :=
 (sarea_pre x)
noncomputable def sside_t (x : I6) : Tr I2 true :=
 (.fn sarea_S x fun y =>
 (.fn0 compare_S (y.1,z0) trivial fun y_1 =>
 (.ret (y_1,y.2))))
noncomputable abbrev sside_S : FnS := ⟨(.pair (.agg yy2) (.pair (.agg yy2) (.agg yy2))),(.pair (.one yi) (.one yi)),sside_pre,sside⟩
theorem sside_ok : SpecOk Try.prog 96 (fnSpec sside_S) := SpecOk.tr sside_S sside_t (fn := Try.f96) tt_ok sp_sarea_ok mixed (by kernel_rfl) (ItsOk.nil _ _) (fun x => LpsOk.nil) (fun x => (by kernel_rfl)) fun x Q => (by kernel_rfl)
def sp_sside : List (Nat × Ev.Spec) := (96,fnSpec sside_S) :: sp_sarea
theorem sp_sside_ok : SpecsOk Try.prog sp_sside := SpecsOk.add (fn := Try.f96) (by kernel_rfl) sside_ok sp_sarea_ok
noncomputable def mright (x : I6) : Bool :=
 (letV (sarea x) fun y =>
 (if ((y.2 == (0:Int)) = true) then
 (y.1 != (0:Int)) else
 false))
noncomputable def mright_pre (x : I6) : Prop :=
 (sarea_pre x)
noncomputable def mright_t (x : I6) : Tr Bool true :=
 (.fn sarea_S x fun y =>
 (.b00 (y.2 == z0)
 (.ret (y.1 != z0))
 (.ret false)))
noncomputable abbrev mright_S : FnS := ⟨(.agg yy6),(.one Ty.bool),mright_pre,mright⟩
theorem mright_ok : SpecOk Try.prog 50 (fnSpec mright_S) := SpecOk.tr mright_S mright_t (fn := Try.f50) tt_ok sp_sside_ok mixed (by kernel_rfl) (ItsOk.nil _ _) (fun x => LpsOk.nil) (fun x => (by kernel_rfl)) fun x Q => (by kernel_rfl)
def sp_mright : List (Nat × Ev.Spec) := (50,fnSpec mright_S) :: sp_sside
theorem sp_mright_ok : SpecsOk Try.prog sp_mright := SpecsOk.add (fn := Try.f50) (by kernel_rfl) mright_ok sp_sside_ok
noncomputable def fsize (x:Int) : I2 :=
 (if (x < (0:Int)) then
 ((0:Int),(5:Int)) else
 (if (x > (4096:Int)) then
 ((0:Int),(5:Int)) else
 ((w64 ((w64 (Int.tdiv x (16:Int))) + (1:Int))),(0:Int))))
noncomputable def fsize_pre (_:Int) : Prop := True
noncomputable def fsize_t (x:Int) : Tr I2 false :=
 (.i00 (x < z0)
 (.ret (z0,(5:Int)))
 (.i00 (x > (4096:Int))
 (.ret (z0,(5:Int)))
 (.ret ((w1 (w64 (Int.tdiv x (16:Int)))),z0))))
noncomputable abbrev fsize_S : FnS := ⟨(.one yi),(.pair (.one yi) (.one yi)),fsize_pre,fsize⟩
theorem fsize_ok : SpecOk Try.prog 77 (fnSpec fsize_S) := SpecOk.tr fsize_S fsize_t (fn := Try.f77) tt_ok sp_mright_ok mixed (by kernel_rfl) (ItsOk.nil _ _) (fun x => LpsOk.nil) (fun x => (by kernel_rfl)) fun x Q => (by kernel_rfl)
def sp_fsize : List (Nat × Ev.Spec) := (77,fnSpec fsize_S) :: sp_mright
theorem sp_fsize_ok : SpecsOk Try.prog sp_fsize := SpecsOk.add (fn := Try.f77) (by kernel_rfl) fsize_ok sp_mright_ok
noncomputable def fsizes (x : I2) : I2 :=
 (letV (fsize x.1) fun y =>
 (letV (fsize x.2) fun y_1 =>
 (y.1,y_1.1)))
noncomputable def fsizes_pre (_ : I2) : Prop := True
noncomputable def fsizes_t (x : I2) : Tr I2 false :=
 (.fn0 fsize_S x.1 trivial fun y =>
 (.fn0 fsize_S x.2 trivial fun y_1 =>
 (.ret (y.1,y_1.1))))
noncomputable abbrev fsizes_S : FnS := ⟨(.agg yy2),(.pair (.one yi) (.one yi)),fsizes_pre,fsizes⟩
theorem fsizes_ok : SpecOk Try.prog 53 (fnSpec fsizes_S) := SpecOk.tr fsizes_S fsizes_t (fn := Try.f53) tt_ok sp_fsize_ok mixed (by kernel_rfl) (ItsOk.nil _ _) (fun x => LpsOk.nil) (fun x => (by kernel_rfl)) fun x Q => (by kernel_rfl)
def sp_fsizes : List (Nat × Ev.Spec) := (53,fnSpec fsizes_S) :: sp_fsize
theorem sp_fsizes_ok : SpecsOk Try.prog sp_fsizes := SpecsOk.add (fn := Try.f53) (by kernel_rfl) fsizes_ok sp_fsize_ok
noncomputable def odd (x : I6) : Bool :=
 (letV (mright x) fun y =>
 (!y))
noncomputable def odd_pre (x : I6) : Prop :=
 (mright_pre x)
noncomputable def odd_t (x : I6) : Tr Bool true :=
 (.fn mright_S x fun y =>
 (.ret (!y)))
noncomputable abbrev odd_S : FnS := ⟨(.agg yy6),(.one Ty.bool),odd_pre,odd⟩
theorem odd_ok : SpecOk Try.prog 49 (fnSpec odd_S) := SpecOk.tr odd_S odd_t (fn := Try.f49) tt_ok sp_fsizes_ok mixed (by kernel_rfl) (ItsOk.nil _ _) (fun x => LpsOk.nil) (fun x => (by kernel_rfl)) fun x Q => (by kernel_rfl)
def sp_odd : List (Nat × Ev.Spec) := (49,fnSpec odd_S) :: sp_fsizes
theorem sp_odd_ok : SpecsOk Try.prog sp_odd := SpecsOk.add (fn := Try.f49) (by kernel_rfl) odd_ok sp_fsizes_ok
noncomputable def indexT_l0 (x : ((List I6) × Bool)) : LoopD := ⟨[],⟨pvs 19 0 [(0,.v (.one (.full 0))),(1,.v (.one (.clo 49 0 []))),(7,.v (.one (.i .i64))),(8,.v (.one (.i .i64)))],[.row yy6 0],0,none,[],[0,2],[1],[.i],[.i (((List.length x.1):Nat):Int),.l yy6 x.1]⟩,[⟨.ret,.ret,⟨pvs 19 0 [(4,.v (.one (.i .i64)))],[],0,none,[],[],[0],[.i],[]⟩⟩,⟨(.exit 0),.normal,⟨pvs 19 0 [],[],0,none,[],[],[],[],[]⟩⟩]⟩
noncomputable def indexT_l0_step (x : ((List I6) × Bool)) (s:Int) : Int ⊕ (Int ⊕ Unit) :=
 (if (s < (((List.length x.1):Nat):Int)) then
 (letV (odd (List.getD x.1 (Int.toNat s) (((0:Int),(0:Int)),(((0:Int),(0:Int)),((0:Int),(0:Int)))))) fun y =>
 (if (y = true) then
 (Sum.inr (Sum.inl s)) else
 (Sum.inl (w64 (s + (1:Int)))))) else
 (Sum.inr (Sum.inr (()))))
noncomputable def indexT_l0_pre (x : ((List I6) × Bool)) (s:Int) : Prop :=
 ((s < (((List.length x.1):Nat):Int)) →
 ((((0:Int) ≤ s) ∧ (s < (((List.length x.1):Nat):Int))) ∧
 (((Int.toNat s) < (List.length x.1)) ∧
 (((Int.toNat s) < (List.length x.1)) ∧
 (odd_pre (List.getD x.1 (Int.toNat s) (((0:Int),(0:Int)),(((0:Int),(0:Int)),((0:Int),(0:Int))))))))))
noncomputable def indexT_l0_t (x : ((List I6) × Bool)) (s:Int) : Tr (Int ⊕ (Int ⊕ Unit)) true :=
 (.i10 (s < (nL x.1))
 (.oR s (nL x.1)
 (.od ((tN s) < (List.length x.1))
 (.od ((tN s) < (List.length x.1))
 (.fn odd_S (gT x.1 s zz6) fun y =>
 (.b00 y
 (.ret (.inr (Sum.inl s)))
 (.ret (.inl (w1 s))))))))
 (.ret (.inr (Sum.inr (())))))
noncomputable def indexT (x : ((List I6) × Bool)) : Int :=
 (letV (run (indexT_l0_step x) (0:Int)) fun r =>
 (Sum.elim (fun a =>
 a) (fun b =>
 (-1:Int)) r))
noncomputable def indexT_pre (x : ((List I6) × Bool)) : Prop :=
 (Term (indexT_l0_step x) (indexT_l0_pre x) (0:Int))
noncomputable def indexT_t (x : ((List I6) × Bool)) : Tr Int true :=
 (LoopD.lp (indexT_l0 x) (indexT_l0_t x) z0 fun r =>
 (.s00 r (fun a =>
 (.ret a)) (fun b =>
 (.ret (-1:Int)))))
noncomputable abbrev indexT_S : FnS := ⟨(.pair (.one (Ty.sl yy6)) (.clo 49 .none)),(.one yi),indexT_pre,indexT⟩
theorem indexT_ok : SpecOk Try.prog 74 (fnSpec indexT_S) := SpecOk.tr indexT_S indexT_t (fn := Try.f74) tt_ok sp_odd_ok mixed (by kernel_rfl) (ItsOk.nil _ _) (fun x => (LpsOk.tr tt_ok (SpecsOk.ctxI sp_odd_ok (ItsOk.nil _ _)) mixed 0 (indexT_l0 x) (indexT_l0_t x) LpsOk.nil (by kernel_rfl) fun g s Q => (by kernel_rfl))) (fun x => (by kernel_rfl)) fun x Q => (by kernel_rfl)
def sp_indexT : List (Nat × Ev.Spec) := (74,fnSpec indexT_S) :: sp_odd
theorem sp_indexT_ok : SpecsOk Try.prog sp_indexT := SpecsOk.add (fn := Try.f74) (by kernel_rfl) indexT_ok sp_odd_ok
noncomputable def containsT (x : ((List I6) × Bool)) : Bool :=
 (letV (indexT (x.1,false)) fun y =>
 (decide (y ≥ (0:Int))))
noncomputable def containsT_pre (x : ((List I6) × Bool)) : Prop :=
 (indexT_pre (x.1,false))
noncomputable def containsT_t (x : ((List I6) × Bool)) : Tr Bool true :=
 (.fn indexT_S (x.1,false) fun y =>
 (.ret (decide (y ≥ z0))))
noncomputable abbrev containsT_S : FnS := ⟨(.pair (.one (Ty.sl yy6)) (.clo 49 .none)),(.one Ty.bool),containsT_pre,containsT⟩
theorem containsT_ok : SpecOk Try.prog 51 (fnSpec containsT_S) := SpecOk.tr containsT_S containsT_t (fn := Try.f51) tt_ok sp_indexT_ok mixed (by kernel_rfl) (ItsOk.nil _ _) (fun x => LpsOk.nil) (fun x => (by kernel_rfl)) fun x Q => (by kernel_rfl)
def sp_containsT : List (Nat × Ev.Spec) := (51,fnSpec containsT_S) :: sp_indexT
theorem sp_containsT_ok : SpecsOk Try.prog sp_containsT := SpecsOk.add (fn := Try.f51) (by kernel_rfl) containsT_ok sp_indexT_ok
noncomputable def mside (x : (I2 × (I2 × (I2 × Int)))) : Int :=
 (letV (sside (x.2.1,(x.2.2.1,x.1))) fun y =>
 (w64 (x.2.2.2 * y.1)))
noncomputable def mside_pre (x : (I2 × (I2 × (I2 × Int)))) : Prop :=
 (sside_pre (x.2.1,(x.2.2.1,x.1)))
noncomputable def mside_t (x : (I2 × (I2 × (I2 × Int)))) : Tr Int true :=
 (.fn sside_S (x.2.1,(x.2.2.1,x.1)) fun y =>
 (.ret (w64 (x.2.2.2 * y.1))))
noncomputable abbrev mside_S : FnS := ⟨(.pair (.agg yy2) (.pair (.ptr (.prod (.int .i64) (.int .i64))) (.pair (.ptr (.prod (.int .i64) (.int .i64))) (.ptr (.int .i64))))),(.one yi),mside_pre,mside⟩
theorem mside_ok : SpecOk Try.prog 97 (fnSpec mside_S) := SpecOk.tr mside_S mside_t (fn := Try.f97) tt_ok sp_containsT_ok mixed (by kernel_rfl) (ItsOk.nil _ _) (fun x => LpsOk.nil) (fun x => (by kernel_rfl)) fun x Q => (by kernel_rfl)
def sp_mside : List (Nat × Ev.Spec) := (97,fnSpec mside_S) :: sp_containsT
theorem sp_mside_ok : SpecsOk Try.prog sp_mside := SpecsOk.add (fn := Try.f97) (by kernel_rfl) mside_ok sp_containsT_ok
end Go.Proofs.Ytbjfokijjefoeaa
