/- Models of functions of layer 16: copies, turned triangles. -/
import Derived.Test.YtpbbnoggkbfkoaaFb
noncomputable section
set_option linter.unusedSectionVars false
set_option linter.unusedVariables false
set_option linter.unusedSimpArgs false
namespace Go.Proofs.Ytpbbnoggkbfkoaa
open Go Go.Ev Go.Proofs
def cloneI (x : (List Int)) : (List Int) :=
 ((List.replicate 0 (0:Int)) ++ x)
def cloneI_pre (x : (List Int)) : Prop :=
 (∀ b : Bool,((0 < (List.length x)) → (b = false)) → (((if (b = true) then
 [] else
 ((List.replicate 0 (0:Int)) ++ x)) = ((List.replicate 0 (0:Int)) ++ x)) ∧ (¬ (b = true) →
 ((0 + (List.length x)) < 1099511627776))))
def cloneI_t (x : (List Int)) : Tr (List Int) true :=
 (.nil (fun b => ((0 < (List.length x)) → (b = false))) fun b =>
 (.b01 b
 (.ret [])
 (.od ((0 + (List.length x)) < 1099511627776)
 (.ret ((List.replicate 0 z0) ++ x)))))
abbrev cloneI_S : FnS := ⟨(.one (Ty.sl yi)),(.one (Ty.sl yi)),cloneI_pre,cloneI⟩
theorem cloneI_ok : SpecOk Try.prog 25 (fnSpec cloneI_S) := SpecOk.tr cloneI_S cloneI_t (fn := Try.f25) tt_ok sp_mside_ok mixed (by kernel_rfl) (ItsOk.dead 25 (fn := Try.f25) (by kernel_rfl)) (fun x => LpsOk.nil) (fun x => (by kernel_rfl)) fun x Q => (by kernel_rfl)
def sp_cloneI : List (Nat × Ev.Spec) := (25,fnSpec cloneI_S) :: sp_mside
theorem sp_cloneI_ok : SpecsOk Try.prog sp_cloneI := SpecsOk.add (fn := Try.f25) (by kernel_rfl) cloneI_ok sp_mside_ok
def cloneT (x : (List I6)) : (List I6) :=
 ((List.replicate 0 (((0:Int),(0:Int)),(((0:Int),(0:Int)),((0:Int),(0:Int))))) ++ x)
def cloneT_pre (x : (List I6)) : Prop :=
 (∀ b : Bool,((0 < (List.length x)) → (b = false)) → (((if (b = true) then
 [] else
 ((List.replicate 0 (((0:Int),(0:Int)),(((0:Int),(0:Int)),((0:Int),(0:Int))))) ++ x)) = ((List.replicate 0 (((0:Int),(0:Int)),(((0:Int),(0:Int)),((0:Int),(0:Int))))) ++ x)) ∧ (¬ (b = true) →
 ((0 + (List.length x)) < 1099511627776))))
def cloneT_t (x : (List I6)) : Tr (List I6) true :=
 (.nil (fun b => ((0 < (List.length x)) → (b = false))) fun b =>
 (.b01 b
 (.ret [])
 (.od ((0 + (List.length x)) < 1099511627776)
 (.ret ((List.replicate 0 zz6) ++ x)))))
abbrev cloneT_S : FnS := ⟨(.one (Ty.sl yy6)),(.one (Ty.sl yy6)),cloneT_pre,cloneT⟩
theorem cloneT_ok : SpecOk Try.prog 42 (fnSpec cloneT_S) := SpecOk.tr cloneT_S cloneT_t (fn := Try.f42) tt_ok sp_cloneI_ok mixed (by kernel_rfl) (ItsOk.dead 42 (fn := Try.f42) (by kernel_rfl)) (fun x => LpsOk.nil) (fun x => (by kernel_rfl)) fun x Q => (by kernel_rfl)
def sp_cloneT : List (Nat × Ev.Spec) := (42,fnSpec cloneT_S) :: sp_cloneI
theorem sp_cloneT_ok : SpecsOk Try.prog sp_cloneT := SpecsOk.add (fn := Try.f42) (by kernel_rfl) cloneT_ok sp_cloneI_ok
def layc (x : (I2 × (I2 × Int))) : I2 :=
 ((w64 ((w64 (x.1.1 - x.2.1.1)) * x.2.2)),(w64 ((w64 (x.1.2 - x.2.1.2)) * x.2.2)))
def layc_pre (_ : (I2 × (I2 × Int))) : Prop := True
def layc_t (x : (I2 × (I2 × Int))) : Tr I2 false :=
 (.ret ((w64 ((w64 (x.1.1 - x.2.1.1)) * x.2.2)),(w64 ((w64 (x.1.2 - x.2.1.2)) * x.2.2))))
abbrev layc_S : FnS := ⟨(.pair (.agg yy2) (.pair (.ptr (.prod (.int .i64) (.int .i64))) (.ptr (.int .i64)))),(.agg yy2),layc_pre,layc⟩
theorem layc_ok : SpecOk Try.prog 21 (fnSpec layc_S) := SpecOk.tr layc_S layc_t (fn := Try.f21) tt_ok sp_cloneT_ok mixed (by kernel_rfl) (ItsOk.nil _ _) (fun x => LpsOk.nil) (fun x => (by kernel_rfl)) fun x Q => (by kernel_rfl)
def sp_layc : List (Nat × Ev.Spec) := (21,fnSpec layc_S) :: sp_cloneT
theorem sp_layc_ok : SpecsOk Try.prog sp_layc := SpecsOk.add (fn := Try.f21) (by kernel_rfl) layc_ok sp_cloneT_ok
def movec (x : (I2 × I2)) : I2 :=
 ((w64 (x.1.1 + x.2.1)),(w64 (x.1.2 + x.2.2)))
def movec_pre (_ : (I2 × I2)) : Prop := True
def movec_t (x : (I2 × I2)) : Tr I2 false :=
 (.ret ((w64 (x.1.1 + x.2.1)),(w64 (x.1.2 + x.2.2))))
abbrev movec_S : FnS := ⟨(.pair (.agg yy2) (.ptr (.prod (.int .i64) (.int .i64)))),(.agg yy2),movec_pre,movec⟩
theorem movec_ok : SpecOk Try.prog 34 (fnSpec movec_S) := SpecOk.tr movec_S movec_t (fn := Try.f34) tt_ok sp_layc_ok mixed (by kernel_rfl) (ItsOk.nil _ _) (fun x => LpsOk.nil) (fun x => (by kernel_rfl)) fun x Q => (by kernel_rfl)
def sp_movec : List (Nat × Ev.Spec) := (34,fnSpec movec_S) :: sp_layc
theorem sp_movec_ok : SpecsOk Try.prog sp_movec := SpecsOk.add (fn := Try.f34) (by kernel_rfl) movec_ok sp_layc_ok
def turnedL_l0 (x : ((List I6) × (I2 × Int))) : LoopD := ⟨[],⟨pvs 35 0 [(1,.v (.one (.clo 21 0 [.elem 0,.elem 1]))),(5,.v (.one (.full 2))),(12,.v (.one (.full 2))),(13,.v (.one (.i .i64))),(14,.v (.one (.i .i64)))],[.row yy2 0,.row yi 0,.row yy6 2],0,none,[],[0,1,4,5],[6,2,3],[(.l yy6),.i,.i],[.n 0,.n 0,.l yy2 [x.2.1],.l yi [x.2.2]]⟩,[⟨(.exit 0),.normal,⟨pvs 35 0 [(5,.v (.one (.full 0)))],[.row yy6 2],0,none,[],[],[0],[(.l yy6)],[]⟩⟩]⟩
def turnedL_l0_step (x : ((List I6) × (I2 × Int))) (s : ((List I6) × I2)) : ((List I6) × I2) ⊕ (List I6) :=
 (if (s.2.2 < s.2.1) then
 (letV (layc ((List.getD s.1 (Int.toNat s.2.2) (((0:Int),(0:Int)),(((0:Int),(0:Int)),((0:Int),(0:Int))))).1,x.2)) fun y =>
 (letV (List.set s.1 (Int.toNat s.2.2) (y,(List.getD s.1 (Int.toNat s.2.2) (((0:Int),(0:Int)),(((0:Int),(0:Int)),((0:Int),(0:Int))))).2)) fun y_1 =>
 (letV (layc ((List.getD s.1 (Int.toNat s.2.2) (((0:Int),(0:Int)),(((0:Int),(0:Int)),((0:Int),(0:Int))))).2.1,x.2)) fun y_2 =>
 (letV (List.set y_1 (Int.toNat s.2.2) ((List.getD y_1 (Int.toNat s.2.2) (((0:Int),(0:Int)),(((0:Int),(0:Int)),((0:Int),(0:Int))))).1,(y_2,(List.getD y_1 (Int.toNat s.2.2) (((0:Int),(0:Int)),(((0:Int),(0:Int)),((0:Int),(0:Int))))).2.2))) fun y_3 =>
 (letV (layc ((List.getD s.1 (Int.toNat s.2.2) (((0:Int),(0:Int)),(((0:Int),(0:Int)),((0:Int),(0:Int))))).2.2,x.2)) fun y_4 =>
 (letV (List.set y_3 (Int.toNat s.2.2) ((List.getD y_3 (Int.toNat s.2.2) (((0:Int),(0:Int)),(((0:Int),(0:Int)),((0:Int),(0:Int))))).1,((List.getD y_3 (Int.toNat s.2.2) (((0:Int),(0:Int)),(((0:Int),(0:Int)),((0:Int),(0:Int))))).2.1,y_4))) fun y_5 =>
 (Sum.inl (y_5,(s.2.1,(w64 (s.2.2 + (1:Int)))))))))))) else
 (Sum.inr (s.1)))
def turnedL_l0_pre (x : ((List I6) × (I2 × Int))) (s : ((List I6) × I2)) : Prop :=
 ((s.2.2 < s.2.1) →
 ((((0:Int) ≤ s.2.2) ∧ (s.2.2 < (s.1.length:Int))) ∧
 (((Int.toNat s.2.2) < (List.length s.1)) ∧
 (((Int.toNat s.2.2) < (List.length s.1)) ∧
 (letP (layc ((List.getD s.1 (Int.toNat s.2.2) (((0:Int),(0:Int)),(((0:Int),(0:Int)),((0:Int),(0:Int))))).1,x.2)) fun y =>
 ((((0:Int) ≤ s.2.2) ∧ (s.2.2 < (s.1.length:Int))) ∧
 (((Int.toNat s.2.2) < (List.length s.1)) ∧
 (((Int.toNat s.2.2) < (List.length s.1)) ∧
 (((Int.toNat s.2.2) < (List.length s.1)) ∧
 (letP (List.set s.1 (Int.toNat s.2.2) (y,(List.getD s.1 (Int.toNat s.2.2) (((0:Int),(0:Int)),(((0:Int),(0:Int)),((0:Int),(0:Int))))).2)) fun y_1 =>
 (letP (layc ((List.getD s.1 (Int.toNat s.2.2) (((0:Int),(0:Int)),(((0:Int),(0:Int)),((0:Int),(0:Int))))).2.1,x.2)) fun y_2 =>
 ((((0:Int) ≤ s.2.2) ∧ (s.2.2 < (y_1.length:Int))) ∧
 (((Int.toNat s.2.2) < (List.length y_1)) ∧
 (((Int.toNat s.2.2) < (List.length y_1)) ∧
 (((Int.toNat s.2.2) < (List.length y_1)) ∧
 (letP (List.set y_1 (Int.toNat s.2.2) ((List.getD y_1 (Int.toNat s.2.2) (((0:Int),(0:Int)),(((0:Int),(0:Int)),((0:Int),(0:Int))))).1,(y_2,(List.getD y_1 (Int.toNat s.2.2) (((0:Int),(0:Int)),(((0:Int),(0:Int)),((0:Int),(0:Int))))).2.2))) fun y_3 =>
 (letP (layc ((List.getD s.1 (Int.toNat s.2.2) (((0:Int),(0:Int)),(((0:Int),(0:Int)),((0:Int),(0:Int))))).2.2,x.2)) fun y_4 =>
 ((((0:Int) ≤ s.2.2) ∧ (s.2.2 < (y_3.length:Int))) ∧
 (((Int.toNat s.2.2) < (List.length y_3)) ∧
 (((Int.toNat s.2.2) < (List.length y_3)) ∧
 ((Int.toNat s.2.2) < (List.length y_3))))))))))))))))))))))
def turnedL_l0_t (x : ((List I6) × (I2 × Int))) (s : ((List I6) × I2)) : Tr (((List I6) × I2) ⊕ (List I6)) true :=
 (.i10 (s.2.2 < s.2.1)
 (.oI2 s.2.2 s.1
 (.fn0 layc_S ((gT s.1 s.2.2 zz6).1,x.2) trivial fun y =>
 (.oI3 s.2.2 s.1
 (.lt (List.set s.1 (tN s.2.2) (y,(gT s.1 s.2.2 zz6).2)) fun y_1 =>
 (.fn0 layc_S ((gT s.1 s.2.2 zz6).2.1,x.2) trivial fun y_2 =>
 (.oI3 s.2.2 y_1
 (.lt (List.set y_1 (tN s.2.2) ((gT y_1 s.2.2 zz6).1,(y_2,(gT y_1 s.2.2 zz6).2.2))) fun y_3 =>
 (.fn0 layc_S ((gT s.1 s.2.2 zz6).2.2,x.2) trivial fun y_4 =>
 (.oI3 s.2.2 y_3
 (.lt (List.set y_3 (tN s.2.2) ((gT y_3 s.2.2 zz6).1,((gT y_3 s.2.2 zz6).2.1,y_4))) fun y_5 =>
 (.ret (.inl (y_5,(s.2.1,(w1 s.2.2)))))))))))))))
 (.ret (.inr (s.1))))
def turnedL (x : ((List I6) × (I2 × Int))) : (List I6) :=
 (letV (cloneT x.1) fun y =>
 (letV (run (turnedL_l0_step x) (y,((y.length:Int),(0:Int)))) fun r =>
 r))
def turnedL_pre (x : ((List I6) × (I2 × Int))) : Prop :=
 ((cloneT_pre x.1) ∧
 letP (cloneT x.1) fun y =>
 (Term (turnedL_l0_step x) (turnedL_l0_pre x) (y,((y.length:Int),(0:Int)))))
def turnedL_t (x : ((List I6) × (I2 × Int))) : Tr (List I6) true :=
 (.fn cloneT_S x.1 fun y =>
 (LoopD.lp (turnedL_l0 x) (turnedL_l0_t x) (y,((nL y),z0)) fun r =>
 (.ret r)))
abbrev turnedL_S : FnS := ⟨(.pair (.one (Ty.sl yy6)) (.clo 21 (.pair (.ptr (.prod (.int .i64) (.int .i64))) (.ptr (.int .i64))))),(.one (Ty.sl yy6)),turnedL_pre,turnedL⟩
theorem turnedL_ok : SpecOk Try.prog 22 (fnSpec turnedL_S) := SpecOk.tr turnedL_S turnedL_t (fn := Try.f22) tt_ok sp_movec_ok mixed (by kernel_rfl) (ItsOk.nil _ _) (fun x => (LpsOk.tr tt_ok (SpecsOk.ctxI sp_movec_ok (ItsOk.nil _ _)) mixed 0 (turnedL_l0 x) (turnedL_l0_t x) (LpsOk.unrollT tt_ok (SpecsOk.ctxI sp_movec_ok (ItsOk.nil _ _)) mixed 2 4 LpsOk.nil (by kernel_rfl)) (by kernel_rfl) fun g s Q => (by kernel_rfl))) (fun x => (by kernel_rfl)) fun x Q => (by kernel_rfl)
def sp_turnedL : List (Nat × Ev.Spec) := (22,fnSpec turnedL_S) :: sp_movec
theorem sp_turnedL_ok : SpecsOk Try.prog sp_turnedL := SpecsOk.add (fn := Try.f22) (by kernel_rfl) turnedL_ok sp_movec_ok
def turnedM_l0 (x : ((List I6) × I2)) : LoopD := ⟨[],⟨pvs 35 0 [(1,.v (.one (.clo 34 0 [.elem 0]))),(5,.v (.one (.full 1))),(12,.v (.one (.full 1))),(13,.v (.one (.i .i64))),(14,.v (.one (.i .i64)))],[.row yy2 0,.row yy6 2],0,none,[],[0,3],[4,1,2],[(.l yy6),.i,.i],[.n 0,.l yy2 [x.2]]⟩,[⟨(.exit 0),.normal,⟨pvs 35 0 [(5,.v (.one (.full 0)))],[.row yy6 2],0,none,[],[],[0],[(.l yy6)],[]⟩⟩]⟩
def turnedM_l0_step (x : ((List I6) × I2)) (s : ((List I6) × I2)) : ((List I6) × I2) ⊕ (List I6) :=
 (if (s.2.2 < s.2.1) then
 (letV (movec ((List.getD s.1 (Int.toNat s.2.2) (((0:Int),(0:Int)),(((0:Int),(0:Int)),((0:Int),(0:Int))))).1,x.2)) fun y =>
 (letV (List.set s.1 (Int.toNat s.2.2) (y,(List.getD s.1 (Int.toNat s.2.2) (((0:Int),(0:Int)),(((0:Int),(0:Int)),((0:Int),(0:Int))))).2)) fun y_1 =>
 (letV (movec ((List.getD s.1 (Int.toNat s.2.2) (((0:Int),(0:Int)),(((0:Int),(0:Int)),((0:Int),(0:Int))))).2.1,x.2)) fun y_2 =>
 (letV (List.set y_1 (Int.toNat s.2.2) ((List.getD y_1 (Int.toNat s.2.2) (((0:Int),(0:Int)),(((0:Int),(0:Int)),((0:Int),(0:Int))))).1,(y_2,(List.getD y_1 (Int.toNat s.2.2) (((0:Int),(0:Int)),(((0:Int),(0:Int)),((0:Int),(0:Int))))).2.2))) fun y_3 =>
 (letV (movec ((List.getD s.1 (Int.toNat s.2.2) (((0:Int),(0:Int)),(((0:Int),(0:Int)),((0:Int),(0:Int))))).2.2,x.2)) fun y_4 =>
 (letV (List.set y_3 (Int.toNat s.2.2) ((List.getD y_3 (Int.toNat s.2.2) (((0:Int),(0:Int)),(((0:Int),(0:Int)),((0:Int),(0:Int))))).1,((List.getD y_3 (Int.toNat s.2.2) (((0:Int),(0:Int)),(((0:Int),(0:Int)),((0:Int),(0:Int))))).2.1,y_4))) fun y_5 =>
 (Sum.inl (y_5,(s.2.1,(w64 (s.2.2 + (1:Int)))))))))))) else
 (Sum.inr (s.1)))
def turnedM_l0_pre (x : ((List I6) × I2)) (s : ((List I6) × I2)) : Prop :=
 ((s.2.2 < s.2.1) →
 ((((0:Int) ≤ s.2.2) ∧ (s.2.2 < (s.1.length:Int))) ∧
 (((Int.toNat s.2.2) < (List.length s.1)) ∧
 (((Int.toNat s.2.2) < (List.length s.1)) ∧
 (letP (movec ((List.getD s.1 (Int.toNat s.2.2) (((0:Int),(0:Int)),(((0:Int),(0:Int)),((0:Int),(0:Int))))).1,x.2)) fun y =>
 ((((0:Int) ≤ s.2.2) ∧ (s.2.2 < (s.1.length:Int))) ∧
 (((Int.toNat s.2.2) < (List.length s.1)) ∧
 (((Int.toNat s.2.2) < (List.length s.1)) ∧
 (((Int.toNat s.2.2) < (List.length s.1)) ∧
 (letP (List.set s.1 (Int.toNat s.2.2) (y,(List.getD s.1 (Int.toNat s.2.2) (((0:Int),(0:Int)),(((0:Int),(0:Int)),((0:Int),(0:Int))))).2)) fun y_1 =>
 (letP (movec ((List.getD s.1 (Int.toNat s.2.2) (((0:Int),(0:Int)),(((0:Int),(0:Int)),((0:Int),(0:Int))))).2.1,x.2)) fun y_2 =>
 ((((0:Int) ≤ s.2.2) ∧ (s.2.2 < (y_1.length:Int))) ∧
 (((Int.toNat s.2.2) < (List.length y_1)) ∧
 (((Int.toNat s.2.2) < (List.length y_1)) ∧
 (((Int.toNat s.2.2) < (List.length y_1)) ∧
 (letP (List.set y_1 (Int.toNat s.2.2) ((List.getD y_1 (Int.toNat s.2.2) (((0:Int),(0:Int)),(((0:Int),(0:Int)),((0:Int),(0:Int))))).1,(y_2,(List.getD y_1 (Int.toNat s.2.2) (((0:Int),(0:Int)),(((0:Int),(0:Int)),((0:Int),(0:Int))))).2.2))) fun y_3 =>
 (letP (movec ((List.getD s.1 (Int.toNat s.2.2) (((0:Int),(0:Int)),(((0:Int),(0:Int)),((0:Int),(0:Int))))).2.2,x.2)) fun y_4 =>
 ((((0:Int) ≤ s.2.2) ∧ (s.2.2 < (y_3.length:Int))) ∧
 (((Int.toNat s.2.2) < (List.length y_3)) ∧
 (((Int.toNat s.2.2) < (List.length y_3)) ∧
 ((Int.toNat s.2.2) < (List.length y_3))))))))))))))))))))))
def turnedM_l0_t (x : ((List I6) × I2)) (s : ((List I6) × I2)) : Tr (((List I6) × I2) ⊕ (List I6)) true :=
 (.i10 (s.2.2 < s.2.1)
 (.oI2 s.2.2 s.1
 (.fn0 movec_S ((gT s.1 s.2.2 zz6).1,x.2) trivial fun y =>
 (.oI3 s.2.2 s.1
 (.lt (List.set s.1 (tN s.2.2) (y,(gT s.1 s.2.2 zz6).2)) fun y_1 =>
 (.fn0 movec_S ((gT s.1 s.2.2 zz6).2.1,x.2) trivial fun y_2 =>
 (.oI3 s.2.2 y_1
 (.lt (List.set y_1 (tN s.2.2) ((gT y_1 s.2.2 zz6).1,(y_2,(gT y_1 s.2.2 zz6).2.2))) fun y_3 =>
 (.fn0 movec_S ((gT s.1 s.2.2 zz6).2.2,x.2) trivial fun y_4 =>
 (.oI3 s.2.2 y_3
 (.lt (List.set y_3 (tN s.2.2) ((gT y_3 s.2.2 zz6).1,((gT y_3 s.2.2 zz6).2.1,y_4))) fun y_5 =>
 (.ret (.inl (y_5,(s.2.1,(w1 s.2.2)))))))))))))))
 (.ret (.inr (s.1))))
def turnedM (x : ((List I6) × I2)) : (List I6) :=
 (letV (cloneT x.1) fun y =>
 (letV (run (turnedM_l0_step x) (y,((y.length:Int),(0:Int)))) fun r =>
 r))
def turnedM_pre (x : ((List I6) × I2)) : Prop :=
 ((cloneT_pre x.1) ∧
 letP (cloneT x.1) fun y =>
 (Term (turnedM_l0_step x) (turnedM_l0_pre x) (y,((y.length:Int),(0:Int)))))
def turnedM_t (x : ((List I6) × I2)) : Tr (List I6) true :=
 (.fn cloneT_S x.1 fun y =>
 (LoopD.lp (turnedM_l0 x) (turnedM_l0_t x) (y,((nL y),z0)) fun r =>
 (.ret r)))
abbrev turnedM_S : FnS := ⟨(.pair (.one (Ty.sl yy6)) (.clo 34 (.ptr (.prod (.int .i64) (.int .i64))))),(.one (Ty.sl yy6)),turnedM_pre,turnedM⟩
theorem turnedM_ok : SpecOk Try.prog 22 (fnSpec turnedM_S) := SpecOk.tr turnedM_S turnedM_t (fn := Try.f22) tt_ok sp_turnedL_ok mixed (by kernel_rfl) (ItsOk.nil _ _) (fun x => (LpsOk.tr tt_ok (SpecsOk.ctxI sp_turnedL_ok (ItsOk.nil _ _)) mixed 0 (turnedM_l0 x) (turnedM_l0_t x) (LpsOk.unrollT tt_ok (SpecsOk.ctxI sp_turnedL_ok (ItsOk.nil _ _)) mixed 2 4 LpsOk.nil (by kernel_rfl)) (by kernel_rfl) fun g s Q => (by kernel_rfl))) (fun x => (by kernel_rfl)) fun x Q => (by kernel_rfl)
def sp_turnedM : List (Nat × Ev.Spec) := (22,altSpec turnedM_S.p (fnSpec turnedM_S) (fnSpec turnedL_S)) :: sp_turnedL
theorem sp_turnedM_ok : SpecsOk Try.prog sp_turnedM := SpecsOk.add (fn := Try.f22) (by kernel_rfl) (altSpec_ok turnedM_ok (turnedL_ok)) sp_turnedL_ok
end Go.Proofs.Ytpbbnoggkbfkoaa
