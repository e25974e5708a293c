/- Models of functions of layer 14: neighbours. -/
import Derived.Test.YtleemdeodmdnkaaSh
noncomputable section
set_option linter.unusedSectionVars false
set_option linter.unusedVariables false
set_option linter.unusedSimpArgs false
namespace Go.Proofs.Ytleemdeodmdnkaa
open Go Go.Ev Go.Proofs
def sp_slsort : List (Nat × Ev.Spec) := (55,sortSpec) :: sp_etable
theorem sp_slsort_ok : SpecsOk Try.prog sp_slsort := SpecsOk.add (fn := Try.f55) (by kernel_rfl) slsort_ok sp_etable_ok
def sp_slcomp : List (Nat × Ev.Spec) := (56,compSpec) :: sp_slsort
theorem sp_slcomp_ok : SpecsOk Try.prog sp_slcomp := SpecsOk.add (fn := Try.f56) (by kernel_rfl) slcomp_ok sp_slsort_ok
def enear_l2_7 (x : ((List (I2 × (List Int))) × (((List I3) × ((List I2) × ((List I3) × (List I9)))) × Int))) : LoopD := ⟨[.env],⟨pvs 44 0 [(0,.v (.one (.mp 0))),(2,.v (.one (.i .i64))),(7,.v (.one (.full 7))),(17,.v (.one (.full 8))),(18,.v (.one (.i .i64))),(19,.v (.one (.i .i64))),(25,.v (.one (.full 9))),(26,.v (.one (.i .i64))),(27,.v (.one (.i .i64)))],[.grp Bool.true yy2 yi 1,.set 0,.row yy3 0,.row yy2 0,.row yy3 0,.row yy9 0,.pin 6,.row yi 2,.row yy2 2,.gv 0 1 yy2 yi],7,none,[10],[0,5,6,7,8,9],[11,12,1,2,13,14,3,4],[(.l yi),(.l yy2),.i,.i,(.tv yy2),(.l yi),.i,.i],[.i x.2.2,.l (.prod yy2 (.sl yi)) x.1,.l yy3 x.2.1.1,.l yy2 x.2.1.2.1,.l yy3 x.2.1.2.2.1,.l yy9 x.2.1.2.2.2]⟩,[⟨(.exit 2),.normal,⟨pvs 44 0 [(0,.v (.one (.mp 0))),(2,.v (.one (.i .i64))),(7,.v (.one (.full 7))),(17,.v (.one (.full 8))),(18,.v (.one (.i .i64))),(19,.v (.one (.i .i64)))],[.grp Bool.true yy2 yi 1,.set 0,.row yy3 0,.row yy2 0,.row yy3 0,.row yy9 0,.pin 6,.row yi 2,.row yy2 2],7,none,[8],[0,3,4,5,6,7],[9,10,1,2],[(.l yi),(.l yy2),.i,.i],[.i x.2.2,.l (.prod yy2 (.sl yi)) x.1,.l yy3 x.2.1.1,.l yy2 x.2.1.2.1,.l yy3 x.2.1.2.2.1,.l yy9 x.2.1.2.2.2]⟩⟩]⟩
def enear_l2_7_step (x : ((List (I2 × (List Int))) × (((List I3) × ((List I2) × ((List I3) × (List I9)))) × Int))) (s : ((List Int) × ((List I2) × (Int × (Int × (I2 × ((List Int) × I2))))))) : ((List Int) × ((List I2) × (Int × (Int × (I2 × ((List Int) × I2)))))) ⊕ ((List Int) × ((List I2) × I2)) :=
 (if (s.2.2.2.2.2.2.2 < s.2.2.2.2.2.2.1) then
 (if (((List.getD s.2.2.2.2.2.1 (Int.toNat s.2.2.2.2.2.2.2) (0:Int)) != x.2.2) = true) then
 (Sum.inl ((s.1 ++ [(List.getD s.2.2.2.2.2.1 (Int.toNat s.2.2.2.2.2.2.2) (0:Int))]),(s.2.1,(s.2.2.1,(s.2.2.2.1,(s.2.2.2.2.1,(s.2.2.2.2.2.1,(s.2.2.2.2.2.2.1,(w64 (s.2.2.2.2.2.2.2 + (1:Int))))))))))) else
 (Sum.inl (s.1,(s.2.1,(s.2.2.1,(s.2.2.2.1,(s.2.2.2.2.1,(s.2.2.2.2.2.1,(s.2.2.2.2.2.2.1,(w64 (s.2.2.2.2.2.2.2 + (1:Int)))))))))))) else
 (Sum.inr ((s.1,(s.2.1,(s.2.2.1,s.2.2.2.1))))))
def enear_l2_7_pre (x : ((List (I2 × (List Int))) × (((List I3) × ((List I2) × ((List I3) × (List I9)))) × Int))) (s : ((List Int) × ((List I2) × (Int × (Int × (I2 × ((List Int) × I2))))))) : Prop :=
 ((s.2.2.2.2.2.2.2 < s.2.2.2.2.2.2.1) →
 ((((0:Int) ≤ s.2.2.2.2.2.2.2) ∧ (s.2.2.2.2.2.2.2 < (s.2.2.2.2.2.1.length:Int))) ∧
 (((Int.toNat s.2.2.2.2.2.2.2) < (List.length s.2.2.2.2.2.1)) ∧
 (((Int.toNat s.2.2.2.2.2.2.2) < (List.length s.2.2.2.2.2.1)) ∧
 ((((List.getD s.2.2.2.2.2.1 (Int.toNat s.2.2.2.2.2.2.2) (0:Int)) != x.2.2) = true) →
 (((List.length s.1) + 1) < 1099511627776))))))
def enear_l2_7_t (x : ((List (I2 × (List Int))) × (((List I3) × ((List I2) × ((List I3) × (List I9)))) × Int))) (s : ((List Int) × ((List I2) × (Int × (Int × (I2 × ((List Int) × I2))))))) : Tr (((List Int) × ((List I2) × (Int × (Int × (I2 × ((List Int) × I2)))))) ⊕ ((List Int) × ((List I2) × I2))) true :=
 (.i10 (s.2.2.2.2.2.2.2 < s.2.2.2.2.2.2.1)
 (.oI2 s.2.2.2.2.2.2.2 s.2.2.2.2.2.1
 (.b10 ((gI s.2.2.2.2.2.1 s.2.2.2.2.2.2.2) != x.2.2)
 (.od (((List.length s.1) + 1) < 1099511627776)
 (.ret (.inl ((s.1 ++ [(gI s.2.2.2.2.2.1 s.2.2.2.2.2.2.2)]),(s.2.1,(s.2.2.1,(s.2.2.2.1,(s.2.2.2.2.1,(s.2.2.2.2.2.1,(s.2.2.2.2.2.2.1,(w1 s.2.2.2.2.2.2.2)))))))))))
 (.ret (.inl (s.1,(s.2.1,(s.2.2.1,(s.2.2.2.1,(s.2.2.2.2.1,(s.2.2.2.2.2.1,(s.2.2.2.2.2.2.1,(w1 s.2.2.2.2.2.2.2))))))))))))
 (.ret (.inr ((s.1,(s.2.1,(s.2.2.1,s.2.2.2.1)))))))
def enear_l0_7 (x : ((List (I2 × (List Int))) × (((List I3) × ((List I2) × ((List I3) × (List I9)))) × Int))) : LoopD := ⟨[.env],⟨pvs 44 0 [(0,.v (.one (.mp 0))),(2,.v (.one (.i .i64))),(7,.v (.one (.full 7))),(17,.v (.one (.full 8))),(18,.v (.one (.i .i64))),(19,.v (.one (.i .i64)))],[.grp Bool.true yy2 yi 1,.set 0,.row yy3 0,.row yy2 0,.row yy3 0,.row yy9 0,.pin 6,.row yi 2,.row yy2 2],7,none,[8],[0,3,4,5,6,7],[9,10,1,2],[(.l yi),(.l yy2),.i,.i],[.i x.2.2,.l (.prod yy2 (.sl yi)) x.1,.l yy3 x.2.1.1,.l yy2 x.2.1.2.1,.l yy3 x.2.1.2.2.1,.l yy9 x.2.1.2.2.2]⟩,[⟨(.exit 0),.normal,⟨pvs 44 0 [(7,.v (.one (.full 7)))],[.grp Bool.true yy2 yi 1,.set 0,.row yy3 0,.row yy2 0,.row yy3 0,.row yy9 0,.pin 6,.row yi 2],7,none,[5],[0,1,2,3,4],[6],[(.l yi)],[.l (.prod yy2 (.sl yi)) x.1,.l yy3 x.2.1.1,.l yy2 x.2.1.2.1,.l yy3 x.2.1.2.2.1,.l yy9 x.2.1.2.2.2]⟩⟩]⟩
def enear_l0_7_step (x : ((List (I2 × (List Int))) × (((List I3) × ((List I2) × ((List I3) × (List I9)))) × Int))) (s : ((List Int) × ((List I2) × I2))) : ((List Int) × ((List I2) × I2)) ⊕ (List Int) :=
 (if (s.2.2.2 < s.2.2.1) then
 (letV (lookD (k := yy2) x.1 (List.getD s.2.1 (Int.toNat s.2.2.2) ((0:Int),(0:Int))) []) fun y =>
 (letV (run (enear_l2_7_step x) (s.1,(s.2.1,(s.2.2.1,(s.2.2.2,((List.getD s.2.1 (Int.toNat s.2.2.2) ((0:Int),(0:Int))),(y,((y.length:Int),(0:Int))))))))) fun r =>
 (Sum.inl (r.1,(r.2.1,(r.2.2.1,(w64 (r.2.2.2 + (1:Int))))))))) else
 (Sum.inr (s.1)))
def enear_l0_7_pre (x : ((List (I2 × (List Int))) × (((List I3) × ((List I2) × ((List I3) × (List I9)))) × Int))) (s : ((List Int) × ((List I2) × I2))) : Prop :=
 ((s.2.2.2 < s.2.2.1) →
 ((((0:Int) ≤ s.2.2.2) ∧ (s.2.2.2 < (s.2.1.length:Int))) ∧
 (((Int.toNat s.2.2.2) < (List.length s.2.1)) ∧
 (((Int.toNat s.2.2.2) < (List.length s.2.1)) ∧
 (letP (lookD (k := yy2) x.1 (List.getD s.2.1 (Int.toNat s.2.2.2) ((0:Int),(0:Int))) []) fun y =>
 (Term (enear_l2_7_step x) (enear_l2_7_pre x) (s.1,(s.2.1,(s.2.2.1,(s.2.2.2,((List.getD s.2.1 (Int.toNat s.2.2.2) ((0:Int),(0:Int))),(y,((y.length:Int),(0:Int))))))))))))))
def enear_l0_7_t (x : ((List (I2 × (List Int))) × (((List I3) × ((List I2) × ((List I3) × (List I9)))) × Int))) (s : ((List Int) × ((List I2) × I2))) : Tr (((List Int) × ((List I2) × I2)) ⊕ (List Int)) true :=
 (.i10 (s.2.2.2 < s.2.2.1)
 (.oI2 s.2.2.2 s.2.1
 (.fact (KeyE tt 58 yy2) key_58
 (.lt (lookD (k := yy2) x.1 (gT s.2.1 s.2.2.2 zz2) []) fun y =>
 (LoopD.lp (enear_l2_7 x) (enear_l2_7_t x) (s.1,(s.2.1,(s.2.2.1,(s.2.2.2,((gT s.2.1 s.2.2.2 zz2),(y,((nL y),z0))))))) fun r =>
 (.ret (.inl (r.1,(r.2.1,(r.2.2.1,(w1 r.2.2.2))))))))))
 (.ret (.inr (s.1))))
def enear (x : ((List (I2 × (List Int))) × (((List I3) × ((List I2) × ((List I3) × (List I9)))) × Int))) : ((List Int) × (List (I2 × (List Int)))) :=
 (letV (epairs (List.getD x.2.1.2.2.2 (Int.toNat x.2.2) (((0:Int),((0:Int),(0:Int))),(((0:Int),((0:Int),(0:Int))),((0:Int),((0:Int),(0:Int))))))) fun y =>
 (letV (run (enear_l0_7_step x) ([],(y,((y.length:Int),(0:Int))))) fun r =>
 (letV (sortZ r) fun y_1 =>
 (letV (compZ y_1) fun y_2 =>
 (y_2,x.1)))))
def enear_pre (x : ((List (I2 × (List Int))) × (((List I3) × ((List I2) × ((List I3) × (List I9)))) × Int))) : Prop :=
 ((((0:Int) ≤ x.2.2) ∧ (x.2.2 < (x.2.1.2.2.2.length:Int))) ∧
 (((Int.toNat x.2.2) < (List.length x.2.1.2.2.2)) ∧
 (((Int.toNat x.2.2) < (List.length x.2.1.2.2.2)) ∧
 ((epairs_pre (List.getD x.2.1.2.2.2 (Int.toNat x.2.2) (((0:Int),((0:Int),(0:Int))),(((0:Int),((0:Int),(0:Int))),((0:Int),((0:Int),(0:Int))))))) ∧
 letP (epairs (List.getD x.2.1.2.2.2 (Int.toNat x.2.2) (((0:Int),((0:Int),(0:Int))),(((0:Int),((0:Int),(0:Int))),((0:Int),((0:Int),(0:Int))))))) fun y =>
 (Term (enear_l0_7_step x) (enear_l0_7_pre x) ([],(y,((y.length:Int),(0:Int)))) ∧
 letP (run (enear_l0_7_step x) ([],(y,((y.length:Int),(0:Int))))) fun r =>
 (((List.length r) < 1099511627776) ∧
 (letP (sortZ r) fun y_1 =>
 ((List.length y_1) < 1099511627776))))))))
def enear_t (x : ((List (I2 × (List Int))) × (((List I3) × ((List I2) × ((List I3) × (List I9)))) × Int))) : Tr ((List Int) × (List (I2 × (List Int)))) true :=
 (.oI2 x.2.2 x.2.1.2.2.2
 (.fn epairs_S (gT x.2.1.2.2.2 x.2.2 zz9) fun y =>
 (LoopD.lp (enear_l0_7 x) (enear_l0_7_t x) ([],(y,((nL y),z0))) fun r =>
 (.od ((List.length r) < 1099511627776)
 (.lt (sortZ r) fun y_1 =>
 (.od ((List.length y_1) < 1099511627776)
 (.lt (compZ y_1) fun y_2 =>
 (.pn 0 6
 (.ret (y_2,x.1))))))))))
abbrev enear_S : FnL := ⟨(LPar.mk true yy2 yi (.pair (.agg (Ty.prod (Ty.sl yy3) (Ty.prod (Ty.sl yy2) (Ty.prod (Ty.sl yy3) (Ty.sl yy9))))) (.one yi))),(.one (Ty.sl yi)),enear_pre,enear⟩
theorem enear_ok : SpecOk Try.prog 37 (fnSpecL enear_S) := SpecOk.trL enear_S enear_t (fn := Try.f37) tt_ok sp_slcomp_ok mixed (by kernel_rfl) (ItsOk.nil _ _) (fun x => (LpsOk.tr tt_ok (SpecsOk.ctxI sp_slcomp_ok (ItsOk.nil _ _)) mixed 0 (enear_l0_7 x) (enear_l0_7_t x) (LpsOk.tr tt_ok (SpecsOk.ctxI sp_slcomp_ok (ItsOk.nil _ _)) mixed 2 (enear_l2_7 x) (enear_l2_7_t x) LpsOk.nil (by kernel_rfl) fun g s Q => (by kernel_rfl)) (by kernel_rfl) fun g s Q => (by kernel_rfl))) (fun x => (by kernel_rfl)) fun x r0 Q => (by kernel_rfl)
def sp_enear : List (Nat × Ev.Spec) := (37,fnSpecL enear_S) :: sp_slcomp
theorem sp_enear_ok : SpecsOk Try.prog sp_enear := SpecsOk.add (fn := Try.f37) (by kernel_rfl) enear_ok sp_slcomp_ok
def enext (x : (((List I3) × ((List I2) × ((List I3) × (List I9)))) × Int)) : ((List Int) × Int) :=
 (letV (meshis x.1) fun y =>
 (if ((!y) = true) then
 ([],(1:Int)) else
 (if (x.2 < (0:Int)) then
 ([],(1:Int)) else
 (if (x.2 ≥ (x.1.2.2.2.length:Int)) then
 ([],(1:Int)) else
 (letV (etable x.1) fun y_1 =>
 (letV (enear (y_1,x)) fun y_2 =>
 (y_2.1,(0:Int))))))))
def enext_pre (x : (((List I3) × ((List I2) × ((List I3) × (List I9)))) × Int)) : Prop :=
 ((meshis_pre x.1) ∧
 letP (meshis x.1) fun y =>
 (¬ ((!y) = true) →
 (¬ (x.2 < (0:Int)) →
 (¬ (x.2 ≥ (x.1.2.2.2.length:Int)) →
 ((etable_pre x.1) ∧
 letP (etable x.1) fun y_1 =>
 (enear_pre (y_1,x)))))))
def enext_t (x : (((List I3) × ((List I2) × ((List I3) × (List I9)))) × Int)) : Tr ((List Int) × Int) true :=
 (.fn meshis_S x.1 fun y =>
 (.b01 (!y)
 (.ret ([],z1))
 (.i01 (x.2 < z0)
 (.ret ([],z1))
 (.i01 (x.2 ≥ (nL x.1.2.2.2))
 (.ret ([],z1))
 (.fnG etable_S x.1 fun y_1 =>
 (.fnL enear_S (y_1,x) fun y_2 =>
 (.ret (y_2.1,z0))))))))
abbrev enext_S : FnS := ⟨(.pair (.agg (Ty.prod (Ty.sl yy3) (Ty.prod (Ty.sl yy2) (Ty.prod (Ty.sl yy3) (Ty.sl yy9))))) (.one yi)),(.pair (.one (Ty.sl yi)) (.one yi)),enext_pre,enext⟩
theorem enext_ok : SpecOk Try.prog 13 (fnSpec enext_S) := SpecOk.tr enext_S enext_t (fn := Try.f13) tt_ok sp_enear_ok mixed (by kernel_rfl) (ItsOk.nil _ _) (fun x => LpsOk.nil) (fun x => (by kernel_rfl)) fun x Q => (by kernel_rfl)
def sp_enext : List (Nat × Ev.Spec) := (13,fnSpec enext_S) :: sp_enear
theorem sp_enext_ok : SpecsOk Try.prog sp_enext := SpecsOk.add (fn := Try.f13) (by kernel_rfl) enext_ok sp_enear_ok
def mul32M (x : I2) : I2 :=
 ((IntKind.wrap IntKind.u32 (Int.fdiv (IntKind.wrap IntKind.u64 ((IntKind.wrap IntKind.u64 x.1) * (IntKind.wrap IntKind.u64 x.2))) (4294967296:Int))),(IntKind.wrap IntKind.u32 (IntKind.wrap IntKind.u64 ((IntKind.wrap IntKind.u64 x.1) * (IntKind.wrap IntKind.u64 x.2)))))
def mul32M_pre (_ : I2) : Prop := True
def mul32M_t (x : I2) : Tr I2 false :=
 (.ret ((IntKind.wrap IntKind.u32 (Int.fdiv (IntKind.wrap IntKind.u64 ((IntKind.wrap IntKind.u64 x.1) * (IntKind.wrap IntKind.u64 x.2))) (4294967296:Int))),(IntKind.wrap IntKind.u32 (IntKind.wrap IntKind.u64 ((IntKind.wrap IntKind.u64 x.1) * (IntKind.wrap IntKind.u64 x.2))))))
abbrev mul32M_S : FnS := ⟨(.pair (.one (Ty.int IntKind.u32)) (.one (Ty.int IntKind.u32))),(.pair (.one (Ty.int IntKind.u32)) (.one (Ty.int IntKind.u32))),mul32M_pre,mul32M⟩
theorem mul32M_ok : SpecOk Try.prog 73 (fnSpec mul32M_S) := SpecOk.tr mul32M_S mul32M_t (fn := Try.f73) tt_ok sp_enext_ok mixed (by kernel_rfl) (ItsOk.nil _ _) (fun x => LpsOk.nil) (fun x => (by kernel_rfl)) fun x Q => (by kernel_rfl)
def sp_mul32M : List (Nat × Ev.Spec) := (73,fnSpec mul32M_S) :: sp_enext
theorem sp_mul32M_ok : SpecsOk Try.prog sp_mul32M := SpecsOk.add (fn := Try.f73) (by kernel_rfl) mul32M_ok sp_enext_ok
def mul64M (x : I2) : I2 :=
 ((IntKind.wrap IntKind.u64 ((IntKind.wrap IntKind.u64 ((IntKind.wrap IntKind.u64 ((Int.fdiv x.1 (4294967296:Int)) * (Int.fdiv x.2 (4294967296:Int)))) + (Int.fdiv (IntKind.wrap IntKind.u64 ((IntKind.wrap IntKind.u64 ((Int.fdiv x.1 (4294967296:Int)) * (IntKind.wrap IntKind.u64 (((BitVec.toNat ((BitVec.ofInt 64 x.2) &&& (BitVec.ofInt 64 (4294967295:Int)))):Nat):Int)))) + (Int.fdiv (IntKind.wrap IntKind.u64 ((IntKind.wrap IntKind.u64 (((BitVec.toNat ((BitVec.ofInt 64 x.1) &&& (BitVec.ofInt 64 (4294967295:Int)))):Nat):Int)) * (IntKind.wrap IntKind.u64 (((BitVec.toNat ((BitVec.ofInt 64 x.2) &&& (BitVec.ofInt 64 (4294967295:Int)))):Nat):Int)))) (4294967296:Int)))) (4294967296:Int)))) + (Int.fdiv (IntKind.wrap IntKind.u64 ((IntKind.wrap IntKind.u64 (((BitVec.toNat ((BitVec.ofInt 64 (IntKind.wrap IntKind.u64 ((IntKind.wrap IntKind.u64 ((Int.fdiv x.1 (4294967296:Int)) * (IntKind.wrap IntKind.u64 (((BitVec.toNat ((BitVec.ofInt 64 x.2) &&& (BitVec.ofInt 64 (4294967295:Int)))):Nat):Int)))) + (Int.fdiv (IntKind.wrap IntKind.u64 ((IntKind.wrap IntKind.u64 (((BitVec.toNat ((BitVec.ofInt 64 x.1) &&& (BitVec.ofInt 64 (4294967295:Int)))):Nat):Int)) * (IntKind.wrap IntKind.u64 (((BitVec.toNat ((BitVec.ofInt 64 x.2) &&& (BitVec.ofInt 64 (4294967295:Int)))):Nat):Int)))) (4294967296:Int))))) &&& (BitVec.ofInt 64 (4294967295:Int)))):Nat):Int)) + (IntKind.wrap IntKind.u64 ((IntKind.wrap IntKind.u64 (((BitVec.toNat ((BitVec.ofInt 64 x.1) &&& (BitVec.ofInt 64 (4294967295:Int)))):Nat):Int)) * (Int.fdiv x.2 (4294967296:Int)))))) (4294967296:Int)))),(IntKind.wrap IntKind.u64 (x.1 * x.2)))
def mul64M_pre (_ : I2) : Prop := True
def mul64M_t (x : I2) : Tr I2 false :=
 (.ret ((IntKind.wrap IntKind.u64 ((IntKind.wrap IntKind.u64 ((IntKind.wrap IntKind.u64 ((Int.fdiv x.1 (4294967296:Int)) * (Int.fdiv x.2 (4294967296:Int)))) + (Int.fdiv (IntKind.wrap IntKind.u64 ((IntKind.wrap IntKind.u64 ((Int.fdiv x.1 (4294967296:Int)) * (IntKind.wrap IntKind.u64 (((BitVec.toNat ((BitVec.ofInt 64 x.2) &&& (BitVec.ofInt 64 (4294967295:Int)))):Nat):Int)))) + (Int.fdiv (IntKind.wrap IntKind.u64 ((IntKind.wrap IntKind.u64 (((BitVec.toNat ((BitVec.ofInt 64 x.1) &&& (BitVec.ofInt 64 (4294967295:Int)))):Nat):Int)) * (IntKind.wrap IntKind.u64 (((BitVec.toNat ((BitVec.ofInt 64 x.2) &&& (BitVec.ofInt 64 (4294967295:Int)))):Nat):Int)))) (4294967296:Int)))) (4294967296:Int)))) + (Int.fdiv (IntKind.wrap IntKind.u64 ((IntKind.wrap IntKind.u64 (((BitVec.toNat ((BitVec.ofInt 64 (IntKind.wrap IntKind.u64 ((IntKind.wrap IntKind.u64 ((Int.fdiv x.1 (4294967296:Int)) * (IntKind.wrap IntKind.u64 (((BitVec.toNat ((BitVec.ofInt 64 x.2) &&& (BitVec.ofInt 64 (4294967295:Int)))):Nat):Int)))) + (Int.fdiv (IntKind.wrap IntKind.u64 ((IntKind.wrap IntKind.u64 (((BitVec.toNat ((BitVec.ofInt 64 x.1) &&& (BitVec.ofInt 64 (4294967295:Int)))):Nat):Int)) * (IntKind.wrap IntKind.u64 (((BitVec.toNat ((BitVec.ofInt 64 x.2) &&& (BitVec.ofInt 64 (4294967295:Int)))):Nat):Int)))) (4294967296:Int))))) &&& (BitVec.ofInt 64 (4294967295:Int)))):Nat):Int)) + (IntKind.wrap IntKind.u64 ((IntKind.wrap IntKind.u64 (((BitVec.toNat ((BitVec.ofInt 64 x.1) &&& (BitVec.ofInt 64 (4294967295:Int)))):Nat):Int)) * (Int.fdiv x.2 (4294967296:Int)))))) (4294967296:Int)))),(IntKind.wrap IntKind.u64 (x.1 * x.2))))
abbrev mul64M_S : FnS := ⟨(.pair (.one (Ty.int IntKind.u64)) (.one (Ty.int IntKind.u64))),(.pair (.one (Ty.int IntKind.u64)) (.one (Ty.int IntKind.u64))),mul64M_pre,mul64M⟩
theorem mul64M_ok : SpecOk Try.prog 74 (fnSpec mul64M_S) := SpecOk.tr mul64M_S mul64M_t (fn := Try.f74) tt_ok sp_mul32M_ok mixed (by kernel_rfl) (ItsOk.nil _ _) (fun x => LpsOk.nil) (fun x => (by kernel_rfl)) fun x Q => (by kernel_rfl)
def sp_mul64M : List (Nat × Ev.Spec) := (74,fnSpec mul64M_S) :: sp_mul32M
theorem sp_mul64M_ok : SpecsOk Try.prog sp_mul64M := SpecsOk.add (fn := Try.f74) (by kernel_rfl) mul64M_ok sp_mul32M_ok
def bmulM (x : I2) : I2 :=
 (letV (mul64M x) fun y =>
 y)
def bmulM_pre (_ : I2) : Prop := True
def bmulM_t (x : I2) : Tr I2 false :=
 (.fn0 mul64M_S x trivial fun y =>
 (.ret y))
abbrev bmulM_S : FnS := ⟨(.pair (.one (Ty.int IntKind.u64)) (.one (Ty.int IntKind.u64))),(.pair (.one (Ty.int IntKind.u64)) (.one (Ty.int IntKind.u64))),bmulM_pre,bmulM⟩
theorem bmulM_ok : SpecOk Try.prog 57 (fnSpec bmulM_S) := SpecOk.tr bmulM_S bmulM_t (fn := Try.f57) tt_ok sp_mul64M_ok mixed (by kernel_rfl) (ItsOk.nil _ _) (fun x => LpsOk.nil) (fun x => (by kernel_rfl)) fun x Q => (by kernel_rfl)
def sp_bmulM : List (Nat × Ev.Spec) := (57,fnSpec bmulM_S) :: sp_mul64M
theorem sp_bmulM_ok : SpecsOk Try.prog sp_bmulM := SpecsOk.add (fn := Try.f57) (by kernel_rfl) bmulM_ok sp_mul64M_ok
def repeatM_l0 (x : ((List Int) × Int)) : LoopD := ⟨[],⟨pvs 48 0 [(7,.v (.one (.full 0))),(8,.v (.one (.i .i64)))],[.row yi 2],0,none,[],[],[1,0],[(.l yi),.i],[]⟩,[⟨(.exit 0),.normal,⟨pvs 48 0 [(7,.v (.one (.full 0)))],[.row yi 2],0,none,[],[],[0],[(.l yi)],[]⟩⟩]⟩
def repeatM_l0_step (x : ((List Int) × Int)) (s : ((List Int) × Int)) : ((List Int) × Int) ⊕ (List Int) :=
 (if (s.2 < (s.1.length:Int)) then
 (letV (copyL s.1 ((Int.toNat s.2) + 0) ((List.length s.1) - (Int.toNat s.2)) (List.take (Int.toNat s.2) s.1)) fun y =>
 (Sum.inl (y,(w64 (s.2 + (((copyN ((List.length s.1) - (Int.toNat s.2)) (List.length (List.take (Int.toNat s.2) s.1))):Nat):Int)))))) else
 (Sum.inr (s.1)))
def repeatM_l0_pre (x : ((List Int) × Int)) (s : ((List Int) × Int)) : Prop :=
 ((s.2 < (s.1.length:Int)) →
 ((((0:Int) ≤ s.2) ∧ (s.2 ≤ (s.1.length:Int))) ∧
 (((0:Int) ≤ s.2) ∧ (s.2 ≤ (s.1.length:Int)))))
def repeatM_l0_t (x : ((List Int) × Int)) (s : ((List Int) × Int)) : Tr (((List Int) × Int) ⊕ (List Int)) true :=
 (.i10 (s.2 < (nL s.1))
 (.og ((decide (z0 ≤ s.2)) && (decide (s.2 ≤ (nL s.1)))) ((z0 ≤ s.2) ∧ (s.2 ≤ (nL s.1))) (fun h => (and_t (decide_eq_true h.1) (decide_eq_true h.2)))
 (.og ((decide (z0 ≤ s.2)) && (decide (s.2 ≤ (nL s.1)))) ((z0 ≤ s.2) ∧ (s.2 ≤ (nL s.1))) (fun h => (and_t (decide_eq_true h.1) (decide_eq_true h.2)))
 (.lt (copyL s.1 ((tN s.2) + 0) ((List.length s.1) - (tN s.2)) (List.take (tN s.2) s.1)) fun y =>
 (.ret (.inl (y,(w64 (s.2 + (((copyN ((List.length s.1) - (tN s.2)) (List.length (List.take (tN s.2) s.1))):Nat):Int)))))))))
 (.ret (.inr (s.1))))
def repeatM (x : ((List Int) × Int)) : (List Int) :=
 (if (x.2 < (0:Int)) then
 default else
 (letV (bmulM ((IntKind.wrap IntKind.u64 (x.1.length:Int)),(IntKind.wrap IntKind.u64 x.2))) fun y =>
 (if (y.1 > (0:Int)) then
 default else
 (if (y.2 > (9223372036854775807:Int)) then
 default else
 (letV (copyL (List.replicate (Int.toNat (w64 y.2)) (0:Int)) 0 (List.length (List.replicate (Int.toNat (w64 y.2)) (0:Int))) x.1) fun y_1 =>
 (letV (run (repeatM_l0_step x) (y_1,(((copyN (List.length (List.replicate (Int.toNat (w64 y.2)) (0:Int))) (List.length x.1)):Nat):Int))) fun r =>
 r))))))
def repeatM_pre (x : ((List Int) × Int)) : Prop :=
 (((x.2 < (0:Int)) →
 False) ∧
 (¬ (x.2 < (0:Int)) →
 (letP (bmulM ((IntKind.wrap IntKind.u64 (x.1.length:Int)),(IntKind.wrap IntKind.u64 x.2))) fun y =>
 (((y.1 > (0:Int)) →
 False) ∧
 (¬ (y.1 > (0:Int)) →
 (((y.2 > (9223372036854775807:Int)) →
 False) ∧
 (¬ (y.2 > (9223372036854775807:Int)) →
 (((((0:Int) ≤ (w64 y.2)) ∧ ((w64 y.2) ≤ (w64 y.2))) ∧ ((Int.toNat (w64 y.2)) < 1099511627776)) ∧
 (letP (copyL (List.replicate (Int.toNat (w64 y.2)) (0:Int)) 0 (List.length (List.replicate (Int.toNat (w64 y.2)) (0:Int))) x.1) fun y_1 =>
 (Term (repeatM_l0_step x) (repeatM_l0_pre x) (y_1,(((copyN (List.length (List.replicate (Int.toNat (w64 y.2)) (0:Int))) (List.length x.1)):Nat):Int))))))))))))
def repeatM_t (x : ((List Int) × Int)) : Tr (List Int) true :=
 (.i11 (x.2 < z0)
 (.og false False False.elim (.ret default))
 (.fn0 bmulM_S ((IntKind.wrap IntKind.u64 (nL x.1)),(IntKind.wrap IntKind.u64 x.2)) trivial fun y =>
 (.i11 (y.1 > z0)
 (.og false False False.elim (.ret default))
 (.i11 (y.2 > (9223372036854775807:Int))
 (.og false False False.elim (.ret default))
 (.og (((decide (z0 ≤ (w64 y.2))) && (decide ((w64 y.2) ≤ (w64 y.2)))) && (decide ((tN (w64 y.2)) < 1099511627776))) (((z0 ≤ (w64 y.2)) ∧ ((w64 y.2) ≤ (w64 y.2))) ∧ ((tN (w64 y.2)) < 1099511627776)) (fun h => (and_t (and_t (decide_eq_true h.1.1) (decide_eq_true h.1.2)) (decide_eq_true h.2)))
 (.lt (copyL (List.replicate (tN (w64 y.2)) z0) 0 (List.length (List.replicate (tN (w64 y.2)) z0)) x.1) fun y_1 =>
 (LoopD.lp (repeatM_l0 x) (repeatM_l0_t x) (y_1,(((copyN (List.length (List.replicate (tN (w64 y.2)) z0)) (List.length x.1)):Nat):Int)) fun r =>
 (.ret r))))))))
abbrev repeatM_S : FnS := ⟨(.pair (.one (Ty.sl yi)) (.one yi)),(.one (Ty.sl yi)),repeatM_pre,repeatM⟩
theorem repeatM_ok : SpecOk Try.prog 39 (fnSpec repeatM_S) := SpecOk.tr repeatM_S repeatM_t (fn := Try.f39) tt_ok sp_bmulM_ok mixed (by kernel_rfl) (ItsOk.nil _ _) (fun x => (LpsOk.tr tt_ok (SpecsOk.ctxI sp_bmulM_ok (ItsOk.nil _ _)) mixed 0 (repeatM_l0 x) (repeatM_l0_t x) LpsOk.nil (by kernel_rfl) fun g s Q => (by kernel_rfl))) (fun x => (by kernel_rfl)) fun x Q => (by kernel_rfl)
def sp_repeatM : List (Nat × Ev.Spec) := (39,fnSpec repeatM_S) :: sp_bmulM
theorem sp_repeatM_ok : SpecsOk Try.prog sp_repeatM := SpecsOk.add (fn := Try.f39) (by kernel_rfl) repeatM_ok sp_bmulM_ok
def cloneI (x : (List Int)) : (List Int) :=
 ((List.replicate 0 (0:Int)) ++ x)
def cloneI_pre (x : (List Int)) : Prop :=
 (∀ b : Bool,((0 < (List.length x)) → (b = false)) → (((if (b = true) then
 [] else
 ((List.replicate 0 (0:Int)) ++ x)) = ((List.replicate 0 (0:Int)) ++ x)) ∧ (¬ (b = true) →
 ((0 + (List.length x)) < 1099511627776))))
def cloneI_t (x : (List Int)) : Tr (List Int) true :=
 (.nil (fun b => ((0 < (List.length x)) → (b = false))) fun b =>
 (.b01 b
 (.ret [])
 (.od ((0 + (List.length x)) < 1099511627776)
 (.ret ((List.replicate 0 z0) ++ x)))))
abbrev cloneI_S : FnS := ⟨(.one (Ty.sl yi)),(.one (Ty.sl yi)),cloneI_pre,cloneI⟩
theorem cloneI_ok : SpecOk Try.prog 58 (fnSpec cloneI_S) := SpecOk.tr cloneI_S cloneI_t (fn := Try.f58) tt_ok sp_repeatM_ok mixed (by kernel_rfl) (ItsOk.dead 58 (fn := Try.f58) (by kernel_rfl)) (fun x => LpsOk.nil) (fun x => (by kernel_rfl)) fun x Q => (by kernel_rfl)
def sp_cloneI : List (Nat × Ev.Spec) := (58,fnSpec cloneI_S) :: sp_repeatM
theorem sp_cloneI_ok : SpecsOk Try.prog sp_cloneI := SpecsOk.add (fn := Try.f58) (by kernel_rfl) cloneI_ok sp_repeatM_ok
def eown (x : (Int × (Int × (List Int)))) : (Int × (Int × (List Int))) :=
 (letV (cloneI x.2.2) fun y =>
 (x.1,(x.2.1,y)))
def eown_pre (x : (Int × (Int × (List Int)))) : Prop :=
 (cloneI_pre x.2.2)
def eown_t (x : (Int × (Int × (List Int)))) : Tr (Int × (Int × (List Int))) true :=
 (.fn cloneI_S x.2.2 fun y =>
 (.ret (x.1,(x.2.1,y))))
abbrev eown_S : FnS := ⟨(.agg (Ty.prod yi (Ty.prod yi (Ty.sl yi)))),(.agg (Ty.prod yi (Ty.prod yi (Ty.sl yi)))),eown_pre,eown⟩
theorem eown_ok : SpecOk Try.prog 40 (fnSpec eown_S) := SpecOk.tr eown_S eown_t (fn := Try.f40) tt_ok sp_cloneI_ok mixed (by kernel_rfl) (ItsOk.nil _ _) (fun x => LpsOk.nil) (fun x => (by kernel_rfl)) fun x Q => (by kernel_rfl)
def sp_eown : List (Nat × Ev.Spec) := (40,fnSpec eown_S) :: sp_cloneI
theorem sp_eown_ok : SpecsOk Try.prog sp_eown := SpecsOk.add (fn := Try.f40) (by kernel_rfl) eown_ok sp_cloneI_ok
def eloose_l0 (x : (List (Int × (Int × (List Int))))) : LoopD := ⟨[],⟨pvs 23 0 [(3,.v (.one (.full 0))),(6,.v (.one (.full 1))),(7,.v (.one (.i .i64))),(8,.v (.one (.i .i64)))],[.row (Ty.prod yi (Ty.prod yi (Ty.sl yi))) 2,.row (Ty.prod yi (Ty.prod yi (Ty.sl yi))) 0],0,none,[],[0,3],[2,1],[(.l (Ty.prod yi (Ty.prod yi (Ty.sl yi)))),.i],[.i (x.length:Int),.l (Ty.prod yi (Ty.prod yi (Ty.sl yi))) x]⟩,[⟨(.exit 0),.normal,⟨pvs 23 0 [(3,.v (.one (.full 0)))],[.row (Ty.prod yi (Ty.prod yi (Ty.sl yi))) 2],0,none,[],[],[0],[(.l (Ty.prod yi (Ty.prod yi (Ty.sl yi))))],[]⟩⟩]⟩
def eloose_l0_step (x : (List (Int × (Int × (List Int))))) (s : ((List (Int × (Int × (List Int)))) × Int)) : ((List (Int × (Int × (List Int)))) × Int) ⊕ (List (Int × (Int × (List Int)))) :=
 (if (s.2 < (x.length:Int)) then
 (if ((((List.getD x (Int.toNat s.2) ((0:Int),((0:Int),[]))).2.2.length:Int) == (1:Int)) = true) then
 (letV (eown (List.getD x (Int.toNat s.2) ((0:Int),((0:Int),[])))) fun y =>
 (Sum.inl ((s.1 ++ [y]),(w64 (s.2 + (1:Int)))))) else
 (Sum.inl (s.1,(w64 (s.2 + (1:Int)))))) else
 (Sum.inr (s.1)))
def eloose_l0_pre (x : (List (Int × (Int × (List Int))))) (s : ((List (Int × (Int × (List Int)))) × Int)) : Prop :=
 ((s.2 < (x.length:Int)) →
 ((((0:Int) ≤ s.2) ∧ (s.2 < (x.length:Int))) ∧
 (((Int.toNat s.2) < (List.length x)) ∧
 (((Int.toNat s.2) < (List.length x)) ∧
 (((((List.getD x (Int.toNat s.2) ((0:Int),((0:Int),[]))).2.2.length:Int) == (1:Int)) = true) →
 ((eown_pre (List.getD x (Int.toNat s.2) ((0:Int),((0:Int),[])))) ∧
 letP (eown (List.getD x (Int.toNat s.2) ((0:Int),((0:Int),[])))) fun y =>
 (((List.length s.1) + 1) < 1099511627776)))))))
def eloose_l0_t (x : (List (Int × (Int × (List Int))))) (s : ((List (Int × (Int × (List Int)))) × Int)) : Tr (((List (Int × (Int × (List Int)))) × Int) ⊕ (List (Int × (Int × (List Int))))) true :=
 (.i10 (s.2 < (nL x))
 (.oI2 s.2 x
 (.b10 ((nL (gT x s.2 (z0,(z0,[]))).2.2) == z1)
 (.fn eown_S (gT x s.2 (z0,(z0,[]))) fun y =>
 (.od (((List.length s.1) + 1) < 1099511627776)
 (.ret (.inl ((s.1 ++ [y]),(w1 s.2))))))
 (.ret (.inl (s.1,(w1 s.2))))))
 (.ret (.inr (s.1))))
def eloose (x : (List (Int × (Int × (List Int))))) : (List (Int × (Int × (List Int)))) :=
 (letV (run (eloose_l0_step x) ([],(0:Int))) fun r =>
 r)
def eloose_pre (x : (List (Int × (Int × (List Int))))) : Prop :=
 (Term (eloose_l0_step x) (eloose_l0_pre x) ([],(0:Int)))
def eloose_t (x : (List (Int × (Int × (List Int))))) : Tr (List (Int × (Int × (List Int)))) true :=
 (LoopD.lp (eloose_l0 x) (eloose_l0_t x) ([],z0) fun r =>
 (.ret r))
abbrev eloose_S : FnS := ⟨(.one (Ty.sl (Ty.prod yi (Ty.prod yi (Ty.sl yi))))),(.one (Ty.sl (Ty.prod yi (Ty.prod yi (Ty.sl yi))))),eloose_pre,eloose⟩
theorem eloose_ok : SpecOk Try.prog 17 (fnSpec eloose_S) := SpecOk.tr eloose_S eloose_t (fn := Try.f17) tt_ok sp_eown_ok mixed (by kernel_rfl) (ItsOk.nil _ _) (fun x => (LpsOk.tr tt_ok (SpecsOk.ctxI sp_eown_ok (ItsOk.nil _ _)) mixed 0 (eloose_l0 x) (eloose_l0_t x) LpsOk.nil (by kernel_rfl) fun g s Q => (by kernel_rfl))) (fun x => (by kernel_rfl)) fun x Q => (by kernel_rfl)
def sp_eloose : List (Nat × Ev.Spec) := (17,fnSpec eloose_S) :: sp_eown
theorem sp_eloose_ok : SpecsOk Try.prog sp_eloose := SpecsOk.add (fn := Try.f17) (by kernel_rfl) eloose_ok sp_eown_ok
def eat (x : ((Int × (Int × (List Int))) × I2)) : Bool :=
 (if ((x.1.1 == x.2.1) = true) then
 (if ((x.1.2.1 == x.2.2) = true) then
 true else
 (if ((x.1.1 == x.2.2) = true) then
 (x.1.2.1 == x.2.1) else
 false)) else
 (if ((x.1.1 == x.2.2) = true) then
 (x.1.2.1 == x.2.1) else
 false))
def eat_pre (_ : ((Int × (Int × (List Int))) × I2)) : Prop := True
def eat_t (x : ((Int × (Int × (List Int))) × I2)) : Tr Bool false :=
 (.b00 (x.1.1 == x.2.1)
 (.b00 (x.1.2.1 == x.2.2)
 (.ret true)
 (.b00 (x.1.1 == x.2.2)
 (.ret (x.1.2.1 == x.2.1))
 (.ret false)))
 (.b00 (x.1.1 == x.2.2)
 (.ret (x.1.2.1 == x.2.1))
 (.ret false)))
abbrev eat_S : FnS := ⟨(.pair (.agg (Ty.prod yi (Ty.prod yi (Ty.sl yi)))) (.pair (.ptr yi) (.ptr yi))),(.one Ty.bool),eat_pre,eat⟩
theorem eat_ok : SpecOk Try.prog 42 (fnSpec eat_S) := SpecOk.tr eat_S eat_t (fn := Try.f42) tt_ok sp_eloose_ok mixed (by kernel_rfl) (ItsOk.nil _ _) (fun x => LpsOk.nil) (fun x => (by kernel_rfl)) fun x Q => (by kernel_rfl)
def sp_eat : List (Nat × Ev.Spec) := (42,fnSpec eat_S) :: sp_eloose
theorem sp_eat_ok : SpecsOk Try.prog sp_eat := SpecsOk.add (fn := Try.f42) (by kernel_rfl) eat_ok sp_eloose_ok
def indexE_l0 (x : ((List (Int × (Int × (List Int)))) × I2)) : LoopD := ⟨[],⟨pvs 19 0 [(0,.v (.one (.full 0))),(1,.v (.one (.clo 42 0 [.elem 1,.elem 2]))),(7,.v (.one (.i .i64))),(8,.v (.one (.i .i64)))],[.row (Ty.prod yi (Ty.prod yi (Ty.sl yi))) 0,.row yi 0,.row yi 0],0,none,[],[0,1,2,4,5,6],[3],[.i],[.n 0,.n 0,.i (x.1.length:Int),.l (Ty.prod yi (Ty.prod yi (Ty.sl yi))) x.1,.l yi [x.2.1],.l yi [x.2.2]]⟩,[⟨.ret,.ret,⟨pvs 19 0 [(4,.v (.one (.i .i64)))],[],0,none,[],[],[0],[.i],[]⟩⟩,⟨(.exit 0),.normal,⟨pvs 19 0 [],[],0,none,[],[],[],[],[]⟩⟩]⟩
def indexE_l0_step (x : ((List (Int × (Int × (List Int)))) × I2)) (s:Int) : Int ⊕ (Int ⊕ Unit) :=
 (if (s < (x.1.length:Int)) then
 (letV (eat ((List.getD x.1 (Int.toNat s) ((0:Int),((0:Int),[]))),x.2)) fun y =>
 (if (y = true) then
 (Sum.inr (Sum.inl s)) else
 (Sum.inl (w64 (s + (1:Int)))))) else
 (Sum.inr (Sum.inr (()))))
def indexE_l0_pre (x : ((List (Int × (Int × (List Int)))) × I2)) (s:Int) : Prop :=
 ((s < (x.1.length:Int)) →
 ((((0:Int) ≤ s) ∧ (s < (x.1.length:Int))) ∧
 (((Int.toNat s) < (List.length x.1)) ∧
 ((Int.toNat s) < (List.length x.1)))))
def indexE_l0_t (x : ((List (Int × (Int × (List Int)))) × I2)) (s:Int) : Tr (Int ⊕ (Int ⊕ Unit)) true :=
 (.i10 (s < (nL x.1))
 (.oI2 s x.1
 (.fn0 eat_S ((gT x.1 s (z0,(z0,[]))),x.2) trivial fun y =>
 (.b00 y
 (.ret (.inr (Sum.inl s)))
 (.ret (.inl (w1 s))))))
 (.ret (.inr (Sum.inr (())))))
def indexE (x : ((List (Int × (Int × (List Int)))) × I2)) : Int :=
 (letV (run (indexE_l0_step x) (0:Int)) fun r =>
 (Sum.elim (fun a =>
 a) (fun b =>
 (-1:Int)) r))
def indexE_pre (x : ((List (Int × (Int × (List Int)))) × I2)) : Prop :=
 (Term (indexE_l0_step x) (indexE_l0_pre x) (0:Int))
def indexE_t (x : ((List (Int × (Int × (List Int)))) × I2)) : Tr Int true :=
 (LoopD.lp (indexE_l0 x) (indexE_l0_t x) z0 fun r =>
 (.s00 r (fun a =>
 (.ret a)) (fun b =>
 (.ret (-1:Int)))))
abbrev indexE_S : FnS := ⟨(.pair (.one (Ty.sl (Ty.prod yi (Ty.prod yi (Ty.sl yi))))) (.clo 42 (.pair (.ptr yi) (.ptr yi)))),(.one yi),indexE_pre,indexE⟩
theorem indexE_ok : SpecOk Try.prog 41 (fnSpec indexE_S) := SpecOk.tr indexE_S indexE_t (fn := Try.f41) tt_ok sp_eat_ok mixed (by kernel_rfl) (ItsOk.nil _ _) (fun x => (LpsOk.tr tt_ok (SpecsOk.ctxI sp_eat_ok (ItsOk.nil _ _)) mixed 0 (indexE_l0 x) (indexE_l0_t x) LpsOk.nil (by kernel_rfl) fun g s Q => (by kernel_rfl))) (fun x => (by kernel_rfl)) fun x Q => (by kernel_rfl)
def sp_indexE : List (Nat × Ev.Spec) := (41,fnSpec indexE_S) :: sp_eat
theorem sp_indexE_ok : SpecsOk Try.prog sp_indexE := SpecsOk.add (fn := Try.f41) (by kernel_rfl) indexE_ok sp_eat_ok
def efind (x : ((List (Int × (Int × (List Int)))) × I2)) : ((Int × (Int × (List Int))) × Bool) :=
 (letV (indexE x) fun y =>
 (if (y < (0:Int)) then
 (((0:Int),((0:Int),[])),false) else
 (letV (eown (List.getD x.1 (Int.toNat y) ((0:Int),((0:Int),[])))) fun y_1 =>
 (y_1,true))))
def efind_pre (x : ((List (Int × (Int × (List Int)))) × I2)) : Prop :=
 ((indexE_pre x) ∧
 letP (indexE x) fun y =>
 (¬ (y < (0:Int)) →
 ((((0:Int) ≤ y) ∧ (y < (x.1.length:Int))) ∧
 (((Int.toNat y) < (List.length x.1)) ∧
 (((Int.toNat y) < (List.length x.1)) ∧
 (eown_pre (List.getD x.1 (Int.toNat y) ((0:Int),((0:Int),[])))))))))
def efind_t (x : ((List (Int × (Int × (List Int)))) × I2)) : Tr ((Int × (Int × (List Int))) × Bool) true :=
 (.fn indexE_S x fun y =>
 (.i01 (y < z0)
 (.ret ((z0,(z0,[])),false))
 (.oI2 y x.1
 (.fn eown_S (gT x.1 y (z0,(z0,[]))) fun y_1 =>
 (.ret (y_1,true))))))
abbrev efind_S : FnS := ⟨(.pair (.one (Ty.sl (Ty.prod yi (Ty.prod yi (Ty.sl yi))))) (.pair (.one yi) (.one yi))),(.pair (.agg (Ty.prod yi (Ty.prod yi (Ty.sl yi)))) (.one Ty.bool)),efind_pre,efind⟩
theorem efind_ok : SpecOk Try.prog 18 (fnSpec efind_S) := SpecOk.tr efind_S efind_t (fn := Try.f18) tt_ok sp_indexE_ok mixed (by kernel_rfl) (ItsOk.nil _ _) (fun x => LpsOk.nil) (fun x => (by kernel_rfl)) fun x Q => (by kernel_rfl)
def sp_efind : List (Nat × Ev.Spec) := (18,fnSpec efind_S) :: sp_indexE
theorem sp_efind_ok : SpecsOk Try.prog sp_efind := SpecsOk.add (fn := Try.f18) (by kernel_rfl) efind_ok sp_indexE_ok
end Go.Proofs.Ytleemdeodmdnkaa
