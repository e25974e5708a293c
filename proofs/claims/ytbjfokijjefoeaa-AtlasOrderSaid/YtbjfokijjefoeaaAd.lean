/- Models of slices' functions: a row again and again. -/
import Derived.Test.YtbjfokijjefoeaaEvT
import Derived.Test.YtbjfokijjefoeaaTt
namespace Go.Proofs.Ytbjfokijjefoeaa
open Go Go.Ev Go.Proofs
set_option linter.unusedVariables false
noncomputable def mul32M (x : I2) : I2 :=
 ((IntKind.wrap IntKind.u32 (Int.fdiv (IntKind.wrap IntKind.u64 ((IntKind.wrap IntKind.u64 x.1) * (IntKind.wrap IntKind.u64 x.2))) (4294967296:Int))),(IntKind.wrap IntKind.u32 (IntKind.wrap IntKind.u64 ((IntKind.wrap IntKind.u64 x.1) * (IntKind.wrap IntKind.u64 x.2)))))
noncomputable def mul32M_pre (_ : I2) : Prop := True
noncomputable def mul32M_t (x : I2) : Tr I2 false :=
 (.ret ((IntKind.wrap IntKind.u32 (Int.fdiv (IntKind.wrap IntKind.u64 ((IntKind.wrap IntKind.u64 x.1) * (IntKind.wrap IntKind.u64 x.2))) (4294967296:Int))),(IntKind.wrap IntKind.u32 (IntKind.wrap IntKind.u64 ((IntKind.wrap IntKind.u64 x.1) * (IntKind.wrap IntKind.u64 x.2))))))
noncomputable abbrev mul32M_S : FnS := ⟨(.pair (.one (Ty.int IntKind.u32)) (.one (Ty.int IntKind.u32))),(.pair (.one (Ty.int IntKind.u32)) (.one (Ty.int IntKind.u32))),mul32M_pre,mul32M⟩
theorem mul32M_ok : SpecOk Try.prog 60 (fnSpec mul32M_S) := SpecOk.tr mul32M_S mul32M_t (fn := Try.f60) tt_ok (SpecsOk.nil _) mixed (by kernel_rfl) (ItsOk.nil _ _) (fun x => LpsOk.nil) (fun x => (by kernel_rfl)) fun x Q => (by kernel_rfl)
def sp_mul32M : List (Nat × Ev.Spec) := (60,fnSpec mul32M_S) :: []
theorem sp_mul32M_ok : SpecsOk Try.prog sp_mul32M := SpecsOk.add (fn := Try.f60) (by kernel_rfl) mul32M_ok (SpecsOk.nil _)
noncomputable def mul64M (x : I2) : I2 :=
 ((IntKind.wrap IntKind.u64 ((IntKind.wrap IntKind.u64 ((IntKind.wrap IntKind.u64 ((Int.fdiv x.1 (4294967296:Int)) * (Int.fdiv x.2 (4294967296:Int)))) + (Int.fdiv (IntKind.wrap IntKind.u64 ((IntKind.wrap IntKind.u64 ((Int.fdiv x.1 (4294967296:Int)) * (IntKind.wrap IntKind.u64 (((BitVec.toNat ((BitVec.ofInt 64 x.2) &&& (BitVec.ofInt 64 (4294967295:Int)))):Nat):Int)))) + (Int.fdiv (IntKind.wrap IntKind.u64 ((IntKind.wrap IntKind.u64 (((BitVec.toNat ((BitVec.ofInt 64 x.1) &&& (BitVec.ofInt 64 (4294967295:Int)))):Nat):Int)) * (IntKind.wrap IntKind.u64 (((BitVec.toNat ((BitVec.ofInt 64 x.2) &&& (BitVec.ofInt 64 (4294967295:Int)))):Nat):Int)))) (4294967296:Int)))) (4294967296:Int)))) + (Int.fdiv (IntKind.wrap IntKind.u64 ((IntKind.wrap IntKind.u64 (((BitVec.toNat ((BitVec.ofInt 64 (IntKind.wrap IntKind.u64 ((IntKind.wrap IntKind.u64 ((Int.fdiv x.1 (4294967296:Int)) * (IntKind.wrap IntKind.u64 (((BitVec.toNat ((BitVec.ofInt 64 x.2) &&& (BitVec.ofInt 64 (4294967295:Int)))):Nat):Int)))) + (Int.fdiv (IntKind.wrap IntKind.u64 ((IntKind.wrap IntKind.u64 (((BitVec.toNat ((BitVec.ofInt 64 x.1) &&& (BitVec.ofInt 64 (4294967295:Int)))):Nat):Int)) * (IntKind.wrap IntKind.u64 (((BitVec.toNat ((BitVec.ofInt 64 x.2) &&& (BitVec.ofInt 64 (4294967295:Int)))):Nat):Int)))) (4294967296:Int))))) &&& (BitVec.ofInt 64 (4294967295:Int)))):Nat):Int)) + (IntKind.wrap IntKind.u64 ((IntKind.wrap IntKind.u64 (((BitVec.toNat ((BitVec.ofInt 64 x.1) &&& (BitVec.ofInt 64 (4294967295:Int)))):Nat):Int)) * (Int.fdiv x.2 (4294967296:Int)))))) (4294967296:Int)))),(IntKind.wrap IntKind.u64 (x.1 * x.2)))
noncomputable def mul64M_pre (_ : I2) : Prop := True
noncomputable def mul64M_t (x : I2) : Tr I2 false :=
 (.ret ((IntKind.wrap IntKind.u64 ((IntKind.wrap IntKind.u64 ((IntKind.wrap IntKind.u64 ((Int.fdiv x.1 (4294967296:Int)) * (Int.fdiv x.2 (4294967296:Int)))) + (Int.fdiv (IntKind.wrap IntKind.u64 ((IntKind.wrap IntKind.u64 ((Int.fdiv x.1 (4294967296:Int)) * (IntKind.wrap IntKind.u64 (((BitVec.toNat ((BitVec.ofInt 64 x.2) &&& (BitVec.ofInt 64 (4294967295:Int)))):Nat):Int)))) + (Int.fdiv (IntKind.wrap IntKind.u64 ((IntKind.wrap IntKind.u64 (((BitVec.toNat ((BitVec.ofInt 64 x.1) &&& (BitVec.ofInt 64 (4294967295:Int)))):Nat):Int)) * (IntKind.wrap IntKind.u64 (((BitVec.toNat ((BitVec.ofInt 64 x.2) &&& (BitVec.ofInt 64 (4294967295:Int)))):Nat):Int)))) (4294967296:Int)))) (4294967296:Int)))) + (Int.fdiv (IntKind.wrap IntKind.u64 ((IntKind.wrap IntKind.u64 (((BitVec.toNat ((BitVec.ofInt 64 (IntKind.wrap IntKind.u64 ((IntKind.wrap IntKind.u64 ((Int.fdiv x.1 (4294967296:Int)) * (IntKind.wrap IntKind.u64 (((BitVec.toNat ((BitVec.ofInt 64 x.2) &&& (BitVec.ofInt 64 (4294967295:Int)))):Nat):Int)))) + (Int.fdiv (IntKind.wrap IntKind.u64 ((IntKind.wrap IntKind.u64 (((BitVec.toNat ((BitVec.ofInt 64 x.1) &&& (BitVec.ofInt 64 (4294967295:Int)))):Nat):Int)) * (IntKind.wrap IntKind.u64 (((BitVec.toNat ((BitVec.ofInt 64 x.2) &&& (BitVec.ofInt 64 (4294967295:Int)))):Nat):Int)))) (4294967296:Int))))) &&& (BitVec.ofInt 64 (4294967295:Int)))):Nat):Int)) + (IntKind.wrap IntKind.u64 ((IntKind.wrap IntKind.u64 (((BitVec.toNat ((BitVec.ofInt 64 x.1) &&& (BitVec.ofInt 64 (4294967295:Int)))):Nat):Int)) * (Int.fdiv x.2 (4294967296:Int)))))) (4294967296:Int)))),(IntKind.wrap IntKind.u64 (x.1 * x.2))))
noncomputable abbrev mul64M_S : FnS := ⟨(.pair (.one (Ty.int IntKind.u64)) (.one (Ty.int IntKind.u64))),(.pair (.one (Ty.int IntKind.u64)) (.one (Ty.int IntKind.u64))),mul64M_pre,mul64M⟩
theorem mul64M_ok : SpecOk Try.prog 61 (fnSpec mul64M_S) := SpecOk.tr mul64M_S mul64M_t (fn := Try.f61) tt_ok sp_mul32M_ok mixed (by kernel_rfl) (ItsOk.nil _ _) (fun x => LpsOk.nil) (fun x => (by kernel_rfl)) fun x Q => (by kernel_rfl)
def sp_mul64M : List (Nat × Ev.Spec) := (61,fnSpec mul64M_S) :: sp_mul32M
theorem sp_mul64M_ok : SpecsOk Try.prog sp_mul64M := SpecsOk.add (fn := Try.f61) (by kernel_rfl) mul64M_ok sp_mul32M_ok
noncomputable def bmulM (x : I2) : I2 :=
 (letV (mul64M x) fun y =>
 y)
noncomputable def bmulM_pre (_ : I2) : Prop := True
noncomputable def bmulM_t (x : I2) : Tr I2 false :=
 (.fn0 mul64M_S x trivial fun y =>
 (.ret y))
noncomputable abbrev bmulM_S : FnS := ⟨(.pair (.one (Ty.int IntKind.u64)) (.one (Ty.int IntKind.u64))),(.pair (.one (Ty.int IntKind.u64)) (.one (Ty.int IntKind.u64))),bmulM_pre,bmulM⟩
theorem bmulM_ok : SpecOk Try.prog 44 (fnSpec bmulM_S) := SpecOk.tr bmulM_S bmulM_t (fn := Try.f44) tt_ok sp_mul64M_ok mixed (by kernel_rfl) (ItsOk.nil _ _) (fun x => LpsOk.nil) (fun x => (by kernel_rfl)) fun x Q => (by kernel_rfl)
def sp_bmulM : List (Nat × Ev.Spec) := (44,fnSpec bmulM_S) :: sp_mul64M
theorem sp_bmulM_ok : SpecsOk Try.prog sp_bmulM := SpecsOk.add (fn := Try.f44) (by kernel_rfl) bmulM_ok sp_mul64M_ok
noncomputable def repeatM_l0 (x : ((List Int) × Int)) : LoopD := ⟨[],⟨pvs 48 0 [(7,.v (.one (.full 0))),(8,.v (.one (.i .i64)))],[.row yi 2],0,none,[],[],[1,0],[(.l yi),.i],[]⟩,[⟨(.exit 0),.normal,⟨pvs 48 0 [(7,.v (.one (.full 0)))],[.row yi 2],0,none,[],[],[0],[(.l yi)],[]⟩⟩]⟩
noncomputable def repeatM_l0_step (x : ((List Int) × Int)) (s : ((List Int) × Int)) : ((List Int) × Int) ⊕ (List Int) :=
 (if (s.2 < (((List.length s.1):Nat):Int)) then
 (letV (copyL s.1 ((Int.toNat s.2) + 0) ((List.length s.1) - (Int.toNat s.2)) (List.take (Int.toNat s.2) s.1)) fun y =>
 (Sum.inl (y,(w64 (s.2 + (((copyN ((List.length s.1) - (Int.toNat s.2)) (List.length (List.take (Int.toNat s.2) s.1))):Nat):Int)))))) else
 (Sum.inr (s.1)))
noncomputable def repeatM_l0_pre (x : ((List Int) × Int)) (s : ((List Int) × Int)) : Prop :=
 ((s.2 < (((List.length s.1):Nat):Int)) →
 ((((0:Int) ≤ s.2) ∧ (s.2 ≤ (((List.length s.1):Nat):Int))) ∧
 (((0:Int) ≤ s.2) ∧ (s.2 ≤ (((List.length s.1):Nat):Int)))))
noncomputable def repeatM_l0_t (x : ((List Int) × Int)) (s : ((List Int) × Int)) : Tr (((List Int) × Int) ⊕ (List Int)) true :=
 (.i10 (s.2 < (nL s.1))
 (.og ((decide (z0 ≤ s.2)) && (decide (s.2 ≤ (nL s.1)))) ((z0 ≤ s.2) ∧ (s.2 ≤ (nL s.1))) (fun h => (and_t (decide_eq_true h.1) (decide_eq_true h.2)))
 (.og ((decide (z0 ≤ s.2)) && (decide (s.2 ≤ (nL s.1)))) ((z0 ≤ s.2) ∧ (s.2 ≤ (nL s.1))) (fun h => (and_t (decide_eq_true h.1) (decide_eq_true h.2)))
 (.lt (copyL s.1 ((tN s.2) + 0) ((List.length s.1) - (tN s.2)) (List.take (tN s.2) s.1)) fun y =>
 (.ret (.inl (y,(w64 (s.2 + (((copyN ((List.length s.1) - (tN s.2)) (List.length (List.take (tN s.2) s.1))):Nat):Int)))))))))
 (.ret (.inr (s.1))))
noncomputable def repeatM (x : ((List Int) × Int)) : (List Int) :=
 (if (x.2 < (0:Int)) then
 default else
 (letV (bmulM ((IntKind.wrap IntKind.u64 (((List.length x.1):Nat):Int)),(IntKind.wrap IntKind.u64 x.2))) fun y =>
 (if (y.1 > (0:Int)) then
 default else
 (if (y.2 > (9223372036854775807:Int)) then
 default else
 (letV (copyL (List.replicate (Int.toNat (w64 y.2)) (0:Int)) 0 (List.length (List.replicate (Int.toNat (w64 y.2)) (0:Int))) x.1) fun y_1 =>
 (letV (run (repeatM_l0_step x) (y_1,(((copyN (List.length (List.replicate (Int.toNat (w64 y.2)) (0:Int))) (List.length x.1)):Nat):Int))) fun r =>
 r))))))
noncomputable def repeatM_pre (x : ((List Int) × Int)) : Prop :=
 (((x.2 < (0:Int)) →
 False) ∧
 (¬ (x.2 < (0:Int)) →
 (letP (bmulM ((IntKind.wrap IntKind.u64 (((List.length x.1):Nat):Int)),(IntKind.wrap IntKind.u64 x.2))) fun y =>
 (((y.1 > (0:Int)) →
 False) ∧
 (¬ (y.1 > (0:Int)) →
 (((y.2 > (9223372036854775807:Int)) →
 False) ∧
 (¬ (y.2 > (9223372036854775807:Int)) →
 (((((0:Int) ≤ (w64 y.2)) ∧ ((w64 y.2) ≤ (w64 y.2))) ∧ ((Int.toNat (w64 y.2)) < 1099511627776)) ∧
 (letP (copyL (List.replicate (Int.toNat (w64 y.2)) (0:Int)) 0 (List.length (List.replicate (Int.toNat (w64 y.2)) (0:Int))) x.1) fun y_1 =>
 (Term (repeatM_l0_step x) (repeatM_l0_pre x) (y_1,(((copyN (List.length (List.replicate (Int.toNat (w64 y.2)) (0:Int))) (List.length x.1)):Nat):Int))))))))))))
noncomputable def repeatM_t (x : ((List Int) × Int)) : Tr (List Int) true :=
 (.i11 (x.2 < z0)
 (.og false False False.elim (.ret default))
 (.fn0 bmulM_S ((IntKind.wrap IntKind.u64 (nL x.1)),(IntKind.wrap IntKind.u64 x.2)) trivial fun y =>
 (.i11 (y.1 > z0)
 (.og false False False.elim (.ret default))
 (.i11 (y.2 > (9223372036854775807:Int))
 (.og false False False.elim (.ret default))
 (.og (((decide (z0 ≤ (w64 y.2))) && (decide ((w64 y.2) ≤ (w64 y.2)))) && (decide ((tN (w64 y.2)) < 1099511627776))) (((z0 ≤ (w64 y.2)) ∧ ((w64 y.2) ≤ (w64 y.2))) ∧ ((tN (w64 y.2)) < 1099511627776)) (fun h => (and_t (and_t (decide_eq_true h.1.1) (decide_eq_true h.1.2)) (decide_eq_true h.2)))
 (.lt (copyL (List.replicate (tN (w64 y.2)) z0) 0 (List.length (List.replicate (tN (w64 y.2)) z0)) x.1) fun y_1 =>
 (LoopD.lp (repeatM_l0 x) (repeatM_l0_t x) (y_1,(((copyN (List.length (List.replicate (tN (w64 y.2)) z0)) (List.length x.1)):Nat):Int)) fun r =>
 (.ret r))))))))
noncomputable abbrev repeatM_S : FnS := ⟨(.pair (.one (Ty.sl yi)) (.one yi)),(.one (Ty.sl yi)),repeatM_pre,repeatM⟩
theorem repeatM_ok : SpecOk Try.prog 27 (fnSpec repeatM_S) := SpecOk.tr repeatM_S repeatM_t (fn := Try.f27) tt_ok sp_bmulM_ok mixed (by kernel_rfl) (ItsOk.nil _ _) (fun x => (LpsOk.tr tt_ok (SpecsOk.ctxI sp_bmulM_ok (ItsOk.nil _ _)) mixed 0 (repeatM_l0 x) (repeatM_l0_t x) LpsOk.nil (by kernel_rfl) fun g s Q => (by kernel_rfl))) (fun x => (by kernel_rfl)) fun x Q => (by kernel_rfl)
def sp_repeatM : List (Nat × Ev.Spec) := (27,fnSpec repeatM_S) :: sp_bmulM
theorem sp_repeatM_ok : SpecsOk Try.prog sp_repeatM := SpecsOk.add (fn := Try.f27) (by kernel_rfl) repeatM_ok sp_bmulM_ok
noncomputable def indexI_l0 (x : ((List Int) × Int)) : LoopD := ⟨[],⟨pvs 19 0 [(0,.v (.one (.full 0))),(1,.v (.one (.i .i64))),(7,.v (.one (.i .i64))),(8,.v (.one (.i .i64)))],[.row yi 0],0,none,[],[0,1,3],[2],[.i],[.i x.2,.i (((List.length x.1):Nat):Int),.l yi x.1]⟩,[⟨.ret,.ret,⟨pvs 19 0 [(4,.v (.one (.i .i64)))],[],0,none,[],[],[0],[.i],[]⟩⟩,⟨(.exit 0),.normal,⟨pvs 19 0 [],[],0,none,[],[],[],[],[]⟩⟩]⟩
noncomputable def indexI_l0_step (x : ((List Int) × Int)) (s:Int) : Int ⊕ (Int ⊕ Unit) :=
 (if (s < (((List.length x.1):Nat):Int)) then
 (if ((x.2 == (List.getD x.1 (Int.toNat s) (0:Int))) = true) then
 (Sum.inr (Sum.inl s)) else
 (Sum.inl (w64 (s + (1:Int))))) else
 (Sum.inr (Sum.inr (()))))
noncomputable def indexI_l0_pre (x : ((List Int) × Int)) (s:Int) : Prop :=
 ((s < (((List.length x.1):Nat):Int)) →
 ((((0:Int) ≤ s) ∧ (s < (((List.length x.1):Nat):Int))) ∧
 (((Int.toNat s) < (List.length x.1)) ∧
 ((Int.toNat s) < (List.length x.1)))))
noncomputable def indexI_l0_t (x : ((List Int) × Int)) (s:Int) : Tr (Int ⊕ (Int ⊕ Unit)) true :=
 (.i10 (s < (nL x.1))
 (.oR s (nL x.1)
 (.od ((tN s) < (List.length x.1))
 (.od ((tN s) < (List.length x.1))
 (.b00 (x.2 == (gI x.1 s))
 (.ret (.inr (Sum.inl s)))
 (.ret (.inl (w1 s)))))))
 (.ret (.inr (Sum.inr (())))))
noncomputable def indexI (x : ((List Int) × Int)) : Int :=
 (letV (run (indexI_l0_step x) (0:Int)) fun r =>
 (Sum.elim (fun a =>
 a) (fun b =>
 (-1:Int)) r))
noncomputable def indexI_pre (x : ((List Int) × Int)) : Prop :=
 (Term (indexI_l0_step x) (indexI_l0_pre x) (0:Int))
noncomputable def indexI_t (x : ((List Int) × Int)) : Tr Int true :=
 (LoopD.lp (indexI_l0 x) (indexI_l0_t x) z0 fun r =>
 (.s00 r (fun a =>
 (.ret a)) (fun b =>
 (.ret (-1:Int)))))
noncomputable abbrev indexI_S : FnS := ⟨(.pair (.one (Ty.sl yi)) (.one yi)),(.one yi),indexI_pre,indexI⟩
theorem indexI_ok : SpecOk Try.prog 38 (fnSpec indexI_S) := SpecOk.tr indexI_S indexI_t (fn := Try.f38) tt_ok sp_repeatM_ok mixed (by kernel_rfl) (ItsOk.nil _ _) (fun x => (LpsOk.tr tt_ok (SpecsOk.ctxI sp_repeatM_ok (ItsOk.nil _ _)) mixed 0 (indexI_l0 x) (indexI_l0_t x) LpsOk.nil (by kernel_rfl) fun g s Q => (by kernel_rfl))) (fun x => (by kernel_rfl)) fun x Q => (by kernel_rfl)
def sp_indexI : List (Nat × Ev.Spec) := (38,fnSpec indexI_S) :: sp_repeatM
theorem sp_indexI_ok : SpecsOk Try.prog sp_indexI := SpecsOk.add (fn := Try.f38) (by kernel_rfl) indexI_ok sp_repeatM_ok
end Go.Proofs.Ytbjfokijjefoeaa
