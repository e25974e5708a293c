/- Models of functions of layers 10, 16. -/
import Derived.Test.YtbjfokijjefoeaaFa
namespace Go.Proofs.Ytbjfokijjefoeaa
open Go Go.Ev Go.Proofs
set_option linter.unusedVariables false
noncomputable def odd (x : I6) : Bool :=
 (letV (mright x) fun y =>
 (!y))
noncomputable def odd_pre (x : I6) : Prop :=
 (mright_pre x)
noncomputable def odd_t (x : I6) : Tr Bool true :=
 (.fn mright_S x fun y =>
 (.ret (!y)))
noncomputable abbrev odd_S : FnS := ⟨(.agg yy6), (.one Ty.bool), odd_pre, odd⟩
theorem odd_ok : SpecOk Try.prog 49 (fnSpec odd_S) := SpecOk.tr odd_S odd_t (fn := Try.f49) tt_ok sp_fsizes_ok mixed (by kernel_rfl) (ItsOk.nil _ _) (fun x => LpsOk.nil) (fun x => (by kernel_rfl)) fun x Q => (by kernel_rfl)
def sp_odd : List (Nat × Ev.Spec) := (49, fnSpec odd_S) :: sp_fsizes
theorem sp_odd_ok : SpecsOk Try.prog sp_odd := SpecsOk.add (fn := Try.f49) (by kernel_rfl) odd_ok sp_fsizes_ok
noncomputable def indexT_l0 (x : ((List I6) × Bool)) : LoopD := ⟨[], ⟨pvs 19 0 [(0, .v (.one (.full 0))), (1, .v (.one (.clo 49 0 []))), (7, .v (.one (.i .i64))), (8, .v (.one (.i .i64)))], [.row yy6 0], 0, none, [], [0, 2], [1], [.i], [.i (((List.length x.1) : Nat) : Int), .l yy6 x.1]⟩, [⟨.ret, .ret, ⟨pvs 19 0 [(4, .v (.one (.i .i64)))], [], 0, none, [], [], [0], [.i], []⟩⟩, ⟨(.exit 0), .normal, ⟨pvs 19 0 [], [], 0, none, [], [], [], [], []⟩⟩]⟩
noncomputable def indexT_l0_step (x : ((List I6) × Bool)) (s : Int) : Int ⊕ (Int ⊕ Unit) :=
 (if (s < (((List.length x.1) : Nat) : Int)) then
 (letV (odd (List.getD x.1 (Int.toNat s) (((0 : Int), (0 : Int)), (((0 : Int), (0 : Int)), ((0 : Int), (0 : Int)))))) fun y =>
 (if (y = true) then
 (Sum.inr (Sum.inl s)) else
 (Sum.inl (w64 (s + (1 : Int)))))) else
 (Sum.inr (Sum.inr (()))))
noncomputable def indexT_l0_pre (x : ((List I6) × Bool)) (s : Int) : Prop :=
 ((s < (((List.length x.1) : Nat) : Int)) →
 ((((0 : Int) ≤ s) ∧ (s < (((List.length x.1) : Nat) : Int))) ∧
 (((Int.toNat s) < (List.length x.1)) ∧
 (((Int.toNat s) < (List.length x.1)) ∧
 (odd_pre (List.getD x.1 (Int.toNat s) (((0 : Int), (0 : Int)), (((0 : Int), (0 : Int)), ((0 : Int), (0 : Int))))))))))
noncomputable def indexT_l0_t (x : ((List I6) × Bool)) (s : Int) : Tr (Int ⊕ (Int ⊕ Unit)) true :=
 (.i10 (s < (((List.length x.1) : Nat) : Int))
 (.oR s (((List.length x.1) : Nat) : Int)
 (.od ((Int.toNat s) < (List.length x.1))
 (.od ((Int.toNat s) < (List.length x.1))
 (.fn odd_S (List.getD x.1 (Int.toNat s) zz6) fun y =>
 (.b00 y
 (.ret (.inr (Sum.inl s)))
 (.ret (.inl (w64 (s + (1 : Int))))))))))
 (.ret (.inr (Sum.inr (())))))
noncomputable def indexT (x : ((List I6) × Bool)) : Int :=
 (letV (run (indexT_l0_step x) (0 : Int)) fun r =>
 (Sum.elim (fun a =>
 a) (fun b =>
 (-1 : Int)) r))
noncomputable def indexT_pre (x : ((List I6) × Bool)) : Prop :=
 (Term (indexT_l0_step x) (indexT_l0_pre x) (0 : Int))
noncomputable def indexT_t (x : ((List I6) × Bool)) : Tr Int true :=
 (LoopD.lp (indexT_l0 x) (indexT_l0_t x) (0 : Int) fun r =>
 (.s00 r (fun a =>
 (.ret a)) (fun b =>
 (.ret (-1 : Int)))))
noncomputable abbrev indexT_S : FnS := ⟨(.pair (.one (Ty.sl yy6)) (.clo 49 .none)), (.one yi), indexT_pre, indexT⟩
theorem indexT_ok : SpecOk Try.prog 74 (fnSpec indexT_S) := SpecOk.tr indexT_S indexT_t (fn := Try.f74) tt_ok sp_odd_ok mixed (by kernel_rfl) (ItsOk.nil _ _) (fun x => (LpsOk.tr tt_ok (SpecsOk.ctxI sp_odd_ok (ItsOk.nil _ _)) mixed 0 (indexT_l0 x) (indexT_l0_t x) LpsOk.nil (by kernel_rfl) fun g s Q => (by kernel_rfl))) (fun x => (by kernel_rfl)) fun x Q => (by kernel_rfl)
def sp_indexT : List (Nat × Ev.Spec) := (74, fnSpec indexT_S) :: sp_odd
theorem sp_indexT_ok : SpecsOk Try.prog sp_indexT := SpecsOk.add (fn := Try.f74) (by kernel_rfl) indexT_ok sp_odd_ok
noncomputable def containsT (x : ((List I6) × Bool)) : Bool :=
 (letV (indexT (x.1, false)) fun y =>
 (decide (y ≥ (0 : Int))))
noncomputable def containsT_pre (x : ((List I6) × Bool)) : Prop :=
 (indexT_pre (x.1, false))
noncomputable def containsT_t (x : ((List I6) × Bool)) : Tr Bool true :=
 (.fn indexT_S (x.1, false) fun y =>
 (.ret (decide (y ≥ (0 : Int)))))
noncomputable abbrev containsT_S : FnS := ⟨(.pair (.one (Ty.sl yy6)) (.clo 49 .none)), (.one Ty.bool), containsT_pre, containsT⟩
theorem containsT_ok : SpecOk Try.prog 51 (fnSpec containsT_S) := SpecOk.tr containsT_S containsT_t (fn := Try.f51) tt_ok sp_indexT_ok mixed (by kernel_rfl) (ItsOk.nil _ _) (fun x => LpsOk.nil) (fun x => (by kernel_rfl)) fun x Q => (by kernel_rfl)
def sp_containsT : List (Nat × Ev.Spec) := (51, fnSpec containsT_S) :: sp_indexT
theorem sp_containsT_ok : SpecsOk Try.prog sp_containsT := SpecsOk.add (fn := Try.f51) (by kernel_rfl) containsT_ok sp_indexT_ok
noncomputable def mside (x : (I2 × (I2 × (I2 × Int)))) : Int :=
 (letV (sside (x.2.1, (x.2.2.1, x.1))) fun y =>
 (w64 (x.2.2.2 * y.1)))
noncomputable def mside_pre (x : (I2 × (I2 × (I2 × Int)))) : Prop :=
 (sside_pre (x.2.1, (x.2.2.1, x.1)))
noncomputable def mside_t (x : (I2 × (I2 × (I2 × Int)))) : Tr Int true :=
 (.fn sside_S (x.2.1, (x.2.2.1, x.1)) fun y =>
 (.ret (w64 (x.2.2.2 * y.1))))
noncomputable abbrev mside_S : FnS := ⟨(.pair (.agg yy2) (.pair (.ptr (.prod (.int .i64) (.int .i64))) (.pair (.ptr (.prod (.int .i64) (.int .i64))) (.ptr (.int .i64))))), (.one yi), mside_pre, mside⟩
theorem mside_ok : SpecOk Try.prog 97 (fnSpec mside_S) := SpecOk.tr mside_S mside_t (fn := Try.f97) tt_ok sp_containsT_ok mixed (by kernel_rfl) (ItsOk.nil _ _) (fun x => LpsOk.nil) (fun x => (by kernel_rfl)) fun x Q => (by kernel_rfl)
def sp_mside : List (Nat × Ev.Spec) := (97, fnSpec mside_S) :: sp_containsT
theorem sp_mside_ok : SpecsOk Try.prog sp_mside := SpecsOk.add (fn := Try.f97) (by kernel_rfl) mside_ok sp_containsT_ok
end Go.Proofs.Ytbjfokijjefoeaa
