/- Models of functions of layers 10, 15, 16. -/
import Derived.Test.YtfgdjlhilladhaaGreatDb0
namespace Go.Proofs.YtfgdjlhilladhaaGreat
open Go Go.Ev Go.Proofs
set_option linter.unusedVariables false
noncomputable def indexV3_l0 (x : ((List I3) × Bool)) : LoopD := ⟨[], ⟨pvs 19 0 [(0, .v (.one (.full 0))), (1, .v (.one (.clo 78 0 []))), (7, .v (.one (.i .i64))), (8, .v (.one (.i .i64)))], [.row yy3 0], 0, none, [], [0, 2], [1], [.i], [.i (((List.length x.1) : Nat) : Int), .l yy3 x.1]⟩, [⟨.ret, .ret, ⟨pvs 19 0 [(4, .v (.one (.i .i64)))], [], 0, none, [], [], [0], [.i], []⟩⟩, ⟨(.exit 0), .normal, ⟨pvs 19 0 [], [], 0, none, [], [], [], [], []⟩⟩]⟩
noncomputable def indexV3_l0_step (x : ((List I3) × Bool)) (s : Int) : Int ⊕ (Int ⊕ Unit) :=
 (if (s < (((List.length x.1) : Nat) : Int)) then
 (letV (far (List.getD x.1 (Int.toNat s) ((0 : Int), ((0 : Int), (0 : Int))))) fun y =>
 (if (y = true) then
 (Sum.inr (Sum.inl s)) else
 (Sum.inl (w64 (s + (1 : Int)))))) else
 (Sum.inr (Sum.inr (()))))
noncomputable def indexV3_l0_pre (x : ((List I3) × Bool)) (s : Int) : Prop :=
 ((s < (((List.length x.1) : Nat) : Int)) →
 ((((0 : Int) ≤ s) ∧ (s < (((List.length x.1) : Nat) : Int))) ∧
 (((Int.toNat s) < (List.length x.1)) ∧
 ((Int.toNat s) < (List.length x.1)))))
noncomputable def indexV3_l0_t (x : ((List I3) × Bool)) (s : Int) : Tr (Int ⊕ (Int ⊕ Unit)) true :=
 (.i10 (s < (((List.length x.1) : Nat) : Int))
 (.oR s (((List.length x.1) : Nat) : Int)
 (.od ((Int.toNat s) < (List.length x.1))
 (.od ((Int.toNat s) < (List.length x.1))
 (.fn0 far_S (List.getD x.1 (Int.toNat s) zz3) trivial fun y =>
 (.b00 y
 (.ret (.inr (Sum.inl s)))
 (.ret (.inl (w64 (s + (1 : Int))))))))))
 (.ret (.inr (Sum.inr (())))))
noncomputable def indexV3 (x : ((List I3) × Bool)) : Int :=
 (letV (run (indexV3_l0_step x) (0 : Int)) fun r =>
 (Sum.elim (fun a =>
 a) (fun b =>
 (-1 : Int)) r))
noncomputable def indexV3_pre (x : ((List I3) × Bool)) : Prop :=
 (Term (indexV3_l0_step x) (indexV3_l0_pre x) (0 : Int))
noncomputable def indexV3_t (x : ((List I3) × Bool)) : Tr Int true :=
 (LoopD.lp (indexV3_l0 x) (indexV3_l0_t x) (0 : Int) fun r =>
 (.s00 r (fun a =>
 (.ret a)) (fun b =>
 (.ret (-1 : Int)))))
noncomputable abbrev indexV3_S : FnS := ⟨(.pair (.one (Ty.sl yy3)) (.clo 78 .none)), (.one yi), indexV3_pre, indexV3⟩
theorem indexV3_ok : SpecOk Tryz.prog 121 (fnSpec indexV3_S) := SpecOk.tr indexV3_S indexV3_t (fn := Tryz.f121) tt_ok sp_nlift_ok mixed (by kernel_rfl) (ItsOk.nil _ _) (fun x => (LpsOk.tr tt_ok (SpecsOk.ctxI sp_nlift_ok (ItsOk.nil _ _)) mixed 0 (indexV3_l0 x) (indexV3_l0_t x) LpsOk.nil (by kernel_rfl) fun g s Q => (by kernel_rfl))) (fun x => (by kernel_rfl)) fun x Q => (by kernel_rfl)
def sp_indexV3 : List (Nat × Ev.Spec) := (121, fnSpec indexV3_S) :: sp_nlift
theorem sp_indexV3_ok : SpecsOk Tryz.prog sp_indexV3 := SpecsOk.add (fn := Tryz.f121) (by kernel_rfl) indexV3_ok sp_nlift_ok
noncomputable def containsV3 (x : ((List I3) × Bool)) : Bool :=
 (letV (indexV3 (x.1, false)) fun y =>
 (decide (y ≥ (0 : Int))))
noncomputable def containsV3_pre (x : ((List I3) × Bool)) : Prop :=
 (indexV3_pre (x.1, false))
noncomputable def containsV3_t (x : ((List I3) × Bool)) : Tr Bool true :=
 (.fn indexV3_S (x.1, false) fun y =>
 (.ret (decide (y ≥ (0 : Int)))))
noncomputable abbrev containsV3_S : FnS := ⟨(.pair (.one (Ty.sl yy3)) (.clo 78 .none)), (.one Ty.bool), containsV3_pre, containsV3⟩
theorem containsV3_ok : SpecOk Tryz.prog 77 (fnSpec containsV3_S) := SpecOk.tr containsV3_S containsV3_t (fn := Tryz.f77) tt_ok sp_indexV3_ok mixed (by kernel_rfl) (ItsOk.nil _ _) (fun x => LpsOk.nil) (fun x => (by kernel_rfl)) fun x Q => (by kernel_rfl)
def sp_containsV3 : List (Nat × Ev.Spec) := (77, fnSpec containsV3_S) :: sp_indexV3
theorem sp_containsV3_ok : SpecsOk Tryz.prog sp_containsV3 := SpecsOk.add (fn := Tryz.f77) (by kernel_rfl) containsV3_ok sp_indexV3_ok
noncomputable def tame (x : ((List I3) × ((List I2) × ((List I3) × (List I9))))) : Bool :=
 (letV (meshis x) fun y =>
 (if (y = true) then
 (letV (containsV3 (x.1, false)) fun y_1 =>
 (!y_1)) else
 false))
noncomputable def tame_pre (x : ((List I3) × ((List I2) × ((List I3) × (List I9))))) : Prop :=
 ((meshis_pre x) ∧
 letP (meshis x) fun y =>
 ((y = true) →
 (containsV3_pre (x.1, false))))
noncomputable def tame_t (x : ((List I3) × ((List I2) × ((List I3) × (List I9))))) : Tr Bool true :=
 (.fn meshis_S x fun y =>
 (.b10 y
 (.fn containsV3_S (x.1, false) fun y_1 =>
 (.ret (!y_1)))
 (.ret false)))
noncomputable abbrev tame_S : FnS := ⟨(.agg (Ty.prod (Ty.sl yy3) (Ty.prod (Ty.sl yy2) (Ty.prod (Ty.sl yy3) (Ty.sl yy9))))), (.one Ty.bool), tame_pre, tame⟩
theorem tame_ok : SpecOk Tryz.prog 35 (fnSpec tame_S) := SpecOk.tr tame_S tame_t (fn := Tryz.f35) tt_ok sp_containsV3_ok mixed (by kernel_rfl) (ItsOk.nil _ _) (fun x => LpsOk.nil) (fun x => (by kernel_rfl)) fun x Q => (by kernel_rfl)
def sp_tame : List (Nat × Ev.Spec) := (35, fnSpec tame_S) :: sp_containsV3
theorem sp_tame_ok : SpecsOk Tryz.prog sp_tame := SpecsOk.add (fn := Tryz.f35) (by kernel_rfl) tame_ok sp_containsV3_ok
noncomputable def odd (x : I6) : Bool :=
 (letV (mright x) fun y =>
 (!y))
noncomputable def odd_pre (x : I6) : Prop :=
 (mright_pre x)
noncomputable def odd_t (x : I6) : Tr Bool true :=
 (.fn mright_S x fun y =>
 (.ret (!y)))
noncomputable abbrev odd_S : FnS := ⟨(.agg yy6), (.one Ty.bool), odd_pre, odd⟩
theorem odd_ok : SpecOk Tryz.prog 132 (fnSpec odd_S) := SpecOk.tr odd_S odd_t (fn := Tryz.f132) tt_ok sp_tame_ok mixed (by kernel_rfl) (ItsOk.nil _ _) (fun x => LpsOk.nil) (fun x => (by kernel_rfl)) fun x Q => (by kernel_rfl)
def sp_odd : List (Nat × Ev.Spec) := (132, fnSpec odd_S) :: sp_tame
theorem sp_odd_ok : SpecsOk Tryz.prog sp_odd := SpecsOk.add (fn := Tryz.f132) (by kernel_rfl) odd_ok sp_tame_ok
noncomputable def indexT_l0 (x : ((List I6) × Bool)) : LoopD := ⟨[], ⟨pvs 19 0 [(0, .v (.one (.full 0))), (1, .v (.one (.clo 132 0 []))), (7, .v (.one (.i .i64))), (8, .v (.one (.i .i64)))], [.row yy6 0], 0, none, [], [0, 2], [1], [.i], [.i (((List.length x.1) : Nat) : Int), .l yy6 x.1]⟩, [⟨.ret, .ret, ⟨pvs 19 0 [(4, .v (.one (.i .i64)))], [], 0, none, [], [], [0], [.i], []⟩⟩, ⟨(.exit 0), .normal, ⟨pvs 19 0 [], [], 0, none, [], [], [], [], []⟩⟩]⟩
noncomputable def indexT_l0_step (x : ((List I6) × Bool)) (s : Int) : Int ⊕ (Int ⊕ Unit) :=
 (if (s < (((List.length x.1) : Nat) : Int)) then
 (letV (odd (List.getD x.1 (Int.toNat s) (((0 : Int), (0 : Int)), (((0 : Int), (0 : Int)), ((0 : Int), (0 : Int)))))) fun y =>
 (if (y = true) then
 (Sum.inr (Sum.inl s)) else
 (Sum.inl (w64 (s + (1 : Int)))))) else
 (Sum.inr (Sum.inr (()))))
noncomputable def indexT_l0_pre (x : ((List I6) × Bool)) (s : Int) : Prop :=
 ((s < (((List.length x.1) : Nat) : Int)) →
 ((((0 : Int) ≤ s) ∧ (s < (((List.length x.1) : Nat) : Int))) ∧
 (((Int.toNat s) < (List.length x.1)) ∧
 (((Int.toNat s) < (List.length x.1)) ∧
 (odd_pre (List.getD x.1 (Int.toNat s) (((0 : Int), (0 : Int)), (((0 : Int), (0 : Int)), ((0 : Int), (0 : Int))))))))))
noncomputable def indexT_l0_t (x : ((List I6) × Bool)) (s : Int) : Tr (Int ⊕ (Int ⊕ Unit)) true :=
 (.i10 (s < (((List.length x.1) : Nat) : Int))
 (.oR s (((List.length x.1) : Nat) : Int)
 (.od ((Int.toNat s) < (List.length x.1))
 (.od ((Int.toNat s) < (List.length x.1))
 (.fn odd_S (List.getD x.1 (Int.toNat s) zz6) fun y =>
 (.b00 y
 (.ret (.inr (Sum.inl s)))
 (.ret (.inl (w64 (s + (1 : Int))))))))))
 (.ret (.inr (Sum.inr (())))))
noncomputable def indexT (x : ((List I6) × Bool)) : Int :=
 (letV (run (indexT_l0_step x) (0 : Int)) fun r =>
 (Sum.elim (fun a =>
 a) (fun b =>
 (-1 : Int)) r))
noncomputable def indexT_pre (x : ((List I6) × Bool)) : Prop :=
 (Term (indexT_l0_step x) (indexT_l0_pre x) (0 : Int))
noncomputable def indexT_t (x : ((List I6) × Bool)) : Tr Int true :=
 (LoopD.lp (indexT_l0 x) (indexT_l0_t x) (0 : Int) fun r =>
 (.s00 r (fun a =>
 (.ret a)) (fun b =>
 (.ret (-1 : Int)))))
noncomputable abbrev indexT_S : FnS := ⟨(.pair (.one (Ty.sl yy6)) (.clo 132 .none)), (.one yi), indexT_pre, indexT⟩
theorem indexT_ok : SpecOk Tryz.prog 169 (fnSpec indexT_S) := SpecOk.tr indexT_S indexT_t (fn := Tryz.f169) tt_ok sp_odd_ok mixed (by kernel_rfl) (ItsOk.nil _ _) (fun x => (LpsOk.tr tt_ok (SpecsOk.ctxI sp_odd_ok (ItsOk.nil _ _)) mixed 0 (indexT_l0 x) (indexT_l0_t x) LpsOk.nil (by kernel_rfl) fun g s Q => (by kernel_rfl))) (fun x => (by kernel_rfl)) fun x Q => (by kernel_rfl)
def sp_indexT : List (Nat × Ev.Spec) := (169, fnSpec indexT_S) :: sp_odd
theorem sp_indexT_ok : SpecsOk Tryz.prog sp_indexT := SpecsOk.add (fn := Tryz.f169) (by kernel_rfl) indexT_ok sp_odd_ok
noncomputable def containsT (x : ((List I6) × Bool)) : Bool :=
 (letV (indexT (x.1, false)) fun y =>
 (decide (y ≥ (0 : Int))))
noncomputable def containsT_pre (x : ((List I6) × Bool)) : Prop :=
 (indexT_pre (x.1, false))
noncomputable def containsT_t (x : ((List I6) × Bool)) : Tr Bool true :=
 (.fn indexT_S (x.1, false) fun y =>
 (.ret (decide (y ≥ (0 : Int)))))
noncomputable abbrev containsT_S : FnS := ⟨(.pair (.one (Ty.sl yy6)) (.clo 132 .none)), (.one Ty.bool), containsT_pre, containsT⟩
theorem containsT_ok : SpecOk Tryz.prog 133 (fnSpec containsT_S) := SpecOk.tr containsT_S containsT_t (fn := Tryz.f133) tt_ok sp_indexT_ok mixed (by kernel_rfl) (ItsOk.nil _ _) (fun x => LpsOk.nil) (fun x => (by kernel_rfl)) fun x Q => (by kernel_rfl)
def sp_containsT : List (Nat × Ev.Spec) := (133, fnSpec containsT_S) :: sp_indexT
theorem sp_containsT_ok : SpecsOk Tryz.prog sp_containsT := SpecsOk.add (fn := Tryz.f133) (by kernel_rfl) containsT_ok sp_indexT_ok
noncomputable def mapart_i0 : ItsB Tryz.prog := ⟨_, (ItsOk.walk tt_ok sp_containsT_ok mixed 98 (fn := Tryz.f98) (by kernel_rfl) (ItsOk.nil _ _) fun ys hy => LpsOk.nil)⟩
noncomputable def mapart_i1 : ItsB Tryz.prog := ⟨_, (ItsOk.walk tt_ok sp_containsT_ok mixed 142 (fn := Tryz.f142) (by kernel_rfl) mapart_i0.ok fun ys hy => (LpsOk.unrollT tt_ok ⟨sp_containsT_ok, hy, mapart_i0.ok⟩ mixed 0 4 LpsOk.nil (by kernel_rfl)))⟩
noncomputable def mapart_l2_13 (x : (I6 × (Int × (List I2)))) : LoopD := ⟨[.lo, .env, .env], ⟨pvs 30 0 [(4, .v (.one (.ptr 2 0))), (6, .v (.one (.ptr 4 0))), (7, .v (.one (.clo 143 0 [.loc 10 0, .loc 11 0, .loc 9 0]))), (8, .v (.one (.b))), (14, .v (.one (.full 0))), (15, .v (.one (.i .i64))), (16, .v (.one (.i .i64)))], [.row yy2 0, .cells [.i .i64, .i .i64, .i .i64, .i .i64, .i .i64, .i .i64] 24, .cells [.i .i64] 3, .cells [.full 0] 29, .cells [.b] 4, .gone, .cells [.i .i64, .i .i64, .i .i64, .i .i64, .i .i64, .i .i64] 24, .loop true, .pin 8, .cells [.i .i64] 3, .cells [.i .i64, .i .i64] 23, .cells [.i .i64, .i .i64] 23, .pin 12], 13, none, [18, 19, 25], [1, 3, 4, 5, 6, 7, 8, 9, 10, 11, 12, 13, 14, 15, 16, 17, 21, 22, 23, 24], [20, 0, 2], [.i, .b, .i], [.i (((List.length x.2.2) : Nat) : Int), .l yy2 x.2.2, .i x.1.1.1, .i x.1.1.2, .i x.1.2.1.1, .i x.1.2.1.2, .i x.1.2.2.1, .i x.1.2.2.2, .i x.2.1, .b false, .i x.1.1.1, .i x.1.1.2, .i x.1.2.1.1, .i x.1.2.1.2, .i x.1.2.2.1, .i x.1.2.2.2, .i x.1.1.1, .i x.1.1.2, .i x.1.2.1.1, .i x.1.2.1.2]⟩, [⟨(.exit 2), .normal, ⟨pvs 30 0 [(6, .v (.one (.ptr 4 0))), (8, .v (.one (.b)))], [.row yy2 0, .cells [.i .i64, .i .i64, .i .i64, .i .i64, .i .i64, .i .i64] 24, .cells [.i .i64] 3, .cells [.full 0] 29, .cells [.b] 4, .gone, .cells [.i .i64, .i .i64, .i .i64, .i .i64, .i .i64, .i .i64] 24, .loop true, .pin 8, .cells [.i .i64] 3, .cells [.i .i64, .i .i64] 23, .cells [.i .i64, .i .i64] 23, .pin 12], 13, none, [16, 17, 23], [1, 2, 3, 4, 5, 6, 7, 8, 9, 10, 11, 12, 13, 14, 15, 19, 20, 21, 22], [18, 0], [.i, .b], [.l yy2 x.2.2, .i x.1.1.1, .i x.1.1.2, .i x.1.2.1.1, .i x.1.2.1.2, .i x.1.2.2.1, .i x.1.2.2.2, .i x.2.1, .b false, .i x.1.1.1, .i x.1.1.2, .i x.1.2.1.1, .i x.1.2.1.2, .i x.1.2.2.1, .i x.1.2.2.2, .i x.1.1.1, .i x.1.1.2, .i x.1.2.1.1, .i x.1.2.1.2]⟩⟩]⟩
noncomputable def mapart_l2_13_step (x : (I6 × (Int × (List I2)))) (s : (Int × (Bool × Int))) : (Int × (Bool × Int)) ⊕ (Int × Bool) :=
 (if (s.2.2 < (((List.length x.2.2) : Nat) : Int)) then
 (if (s.2.1 = true) then
 (letV (mside ((List.getD x.2.2 (Int.toNat s.2.2) ((0 : Int), (0 : Int))), (x.1.1, (x.1.2.1, s.1)))) fun y =>
 (Sum.inl (s.1, ((decide (y < x.2.1)), (w64 (s.2.2 + (1 : Int))))))) else
 (Sum.inl (s.1, (false, (w64 (s.2.2 + (1 : Int))))))) else
 (Sum.inr ((s.1, s.2.1))))
noncomputable def mapart_l2_13_pre (x : (I6 × (Int × (List I2)))) (s : (Int × (Bool × Int))) : Prop :=
 ((s.2.2 < (((List.length x.2.2) : Nat) : Int)) →
 ((((0 : Int) ≤ s.2.2) ∧ (s.2.2 < (((List.length x.2.2) : Nat) : Int))) ∧
 (((Int.toNat s.2.2) < (List.length x.2.2)) ∧
 (((Int.toNat s.2.2) < (List.length x.2.2)) ∧
 ((s.2.1 = true) →
 (mside_pre ((List.getD x.2.2 (Int.toNat s.2.2) ((0 : Int), (0 : Int))), (x.1.1, (x.1.2.1, s.1)))))))))
noncomputable def mapart_l2_13_t (x : (I6 × (Int × (List I2)))) (s : (Int × (Bool × Int))) : Tr ((Int × (Bool × Int)) ⊕ (Int × Bool)) true :=
 (.i10 (s.2.2 < (((List.length x.2.2) : Nat) : Int))
 (.oR s.2.2 (((List.length x.2.2) : Nat) : Int)
 (.od ((Int.toNat s.2.2) < (List.length x.2.2))
 (.od ((Int.toNat s.2.2) < (List.length x.2.2))
 (.b10 s.2.1
 (.fn mside_S ((List.getD x.2.2 (Int.toNat s.2.2) zz2), (x.1.1, (x.1.2.1, s.1))) fun y =>
 (.ret (.inl (s.1, ((decide (y < x.2.1)), (w64 (s.2.2 + (1 : Int))))))))
 (.ret (.inl (s.1, (false, (w64 (s.2.2 + (1 : Int)))))))))))
 (.ret (.inr ((s.1, s.2.1)))))
noncomputable def mapart_l2_16 (x : (I6 × (Int × (List I2)))) : LoopD := ⟨[.lo, .env, .env], ⟨pvs 30 0 [(4, .v (.one (.ptr 2 0))), (6, .v (.one (.ptr 4 0))), (7, .v (.one (.clo 143 0 [.loc 13 0, .loc 14 0, .loc 9 0]))), (8, .v (.one (.b))), (14, .v (.one (.full 0))), (15, .v (.one (.i .i64))), (16, .v (.one (.i .i64)))], [.row yy2 0, .cells [.i .i64, .i .i64, .i .i64, .i .i64, .i .i64, .i .i64] 24, .cells [.i .i64] 3, .cells [.full 0] 29, .cells [.b] 4, .gone, .cells [.i .i64, .i .i64, .i .i64, .i .i64, .i .i64, .i .i64] 24, .loop true, .pin 8, .cells [.i .i64] 3, .cells [.i .i64, .i .i64] 23, .cells [.i .i64, .i .i64] 23, .gone, .cells [.i .i64, .i .i64] 23, .cells [.i .i64, .i .i64] 23, .pin 15], 16, none, [18, 19, 29], [1, 3, 4, 5, 6, 7, 8, 9, 10, 11, 12, 13, 14, 15, 16, 17, 21, 22, 23, 24, 25, 26, 27, 28], [20, 0, 2], [.i, .b, .i], [.i (((List.length x.2.2) : Nat) : Int), .l yy2 x.2.2, .i x.1.1.1, .i x.1.1.2, .i x.1.2.1.1, .i x.1.2.1.2, .i x.1.2.2.1, .i x.1.2.2.2, .i x.2.1, .b false, .i x.1.1.1, .i x.1.1.2, .i x.1.2.1.1, .i x.1.2.1.2, .i x.1.2.2.1, .i x.1.2.2.2, .i x.1.1.1, .i x.1.1.2, .i x.1.2.1.1, .i x.1.2.1.2, .i x.1.2.1.1, .i x.1.2.1.2, .i x.1.2.2.1, .i x.1.2.2.2]⟩, [⟨(.exit 2), .normal, ⟨pvs 30 0 [(6, .v (.one (.ptr 4 0))), (8, .v (.one (.b)))], [.row yy2 0, .cells [.i .i64, .i .i64, .i .i64, .i .i64, .i .i64, .i .i64] 24, .cells [.i .i64] 3, .cells [.full 0] 29, .cells [.b] 4, .gone, .cells [.i .i64, .i .i64, .i .i64, .i .i64, .i .i64, .i .i64] 24, .loop true, .pin 8, .cells [.i .i64] 3, .cells [.i .i64, .i .i64] 23, .cells [.i .i64, .i .i64] 23, .gone, .cells [.i .i64, .i .i64] 23, .cells [.i .i64, .i .i64] 23, .pin 15], 16, none, [16, 17, 27], [1, 2, 3, 4, 5, 6, 7, 8, 9, 10, 11, 12, 13, 14, 15, 19, 20, 21, 22, 23, 24, 25, 26], [18, 0], [.i, .b], [.l yy2 x.2.2, .i x.1.1.1, .i x.1.1.2, .i x.1.2.1.1, .i x.1.2.1.2, .i x.1.2.2.1, .i x.1.2.2.2, .i x.2.1, .b false, .i x.1.1.1, .i x.1.1.2, .i x.1.2.1.1, .i x.1.2.1.2, .i x.1.2.2.1, .i x.1.2.2.2, .i x.1.1.1, .i x.1.1.2, .i x.1.2.1.1, .i x.1.2.1.2, .i x.1.2.1.1, .i x.1.2.1.2, .i x.1.2.2.1, .i x.1.2.2.2]⟩⟩]⟩
noncomputable def mapart_l2_16_step (x : (I6 × (Int × (List I2)))) (s : (Int × (Bool × Int))) : (Int × (Bool × Int)) ⊕ (Int × Bool) :=
 (if (s.2.2 < (((List.length x.2.2) : Nat) : Int)) then
 (if (s.2.1 = true) then
 (letV (mside ((List.getD x.2.2 (Int.toNat s.2.2) ((0 : Int), (0 : Int))), (x.1.2.1, (x.1.2.2, s.1)))) fun y =>
 (Sum.inl (s.1, ((decide (y < x.2.1)), (w64 (s.2.2 + (1 : Int))))))) else
 (Sum.inl (s.1, (false, (w64 (s.2.2 + (1 : Int))))))) else
 (Sum.inr ((s.1, s.2.1))))
noncomputable def mapart_l2_16_pre (x : (I6 × (Int × (List I2)))) (s : (Int × (Bool × Int))) : Prop :=
 ((s.2.2 < (((List.length x.2.2) : Nat) : Int)) →
 ((((0 : Int) ≤ s.2.2) ∧ (s.2.2 < (((List.length x.2.2) : Nat) : Int))) ∧
 (((Int.toNat s.2.2) < (List.length x.2.2)) ∧
 (((Int.toNat s.2.2) < (List.length x.2.2)) ∧
 ((s.2.1 = true) →
 (mside_pre ((List.getD x.2.2 (Int.toNat s.2.2) ((0 : Int), (0 : Int))), (x.1.2.1, (x.1.2.2, s.1)))))))))
noncomputable def mapart_l2_16_t (x : (I6 × (Int × (List I2)))) (s : (Int × (Bool × Int))) : Tr ((Int × (Bool × Int)) ⊕ (Int × Bool)) true :=
 (.i10 (s.2.2 < (((List.length x.2.2) : Nat) : Int))
 (.oR s.2.2 (((List.length x.2.2) : Nat) : Int)
 (.od ((Int.toNat s.2.2) < (List.length x.2.2))
 (.od ((Int.toNat s.2.2) < (List.length x.2.2))
 (.b10 s.2.1
 (.fn mside_S ((List.getD x.2.2 (Int.toNat s.2.2) zz2), (x.1.2.1, (x.1.2.2, s.1))) fun y =>
 (.ret (.inl (s.1, ((decide (y < x.2.1)), (w64 (s.2.2 + (1 : Int))))))))
 (.ret (.inl (s.1, (false, (w64 (s.2.2 + (1 : Int)))))))))))
 (.ret (.inr ((s.1, s.2.1)))))
noncomputable def mapart_l2_19 (x : (I6 × (Int × (List I2)))) : LoopD := ⟨[.lo, .env, .env], ⟨pvs 30 0 [(4, .v (.one (.ptr 2 0))), (6, .v (.one (.ptr 4 0))), (7, .v (.one (.clo 143 0 [.loc 16 0, .loc 17 0, .loc 9 0]))), (8, .v (.one (.b))), (14, .v (.one (.full 0))), (15, .v (.one (.i .i64))), (16, .v (.one (.i .i64)))], [.row yy2 0, .cells [.i .i64, .i .i64, .i .i64, .i .i64, .i .i64, .i .i64] 24, .cells [.i .i64] 3, .cells [.full 0] 29, .cells [.b] 4, .gone, .cells [.i .i64, .i .i64, .i .i64, .i .i64, .i .i64, .i .i64] 24, .loop true, .pin 8, .cells [.i .i64] 3, .cells [.i .i64, .i .i64] 23, .cells [.i .i64, .i .i64] 23, .gone, .cells [.i .i64, .i .i64] 23, .cells [.i .i64, .i .i64] 23, .gone, .cells [.i .i64, .i .i64] 23, .cells [.i .i64, .i .i64] 23, .pin 18], 19, none, [18, 19, 33], [1, 3, 4, 5, 6, 7, 8, 9, 10, 11, 12, 13, 14, 15, 16, 17, 21, 22, 23, 24, 25, 26, 27, 28, 29, 30, 31, 32], [20, 0, 2], [.i, .b, .i], [.i (((List.length x.2.2) : Nat) : Int), .l yy2 x.2.2, .i x.1.1.1, .i x.1.1.2, .i x.1.2.1.1, .i x.1.2.1.2, .i x.1.2.2.1, .i x.1.2.2.2, .i x.2.1, .b false, .i x.1.1.1, .i x.1.1.2, .i x.1.2.1.1, .i x.1.2.1.2, .i x.1.2.2.1, .i x.1.2.2.2, .i x.1.1.1, .i x.1.1.2, .i x.1.2.1.1, .i x.1.2.1.2, .i x.1.2.1.1, .i x.1.2.1.2, .i x.1.2.2.1, .i x.1.2.2.2, .i x.1.2.2.1, .i x.1.2.2.2, .i x.1.1.1, .i x.1.1.2]⟩, [⟨(.exit 2), .normal, ⟨pvs 30 0 [(6, .v (.one (.ptr 4 0))), (8, .v (.one (.b)))], [.row yy2 0, .cells [.i .i64, .i .i64, .i .i64, .i .i64, .i .i64, .i .i64] 24, .cells [.i .i64] 3, .cells [.full 0] 29, .cells [.b] 4, .gone, .cells [.i .i64, .i .i64, .i .i64, .i .i64, .i .i64, .i .i64] 24, .loop true, .pin 8, .cells [.i .i64] 3, .cells [.i .i64, .i .i64] 23, .cells [.i .i64, .i .i64] 23, .gone, .cells [.i .i64, .i .i64] 23, .cells [.i .i64, .i .i64] 23, .gone, .cells [.i .i64, .i .i64] 23, .cells [.i .i64, .i .i64] 23, .pin 18], 19, none, [16, 17, 31], [1, 2, 3, 4, 5, 6, 7, 8, 9, 10, 11, 12, 13, 14, 15, 19, 20, 21, 22, 23, 24, 25, 26, 27, 28, 29, 30], [18, 0], [.i, .b], [.l yy2 x.2.2, .i x.1.1.1, .i x.1.1.2, .i x.1.2.1.1, .i x.1.2.1.2, .i x.1.2.2.1, .i x.1.2.2.2, .i x.2.1, .b false, .i x.1.1.1, .i x.1.1.2, .i x.1.2.1.1, .i x.1.2.1.2, .i x.1.2.2.1, .i x.1.2.2.2, .i x.1.1.1, .i x.1.1.2, .i x.1.2.1.1, .i x.1.2.1.2, .i x.1.2.1.1, .i x.1.2.1.2, .i x.1.2.2.1, .i x.1.2.2.2, .i x.1.2.2.1, .i x.1.2.2.2, .i x.1.1.1, .i x.1.1.2]⟩⟩]⟩
noncomputable def mapart_l2_19_step (x : (I6 × (Int × (List I2)))) (s : (Int × (Bool × Int))) : (Int × (Bool × Int)) ⊕ (Int × Bool) :=
 (if (s.2.2 < (((List.length x.2.2) : Nat) : Int)) then
 (if (s.2.1 = true) then
 (letV (mside ((List.getD x.2.2 (Int.toNat s.2.2) ((0 : Int), (0 : Int))), (x.1.2.2, (x.1.1, s.1)))) fun y =>
 (Sum.inl (s.1, ((decide (y < x.2.1)), (w64 (s.2.2 + (1 : Int))))))) else
 (Sum.inl (s.1, (false, (w64 (s.2.2 + (1 : Int))))))) else
 (Sum.inr ((s.1, s.2.1))))
noncomputable def mapart_l2_19_pre (x : (I6 × (Int × (List I2)))) (s : (Int × (Bool × Int))) : Prop :=
 ((s.2.2 < (((List.length x.2.2) : Nat) : Int)) →
 ((((0 : Int) ≤ s.2.2) ∧ (s.2.2 < (((List.length x.2.2) : Nat) : Int))) ∧
 (((Int.toNat s.2.2) < (List.length x.2.2)) ∧
 (((Int.toNat s.2.2) < (List.length x.2.2)) ∧
 ((s.2.1 = true) →
 (mside_pre ((List.getD x.2.2 (Int.toNat s.2.2) ((0 : Int), (0 : Int))), (x.1.2.2, (x.1.1, s.1)))))))))
noncomputable def mapart_l2_19_t (x : (I6 × (Int × (List I2)))) (s : (Int × (Bool × Int))) : Tr ((Int × (Bool × Int)) ⊕ (Int × Bool)) true :=
 (.i10 (s.2.2 < (((List.length x.2.2) : Nat) : Int))
 (.oR s.2.2 (((List.length x.2.2) : Nat) : Int)
 (.od ((Int.toNat s.2.2) < (List.length x.2.2))
 (.od ((Int.toNat s.2.2) < (List.length x.2.2))
 (.b10 s.2.1
 (.fn mside_S ((List.getD x.2.2 (Int.toNat s.2.2) zz2), (x.1.2.2, (x.1.1, s.1))) fun y =>
 (.ret (.inl (s.1, ((decide (y < x.2.1)), (w64 (s.2.2 + (1 : Int))))))))
 (.ret (.inl (s.1, (false, (w64 (s.2.2 + (1 : Int)))))))))))
 (.ret (.inr ((s.1, s.2.1)))))
noncomputable def mapart (x : (I6 × (Int × (List I2)))) : Bool :=
 (letV (sside x.1) fun y =>
 (letV (run (mapart_l2_13_step x) (y.1, (true, (0 : Int)))) fun r_1 =>
 (if (r_1.2 = true) then
 true else
 (letV (run (mapart_l2_16_step x) (r_1.1, (true, (0 : Int)))) fun r_2 =>
 (if (r_2.2 = true) then
 true else
 (letV (run (mapart_l2_19_step x) (r_2.1, (true, (0 : Int)))) fun r_3 =>
 (if (r_3.2 = true) then
 true else
 false)))))))
noncomputable def mapart_pre (x : (I6 × (Int × (List I2)))) : Prop :=
 ((sside_pre x.1) ∧
 letP (sside x.1) fun y =>
 (Term (mapart_l2_13_step x) (mapart_l2_13_pre x) (y.1, (true, (0 : Int))) ∧
 letP (run (mapart_l2_13_step x) (y.1, (true, (0 : Int)))) fun r_1 =>
 (¬ (r_1.2 = true) →
 (Term (mapart_l2_16_step x) (mapart_l2_16_pre x) (r_1.1, (true, (0 : Int))) ∧
 letP (run (mapart_l2_16_step x) (r_1.1, (true, (0 : Int)))) fun r_2 =>
 (¬ (r_2.2 = true) →
 (Term (mapart_l2_19_step x) (mapart_l2_19_pre x) (r_2.1, (true, (0 : Int)))))))))
noncomputable def mapart_t (x : (I6 × (Int × (List I2)))) : Tr Bool true :=
 (.allE
 (.pn 0 5
 (.allL
 (.allE
 (.fn sside_S x.1 fun y =>
 (.fx
 (.pn 2 8
 (.fL 1
 (.allE
 (.pn 3 12
 (.fL 1
 (LoopD.lp (mapart_l2_13 x) (mapart_l2_13_t x) (y.1, (true, (0 : Int))) fun r_1 =>
 (.b01 r_1.2
 (.fL 1
 (.pn 3 12
 (.pn 2 8
 (.ret true))))
 (.fL 1
 (.pn 3 12
 (.fx
 (.pn 2 8
 (.fL 1
 (.allE
 (.pn 4 15
 (.fL 1
 (LoopD.lp (mapart_l2_16 x) (mapart_l2_16_t x) (r_1.1, (true, (0 : Int))) fun r_2 =>
 (.b01 r_2.2
 (.fL 1
 (.pn 4 15
 (.pn 2 8
 (.ret true))))
 (.fL 1
 (.pn 4 15
 (.fx
 (.pn 2 8
 (.fL 1
 (.allE
 (.pn 5 18
 (.fL 1
 (LoopD.lp (mapart_l2_19 x) (mapart_l2_19_t x) (r_2.1, (true, (0 : Int))) fun r_3 =>
 (.b00 r_3.2
 (.fL 1
 (.pn 5 18
 (.pn 2 8
 (.ret true))))
 (.fL 1
 (.pn 5 18
 (.pn 2 8
 (.ret false)))))))))))))))))))))))))))))))))))))
noncomputable abbrev mapart_S : FnS := ⟨(.pair (.agg yy6) (.pair (.one yi) (.one (Ty.sl yy2)))), (.one Ty.bool), mapart_pre, mapart⟩
theorem mapart_ok : SpecOk Tryz.prog 141 (fnSpec mapart_S) := SpecOk.tr mapart_S mapart_t (fn := Tryz.f141) tt_ok sp_containsT_ok mixed (by kernel_rfl) mapart_i1.ok (fun x => (LpsOk.trA 2 LpsOk.nil (by kernel_rfl) (LSem.cons (n := 13) (LSem.tr tt_ok (SpecsOk.ctxI sp_containsT_ok mapart_i1.ok) mixed (mapart_l2_13 x) (mapart_l2_13_t x) (by kernel_rfl) fun g s Q => (by kernel_rfl)) (LSem.cons (n := 16) (LSem.tr tt_ok (SpecsOk.ctxI sp_containsT_ok mapart_i1.ok) mixed (mapart_l2_16 x) (mapart_l2_16_t x) (by kernel_rfl) fun g s Q => (by kernel_rfl)) (LSem.cons (n := 19) (LSem.tr tt_ok (SpecsOk.ctxI sp_containsT_ok mapart_i1.ok) mixed (mapart_l2_19 x) (mapart_l2_19_t x) (by kernel_rfl) fun g s Q => (by kernel_rfl)) LSem.nil))))) (fun x => (by kernel_rfl)) fun x Q => (by kernel_rfl)
def sp_mapart : List (Nat × Ev.Spec) := (141, fnSpec mapart_S) :: sp_containsT
theorem sp_mapart_ok : SpecsOk Tryz.prog sp_mapart := SpecsOk.add (fn := Tryz.f141) (by kernel_rfl) mapart_ok sp_containsT_ok
noncomputable def mboth (x : (I6 × (I6 × Int))) : (Bool × Int) :=
 (letV (mright x.1) fun y =>
 (if ((!y) = true) then
 (false, (1 : Int)) else
 (letV (mright x.2.1) fun y_1 =>
 (if ((!y_1) = true) then
 (false, (1 : Int)) else
 (letV (mapart (x.1, (x.2.2, [x.2.1.1, x.2.1.2.1, x.2.1.2.2]))) fun y_2 =>
 (if ((!y_2) = true) then
 (letV (mapart (x.2.1, (x.2.2, [x.1.1, x.1.2.1, x.1.2.2]))) fun y_3 =>
 ((!y_3), (0 : Int))) else
 (false, (0 : Int))))))))
noncomputable def mboth_pre (x : (I6 × (I6 × Int))) : Prop :=
 ((mright_pre x.1) ∧
 letP (mright x.1) fun y =>
 (¬ ((!y) = true) →
 ((mright_pre x.2.1) ∧
 letP (mright x.2.1) fun y_1 =>
 (¬ ((!y_1) = true) →
 ((mapart_pre (x.1, (x.2.2, [x.2.1.1, x.2.1.2.1, x.2.1.2.2]))) ∧
 letP (mapart (x.1, (x.2.2, [x.2.1.1, x.2.1.2.1, x.2.1.2.2]))) fun y_2 =>
 (((!y_2) = true) →
 (mapart_pre (x.2.1, (x.2.2, [x.1.1, x.1.2.1, x.1.2.2])))))))))
noncomputable def mboth_t (x : (I6 × (I6 × Int))) : Tr (Bool × Int) true :=
 (.fn mright_S x.1 fun y =>
 (.b01 (!y)
 (.ret (false, (1 : Int)))
 (.fn mright_S x.2.1 fun y_1 =>
 (.b01 (!y_1)
 (.ret (false, (1 : Int)))
 (.fn mapart_S (x.1, (x.2.2, [x.2.1.1, x.2.1.2.1, x.2.1.2.2])) fun y_2 =>
 (.b10 (!y_2)
 (.fn mapart_S (x.2.1, (x.2.2, [x.1.1, x.1.2.1, x.1.2.2])) fun y_3 =>
 (.ret ((!y_3), (0 : Int))))
 (.ret (false, (0 : Int)))))))))
noncomputable abbrev mboth_S : FnS := ⟨(.pair (.agg yy6) (.pair (.agg yy6) (.one yi))), (.pair (.one Ty.bool) (.one yi)), mboth_pre, mboth⟩
theorem mboth_ok : SpecOk Tryz.prog 187 (fnSpec mboth_S) := SpecOk.tr mboth_S mboth_t (fn := Tryz.f187) tt_ok sp_mapart_ok mixed (by kernel_rfl) (ItsOk.nil _ _) (fun x => LpsOk.nil) (fun x => (by kernel_rfl)) fun x Q => (by kernel_rfl)
def sp_mboth : List (Nat × Ev.Spec) := (187, fnSpec mboth_S) :: sp_mapart
theorem sp_mboth_ok : SpecsOk Tryz.prog sp_mboth := SpecsOk.add (fn := Tryz.f187) (by kernel_rfl) mboth_ok sp_mapart_ok
noncomputable def moverlap (x : (I6 × I6)) : (Bool × Int) :=
 (letV (mboth (x.1, (x.2, (1 : Int)))) fun y =>
 y)
noncomputable def moverlap_pre (x : (I6 × I6)) : Prop :=
 (mboth_pre (x.1, (x.2, (1 : Int))))
noncomputable def moverlap_t (x : (I6 × I6)) : Tr (Bool × Int) true :=
 (.fn mboth_S (x.1, (x.2, (1 : Int))) fun y =>
 (.ret y))
noncomputable abbrev moverlap_S : FnS := ⟨(.pair (.agg yy6) (.agg yy6)), (.pair (.one Ty.bool) (.one yi)), moverlap_pre, moverlap⟩
theorem moverlap_ok : SpecOk Tryz.prog 172 (fnSpec moverlap_S) := SpecOk.tr moverlap_S moverlap_t (fn := Tryz.f172) tt_ok sp_mboth_ok mixed (by kernel_rfl) (ItsOk.nil _ _) (fun x => LpsOk.nil) (fun x => (by kernel_rfl)) fun x Q => (by kernel_rfl)
def sp_moverlap : List (Nat × Ev.Spec) := (172, fnSpec moverlap_S) :: sp_mboth
theorem sp_moverlap_ok : SpecsOk Tryz.prog sp_moverlap := SpecsOk.add (fn := Tryz.f172) (by kernel_rfl) moverlap_ok sp_mboth_ok
noncomputable def fapart_l2 (x : (List I6)) : LoopD := ⟨[], ⟨pvs 37 0 [(0, .v (.one (.full 0))), (4, .v (.one (.ptr 1 0))), (9, .v (.one (.full 0))), (10, .v (.one (.i .i64))), (11, .v (.one (.i .i64))), (18, .v (.one (.full 2))), (19, .v (.one (.i .i64))), (20, .v (.one (.i .i64)))], [.row yy6 0, .cells [.i .i64, .i .i64, .i .i64, .i .i64, .i .i64, .i .i64] 24, .alias 0 true], 0, none, [], [0, 4, 11], [5, 6, 7, 8, 9, 10, 1, 12, 2, 3], [.i, .i, .i, .i, .i, .i, .i, .n, .i, .i], [.i (((List.length x) : Nat) : Int), .l yy6 x, .n 0]⟩, [⟨.ret, .ret, ⟨pvs 37 0 [(2, .v (.one (.b)))], [], 0, none, [], [0], [], [], [.b false]⟩⟩, ⟨(.exit 2), .normal, ⟨pvs 37 0 [(0, .v (.one (.full 0))), (9, .v (.one (.full 0))), (10, .v (.one (.i .i64))), (11, .v (.one (.i .i64)))], [.row yy6 0], 0, none, [], [0, 2], [1], [.i], [.i (((List.length x) : Nat) : Int), .l yy6 x]⟩⟩]⟩
noncomputable def fapart_l2_step (x : (List I6)) (s : (Int × (Int × (Int × (Int × (Int × (Int × (Int × (Nat × I2))))))))) : (Int × (Int × (Int × (Int × (Int × (Int × (Int × (Nat × I2)))))))) ⊕ (Unit ⊕ Int) :=
 (if (s.2.2.2.2.2.2.2.2.2 < s.2.2.2.2.2.2.2.2.1) then
 (letV (moverlap (((s.1, s.2.1), ((s.2.2.1, s.2.2.2.1), (s.2.2.2.2.1, s.2.2.2.2.2.1))), (List.getD x (0 + (Int.toNat s.2.2.2.2.2.2.2.2.2)) (((0 : Int), (0 : Int)), (((0 : Int), (0 : Int)), ((0 : Int), (0 : Int))))))) fun y =>
 (if (y.1 = true) then
 (Sum.inr (Sum.inl ())) else
 (if ((y.2 != (0 : Int)) = true) then
 (Sum.inr (Sum.inl ())) else
 (Sum.inl (s.1, (s.2.1, (s.2.2.1, (s.2.2.2.1, (s.2.2.2.2.1, (s.2.2.2.2.2.1, (s.2.2.2.2.2.2.1, (s.2.2.2.2.2.2.2.1, (s.2.2.2.2.2.2.2.2.1, (w64 (s.2.2.2.2.2.2.2.2.2 + (1 : Int)))))))))))))))) else
 (Sum.inr (Sum.inr (s.2.2.2.2.2.2.1))))
noncomputable def fapart_l2_pre (x : (List I6)) (s : (Int × (Int × (Int × (Int × (Int × (Int × (Int × (Nat × I2))))))))) : Prop :=
 ((s.2.2.2.2.2.2.2.2.2 < s.2.2.2.2.2.2.2.2.1) →
 ((((0 : Int) ≤ s.2.2.2.2.2.2.2.2.2) ∧ (s.2.2.2.2.2.2.2.2.2 < (((min s.2.2.2.2.2.2.2.1 ((List.length x) - 0)) : Nat) : Int))) ∧
 (((0 + (Int.toNat s.2.2.2.2.2.2.2.2.2)) < (List.length x)) ∧
 (((0 + (Int.toNat s.2.2.2.2.2.2.2.2.2)) < (List.length x)) ∧
 (moverlap_pre (((s.1, s.2.1), ((s.2.2.1, s.2.2.2.1), (s.2.2.2.2.1, s.2.2.2.2.2.1))), (List.getD x (0 + (Int.toNat s.2.2.2.2.2.2.2.2.2)) (((0 : Int), (0 : Int)), (((0 : Int), (0 : Int)), ((0 : Int), (0 : Int)))))))))))
noncomputable def fapart_l2_t (x : (List I6)) (s : (Int × (Int × (Int × (Int × (Int × (Int × (Int × (Nat × I2))))))))) : Tr ((Int × (Int × (Int × (Int × (Int × (Int × (Int × (Nat × I2)))))))) ⊕ (Unit ⊕ Int)) true :=
 (.i10 (s.2.2.2.2.2.2.2.2.2 < s.2.2.2.2.2.2.2.2.1)
 (.oR s.2.2.2.2.2.2.2.2.2 (((min s.2.2.2.2.2.2.2.1 ((List.length x) - 0)) : Nat) : Int)
 (.od ((0 + (Int.toNat s.2.2.2.2.2.2.2.2.2)) < (List.length x))
 (.od ((0 + (Int.toNat s.2.2.2.2.2.2.2.2.2)) < (List.length x))
 (.fn moverlap_S (((s.1, s.2.1), ((s.2.2.1, s.2.2.2.1), (s.2.2.2.2.1, s.2.2.2.2.2.1))), (List.getD x (0 + (Int.toNat s.2.2.2.2.2.2.2.2.2)) zz6)) fun y =>
 (.b00 y.1
 (.ret (.inr (Sum.inl ())))
 (.b00 (y.2 != (0 : Int))
 (.ret (.inr (Sum.inl ())))
 (.ret (.inl (s.1, (s.2.1, (s.2.2.1, (s.2.2.2.1, (s.2.2.2.2.1, (s.2.2.2.2.2.1, (s.2.2.2.2.2.2.1, (s.2.2.2.2.2.2.2.1, (s.2.2.2.2.2.2.2.2.1, (w64 (s.2.2.2.2.2.2.2.2.2 + (1 : Int))))))))))))))))))))
 (.ret (.inr (Sum.inr (s.2.2.2.2.2.2.1)))))
noncomputable def fapart_l0 (x : (List I6)) : LoopD := ⟨[], ⟨pvs 37 0 [(0, .v (.one (.full 0))), (9, .v (.one (.full 0))), (10, .v (.one (.i .i64))), (11, .v (.one (.i .i64)))], [.row yy6 0], 0, none, [], [0, 2], [1], [.i], [.i (((List.length x) : Nat) : Int), .l yy6 x]⟩, [⟨.ret, .ret, ⟨pvs 37 0 [(2, .v (.one (.b)))], [], 0, none, [], [0], [], [], [.b false]⟩⟩, ⟨(.exit 0), .normal, ⟨pvs 37 0 [], [], 0, none, [], [], [], [], []⟩⟩]⟩
noncomputable def fapart_l0_step (x : (List I6)) (s : Int) : Int ⊕ (Unit ⊕ Unit) :=
 (if (s < (((List.length x) : Nat) : Int)) then
 (letV (run (fapart_l2_step x) ((List.getD x (Int.toNat s) (((0 : Int), (0 : Int)), (((0 : Int), (0 : Int)), ((0 : Int), (0 : Int))))).1.1, ((List.getD x (Int.toNat s) (((0 : Int), (0 : Int)), (((0 : Int), (0 : Int)), ((0 : Int), (0 : Int))))).1.2, ((List.getD x (Int.toNat s) (((0 : Int), (0 : Int)), (((0 : Int), (0 : Int)), ((0 : Int), (0 : Int))))).2.1.1, ((List.getD x (Int.toNat s) (((0 : Int), (0 : Int)), (((0 : Int), (0 : Int)), ((0 : Int), (0 : Int))))).2.1.2, ((List.getD x (Int.toNat s) (((0 : Int), (0 : Int)), (((0 : Int), (0 : Int)), ((0 : Int), (0 : Int))))).2.2.1, ((List.getD x (Int.toNat s) (((0 : Int), (0 : Int)), (((0 : Int), (0 : Int)), ((0 : Int), (0 : Int))))).2.2.2, (s, ((Int.toNat s), ((((min (Int.toNat s) ((List.length x) - 0)) : Nat) : Int), (0 : Int))))))))))) fun r =>
 (Sum.elim (fun a =>
 (Sum.inr (Sum.inl ()))) (fun b =>
 (Sum.inl (w64 (b + (1 : Int))))) r)) else
 (Sum.inr (Sum.inr (()))))
noncomputable def fapart_l0_pre (x : (List I6)) (s : Int) : Prop :=
 ((s < (((List.length x) : Nat) : Int)) →
 ((((0 : Int) ≤ s) ∧ (s < (((List.length x) : Nat) : Int))) ∧
 (((Int.toNat s) < (List.length x)) ∧
 (((Int.toNat s) < (List.length x)) ∧
 ((((0 : Int) ≤ s) ∧ (s ≤ (((List.length x) : Nat) : Int))) ∧
 (Term (fapart_l2_step x) (fapart_l2_pre x) ((List.getD x (Int.toNat s) (((0 : Int), (0 : Int)), (((0 : Int), (0 : Int)), ((0 : Int), (0 : Int))))).1.1, ((List.getD x (Int.toNat s) (((0 : Int), (0 : Int)), (((0 : Int), (0 : Int)), ((0 : Int), (0 : Int))))).1.2, ((List.getD x (Int.toNat s) (((0 : Int), (0 : Int)), (((0 : Int), (0 : Int)), ((0 : Int), (0 : Int))))).2.1.1, ((List.getD x (Int.toNat s) (((0 : Int), (0 : Int)), (((0 : Int), (0 : Int)), ((0 : Int), (0 : Int))))).2.1.2, ((List.getD x (Int.toNat s) (((0 : Int), (0 : Int)), (((0 : Int), (0 : Int)), ((0 : Int), (0 : Int))))).2.2.1, ((List.getD x (Int.toNat s) (((0 : Int), (0 : Int)), (((0 : Int), (0 : Int)), ((0 : Int), (0 : Int))))).2.2.2, (s, ((Int.toNat s), ((((min (Int.toNat s) ((List.length x) - 0)) : Nat) : Int), (0 : Int))))))))))))))))
noncomputable def fapart_l0_t (x : (List I6)) (s : Int) : Tr (Int ⊕ (Unit ⊕ Unit)) true :=
 (.i10 (s < (((List.length x) : Nat) : Int))
 (.oR s (((List.length x) : Nat) : Int)
 (.od ((Int.toNat s) < (List.length x))
 (.od ((Int.toNat s) < (List.length x))
 (.og ((decide ((0 : Int) ≤ s)) && (decide (s ≤ (((List.length x) : Nat) : Int)))) (((0 : Int) ≤ s) ∧ (s ≤ (((List.length x) : Nat) : Int))) (fun h => (and_t (decide_eq_true h.1) (decide_eq_true h.2)))
 (LoopD.lp (fapart_l2 x) (fapart_l2_t x) ((List.getD x (Int.toNat s) zz6).1.1, ((List.getD x (Int.toNat s) zz6).1.2, ((List.getD x (Int.toNat s) zz6).2.1.1, ((List.getD x (Int.toNat s) zz6).2.1.2, ((List.getD x (Int.toNat s) zz6).2.2.1, ((List.getD x (Int.toNat s) zz6).2.2.2, (s, ((Int.toNat s), ((((min (Int.toNat s) ((List.length x) - 0)) : Nat) : Int), (0 : Int)))))))))) fun r =>
 (.s00 r (fun a =>
 (.ret (.inr (Sum.inl ())))) (fun b =>
 (.ret (.inl (w64 (b + (1 : Int))))))))))))
 (.ret (.inr (Sum.inr (())))))
noncomputable def fapart (x : (List I6)) : Bool :=
 (letV (run (fapart_l0_step x) (0 : Int)) fun r =>
 (Sum.elim (fun a =>
 false) (fun b =>
 true) r))
noncomputable def fapart_pre (x : (List I6)) : Prop :=
 (Term (fapart_l0_step x) (fapart_l0_pre x) (0 : Int))
noncomputable def fapart_t (x : (List I6)) : Tr Bool true :=
 (LoopD.lp (fapart_l0 x) (fapart_l0_t x) (0 : Int) fun r =>
 (.s00 r (fun a =>
 (.ret false)) (fun b =>
 (.ret true))))
noncomputable abbrev fapart_S : FnS := ⟨(.one (Ty.sl yy6)), (.one Ty.bool), fapart_pre, fapart⟩
theorem fapart_ok : SpecOk Tryz.prog 136 (fnSpec fapart_S) := SpecOk.tr fapart_S fapart_t (fn := Tryz.f136) tt_ok sp_moverlap_ok mixed (by kernel_rfl) (ItsOk.nil _ _) (fun x => (LpsOk.tr tt_ok (SpecsOk.ctxI sp_moverlap_ok (ItsOk.nil _ _)) mixed 0 (fapart_l0 x) (fapart_l0_t x) (LpsOk.tr tt_ok (SpecsOk.ctxI sp_moverlap_ok (ItsOk.nil _ _)) mixed 2 (fapart_l2 x) (fapart_l2_t x) LpsOk.nil (by kernel_rfl) fun g s Q => (by kernel_rfl)) (by kernel_rfl) fun g s Q => (by kernel_rfl))) (fun x => (by kernel_rfl)) fun x Q => (by kernel_rfl)
def sp_fapart : List (Nat × Ev.Spec) := (136, fnSpec fapart_S) :: sp_moverlap
theorem sp_fapart_ok : SpecsOk Tryz.prog sp_fapart := SpecsOk.add (fn := Tryz.f136) (by kernel_rfl) fapart_ok sp_moverlap_ok
noncomputable def msquare (x : (I2 × (Int × I6))) : (Bool × Int) :=
 (if (x.2.1 < (1 : Int)) then
 (false, (5 : Int)) else
 (if (x.2.1 > (4096 : Int)) then
 (false, (5 : Int)) else
 (letV (small2 [x.1]) fun y =>
 (if ((!y) = true) then
 (false, (5 : Int)) else
 (letV (small2 [((w64 (x.1.1 + x.2.1)), (w64 (x.1.2 + x.2.1)))]) fun y_1 =>
 (if ((!y_1) = true) then
 (false, (5 : Int)) else
 (letV (mright x.2.2) fun y_2 =>
 (if ((!y_2) = true) then
 (false, (1 : Int)) else
 (if ((minI (minI x.2.2.1.1 x.2.2.2.1.1) x.2.2.2.2.1) ≤ (w64 (x.1.1 + x.2.1))) then
 (if ((maxI (maxI x.2.2.1.1 x.2.2.2.1.1) x.2.2.2.2.1) ≥ x.1.1) then
 (if ((minI (minI x.2.2.1.2 x.2.2.2.1.2) x.2.2.2.2.2) ≤ (w64 (x.1.2 + x.2.1))) then
 (if ((maxI (maxI x.2.2.1.2 x.2.2.2.1.2) x.2.2.2.2.2) ≥ x.1.2) then
 (letV (mapart (x.2.2, ((0 : Int), [x.1, ((w64 (x.1.1 + x.2.1)), x.1.2), ((w64 (x.1.1 + x.2.1)), (w64 (x.1.2 + x.2.1))), (x.1.1, (w64 (x.1.2 + x.2.1)))]))) fun y_3 =>
 ((!y_3), (0 : Int))) else
 (false, (0 : Int))) else
 (false, (0 : Int))) else
 (if ((minI (minI x.2.2.1.2 x.2.2.2.1.2) x.2.2.2.2.2) ≤ (w64 (x.1.2 + x.2.1))) then
 (false, (0 : Int)) else
 (false, (0 : Int)))) else
 (if ((maxI (maxI x.2.2.1.1 x.2.2.2.1.1) x.2.2.2.2.1) ≥ x.1.1) then
 (false, (0 : Int)) else
 (false, (0 : Int))))))))))))
noncomputable def msquare_pre (x : (I2 × (Int × I6))) : Prop :=
 (¬ (x.2.1 < (1 : Int)) →
 (¬ (x.2.1 > (4096 : Int)) →
 ((small2_pre [x.1]) ∧
 letP (small2 [x.1]) fun y =>
 (¬ ((!y) = true) →
 ((small2_pre [((w64 (x.1.1 + x.2.1)), (w64 (x.1.2 + x.2.1)))]) ∧
 letP (small2 [((w64 (x.1.1 + x.2.1)), (w64 (x.1.2 + x.2.1)))]) fun y_1 =>
 (¬ ((!y_1) = true) →
 ((mright_pre x.2.2) ∧
 letP (mright x.2.2) fun y_2 =>
 (¬ ((!y_2) = true) →
 (((minI (minI x.2.2.1.1 x.2.2.2.1.1) x.2.2.2.2.1) ≤ (w64 (x.1.1 + x.2.1))) →
 (((maxI (maxI x.2.2.1.1 x.2.2.2.1.1) x.2.2.2.2.1) ≥ x.1.1) →
 (((minI (minI x.2.2.1.2 x.2.2.2.1.2) x.2.2.2.2.2) ≤ (w64 (x.1.2 + x.2.1))) →
 (((maxI (maxI x.2.2.1.2 x.2.2.2.1.2) x.2.2.2.2.2) ≥ x.1.2) →
 (mapart_pre (x.2.2, ((0 : Int), [x.1, ((w64 (x.1.1 + x.2.1)), x.1.2), ((w64 (x.1.1 + x.2.1)), (w64 (x.1.2 + x.2.1))), (x.1.1, (w64 (x.1.2 + x.2.1)))])))))))))))))))
noncomputable def msquare_t (x : (I2 × (Int × I6))) : Tr (Bool × Int) true :=
 (.i01 (x.2.1 < (1 : Int))
 (.ret (false, (5 : Int)))
 (.i01 (x.2.1 > (4096 : Int))
 (.ret (false, (5 : Int)))
 (.fn small2_S [x.1] fun y =>
 (.b01 (!y)
 (.ret (false, (5 : Int)))
 (.fn small2_S [((w64 (x.1.1 + x.2.1)), (w64 (x.1.2 + x.2.1)))] fun y_1 =>
 (.b01 (!y_1)
 (.ret (false, (5 : Int)))
 (.fn mright_S x.2.2 fun y_2 =>
 (.b01 (!y_2)
 (.ret (false, (1 : Int)))
 (.i10 ((minI (minI x.2.2.1.1 x.2.2.2.1.1) x.2.2.2.2.1) ≤ (w64 (x.1.1 + x.2.1)))
 (.i10 ((maxI (maxI x.2.2.1.1 x.2.2.2.1.1) x.2.2.2.2.1) ≥ x.1.1)
 (.i10 ((minI (minI x.2.2.1.2 x.2.2.2.1.2) x.2.2.2.2.2) ≤ (w64 (x.1.2 + x.2.1)))
 (.i10 ((maxI (maxI x.2.2.1.2 x.2.2.2.1.2) x.2.2.2.2.2) ≥ x.1.2)
 (.fn mapart_S (x.2.2, ((0 : Int), [x.1, ((w64 (x.1.1 + x.2.1)), x.1.2), ((w64 (x.1.1 + x.2.1)), (w64 (x.1.2 + x.2.1))), (x.1.1, (w64 (x.1.2 + x.2.1)))])) fun y_3 =>
 (.ret ((!y_3), (0 : Int))))
 (.ret (false, (0 : Int))))
 (.ret (false, (0 : Int))))
 (.i00 ((minI (minI x.2.2.1.2 x.2.2.2.1.2) x.2.2.2.2.2) ≤ (w64 (x.1.2 + x.2.1)))
 (.ret (false, (0 : Int)))
 (.ret (false, (0 : Int)))))
 (.i00 ((maxI (maxI x.2.2.1.1 x.2.2.2.1.1) x.2.2.2.2.1) ≥ x.1.1)
 (.ret (false, (0 : Int)))
 (.ret (false, (0 : Int)))))))))))))
noncomputable abbrev msquare_S : FnS := ⟨(.pair (.agg yy2) (.pair (.one yi) (.agg yy6))), (.pair (.one Ty.bool) (.one yi)), msquare_pre, msquare⟩
theorem msquare_ok : SpecOk Tryz.prog 97 (fnSpec msquare_S) := SpecOk.tr msquare_S msquare_t (fn := Tryz.f97) tt_ok sp_fapart_ok mixed (by kernel_rfl) (ItsOk.nil _ _) (fun x => LpsOk.nil) (fun x => (by kernel_rfl)) fun x Q => (by kernel_rfl)
def sp_msquare : List (Nat × Ev.Spec) := (97, fnSpec msquare_S) :: sp_fapart
theorem sp_msquare_ok : SpecsOk Tryz.prog sp_msquare := SpecsOk.add (fn := Tryz.f97) (by kernel_rfl) msquare_ok sp_fapart_ok
end Go.Proofs.YtfgdjlhilladhaaGreat
