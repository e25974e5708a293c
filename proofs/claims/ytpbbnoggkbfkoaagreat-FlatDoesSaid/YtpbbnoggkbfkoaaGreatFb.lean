/- Models of functions of layers 10, 15, 16. -/
import Derived.Test.YtpbbnoggkbfkoaaGreatFa
namespace Go.Proofs.YtpbbnoggkbfkoaaGreat
open Go Go.Ev Go.Proofs
set_option linter.unusedVariables false
noncomputable def indexV3_l0 (x : ((List I3) × Bool)) : LoopD := ⟨[], ⟨pvs 19 0 [(0, .v (.one (.full 0))), (1, .v (.one (.clo 77 0 []))), (7, .v (.one (.i .i64))), (8, .v (.one (.i .i64)))], [.row yy3 0], 0, none, [], [0, 2], [1], [.i], [.i (((List.length x.1) : Nat) : Int), .l yy3 x.1]⟩, [⟨.ret, .ret, ⟨pvs 19 0 [(4, .v (.one (.i .i64)))], [], 0, none, [], [], [0], [.i], []⟩⟩, ⟨(.exit 0), .normal, ⟨pvs 19 0 [], [], 0, none, [], [], [], [], []⟩⟩]⟩
noncomputable def indexV3_l0_step (x : ((List I3) × Bool)) (s : Int) : Int ⊕ (Int ⊕ Unit) :=
 (if (s < (((List.length x.1) : Nat) : Int)) then
 (letV (far (List.getD x.1 (Int.toNat s) ((0 : Int), ((0 : Int), (0 : Int))))) fun y =>
 (if (y = true) then
 (Sum.inr (Sum.inl s)) else
 (Sum.inl (w64 (s + (1 : Int)))))) else
 (Sum.inr (Sum.inr (()))))
noncomputable def indexV3_l0_pre (x : ((List I3) × Bool)) (s : Int) : Prop :=
 ((s < (((List.length x.1) : Nat) : Int)) →
 ((((0 : Int) ≤ s) ∧ (s < (((List.length x.1) : Nat) : Int))) ∧
 (((Int.toNat s) < (List.length x.1)) ∧
 ((Int.toNat s) < (List.length x.1)))))
noncomputable def indexV3_l0_t (x : ((List I3) × Bool)) (s : Int) : Tr (Int ⊕ (Int ⊕ Unit)) true :=
 (.i10 (s < (((List.length x.1) : Nat) : Int))
 (.oR s (((List.length x.1) : Nat) : Int)
 (.od ((Int.toNat s) < (List.length x.1))
 (.od ((Int.toNat s) < (List.length x.1))
 (.fn0 far_S (List.getD x.1 (Int.toNat s) zz3) trivial fun y =>
 (.b00 y
 (.ret (.inr (Sum.inl s)))
 (.ret (.inl (w64 (s + (1 : Int))))))))))
 (.ret (.inr (Sum.inr (())))))
noncomputable def indexV3 (x : ((List I3) × Bool)) : Int :=
 (letV (run (indexV3_l0_step x) (0 : Int)) fun r =>
 (Sum.elim (fun a =>
 a) (fun b =>
 (-1 : Int)) r))
noncomputable def indexV3_pre (x : ((List I3) × Bool)) : Prop :=
 (Term (indexV3_l0_step x) (indexV3_l0_pre x) (0 : Int))
noncomputable def indexV3_t (x : ((List I3) × Bool)) : Tr Int true :=
 (LoopD.lp (indexV3_l0 x) (indexV3_l0_t x) (0 : Int) fun r =>
 (.s00 r (fun a =>
 (.ret a)) (fun b =>
 (.ret (-1 : Int)))))
noncomputable abbrev indexV3_S : FnS := ⟨(.pair (.one (Ty.sl yy3)) (.clo 77 .none)), (.one yi), indexV3_pre, indexV3⟩
theorem indexV3_ok : SpecOk Tryz.prog 96 (fnSpec indexV3_S) := SpecOk.tr indexV3_S indexV3_t (fn := Tryz.f96) tt_ok sp_fsizes_ok mixed (by kernel_rfl) (ItsOk.nil _ _) (fun x => (LpsOk.tr tt_ok (SpecsOk.ctxI sp_fsizes_ok (ItsOk.nil _ _)) mixed 0 (indexV3_l0 x) (indexV3_l0_t x) LpsOk.nil (by kernel_rfl) fun g s Q => (by kernel_rfl))) (fun x => (by kernel_rfl)) fun x Q => (by kernel_rfl)
def sp_indexV3 : List (Nat × Ev.Spec) := (96, fnSpec indexV3_S) :: sp_fsizes
theorem sp_indexV3_ok : SpecsOk Tryz.prog sp_indexV3 := SpecsOk.add (fn := Tryz.f96) (by kernel_rfl) indexV3_ok sp_fsizes_ok
noncomputable def containsV3 (x : ((List I3) × Bool)) : Bool :=
 (letV (indexV3 (x.1, false)) fun y =>
 (decide (y ≥ (0 : Int))))
noncomputable def containsV3_pre (x : ((List I3) × Bool)) : Prop :=
 (indexV3_pre (x.1, false))
noncomputable def containsV3_t (x : ((List I3) × Bool)) : Tr Bool true :=
 (.fn indexV3_S (x.1, false) fun y =>
 (.ret (decide (y ≥ (0 : Int)))))
noncomputable abbrev containsV3_S : FnS := ⟨(.pair (.one (Ty.sl yy3)) (.clo 77 .none)), (.one Ty.bool), containsV3_pre, containsV3⟩
theorem containsV3_ok : SpecOk Tryz.prog 76 (fnSpec containsV3_S) := SpecOk.tr containsV3_S containsV3_t (fn := Tryz.f76) tt_ok sp_indexV3_ok mixed (by kernel_rfl) (ItsOk.nil _ _) (fun x => LpsOk.nil) (fun x => (by kernel_rfl)) fun x Q => (by kernel_rfl)
def sp_containsV3 : List (Nat × Ev.Spec) := (76, fnSpec containsV3_S) :: sp_indexV3
theorem sp_containsV3_ok : SpecsOk Tryz.prog sp_containsV3 := SpecsOk.add (fn := Tryz.f76) (by kernel_rfl) containsV3_ok sp_indexV3_ok
noncomputable def tame (x : ((List I3) × ((List I2) × ((List I3) × (List I9))))) : Bool :=
 (letV (meshis x) fun y =>
 (if (y = true) then
 (letV (containsV3 (x.1, false)) fun y_1 =>
 (!y_1)) else
 false))
noncomputable def tame_pre (x : ((List I3) × ((List I2) × ((List I3) × (List I9))))) : Prop :=
 ((meshis_pre x) ∧
 letP (meshis x) fun y =>
 ((y = true) →
 (containsV3_pre (x.1, false))))
noncomputable def tame_t (x : ((List I3) × ((List I2) × ((List I3) × (List I9))))) : Tr Bool true :=
 (.fn meshis_S x fun y =>
 (.b10 y
 (.fn containsV3_S (x.1, false) fun y_1 =>
 (.ret (!y_1)))
 (.ret false)))
noncomputable abbrev tame_S : FnS := ⟨(.agg (Ty.prod (Ty.sl yy3) (Ty.prod (Ty.sl yy2) (Ty.prod (Ty.sl yy3) (Ty.sl yy9))))), (.one Ty.bool), tame_pre, tame⟩
theorem tame_ok : SpecOk Tryz.prog 60 (fnSpec tame_S) := SpecOk.tr tame_S tame_t (fn := Tryz.f60) tt_ok sp_containsV3_ok mixed (by kernel_rfl) (ItsOk.nil _ _) (fun x => LpsOk.nil) (fun x => (by kernel_rfl)) fun x Q => (by kernel_rfl)
def sp_tame : List (Nat × Ev.Spec) := (60, fnSpec tame_S) :: sp_containsV3
theorem sp_tame_ok : SpecsOk Tryz.prog sp_tame := SpecsOk.add (fn := Tryz.f60) (by kernel_rfl) tame_ok sp_containsV3_ok
noncomputable def bhas (x : (((List I3) × ((List I2) × ((List I3) × (List I9)))) × Int)) : Bool :=
 (if (x.2 ≥ (0 : Int)) then
 (decide (x.2 < (((List.length x.1.2.2.2) : Nat) : Int))) else
 false)
noncomputable def bhas_pre (_ : (((List I3) × ((List I2) × ((List I3) × (List I9)))) × Int)) : Prop := True
noncomputable def bhas_t (x : (((List I3) × ((List I2) × ((List I3) × (List I9)))) × Int)) : Tr Bool false :=
 (.i00 (x.2 ≥ (0 : Int))
 (.ret (decide (x.2 < (((List.length x.1.2.2.2) : Nat) : Int))))
 (.ret false))
noncomputable abbrev bhas_S : FnS := ⟨(.pair (.ptr (Ty.prod (Ty.sl yy3) (Ty.prod (Ty.sl yy2) (Ty.prod (Ty.sl yy3) (Ty.sl yy9))))) (.one yi)), (.one Ty.bool), bhas_pre, bhas⟩
theorem bhas_ok : SpecOk Tryz.prog 44 (fnSpec bhas_S) := SpecOk.tr bhas_S bhas_t (fn := Tryz.f44) tt_ok sp_tame_ok mixed (by kernel_rfl) (ItsOk.nil _ _) (fun x => LpsOk.nil) (fun x => (by kernel_rfl)) fun x Q => (by kernel_rfl)
def sp_bhas : List (Nat × Ev.Spec) := (44, fnSpec bhas_S) :: sp_tame
theorem sp_bhas_ok : SpecsOk Tryz.prog sp_bhas := SpecsOk.add (fn := Tryz.f44) (by kernel_rfl) bhas_ok sp_tame_ok
noncomputable def bpoints (x : (((List I3) × ((List I2) × ((List I3) × (List I9)))) × Int)) : I9 :=
 ((List.getD x.1.1 (Int.toNat (List.getD x.1.2.2.2 (Int.toNat x.2) (((0 : Int), ((0 : Int), (0 : Int))), (((0 : Int), ((0 : Int), (0 : Int))), ((0 : Int), ((0 : Int), (0 : Int)))))).1.1) ((0 : Int), ((0 : Int), (0 : Int)))), ((List.getD x.1.1 (Int.toNat (List.getD x.1.2.2.2 (Int.toNat x.2) (((0 : Int), ((0 : Int), (0 : Int))), (((0 : Int), ((0 : Int), (0 : Int))), ((0 : Int), ((0 : Int), (0 : Int)))))).2.1.1) ((0 : Int), ((0 : Int), (0 : Int)))), (List.getD x.1.1 (Int.toNat (List.getD x.1.2.2.2 (Int.toNat x.2) (((0 : Int), ((0 : Int), (0 : Int))), (((0 : Int), ((0 : Int), (0 : Int))), ((0 : Int), ((0 : Int), (0 : Int)))))).2.2.1) ((0 : Int), ((0 : Int), (0 : Int))))))
noncomputable def bpoints_pre (x : (((List I3) × ((List I2) × ((List I3) × (List I9)))) × Int)) : Prop :=
 ((((0 : Int) ≤ x.2) ∧ (x.2 < (((List.length x.1.2.2.2) : Nat) : Int))) ∧
 (((Int.toNat x.2) < (List.length x.1.2.2.2)) ∧
 (((Int.toNat x.2) < (List.length x.1.2.2.2)) ∧
 ((((0 : Int) ≤ (List.getD x.1.2.2.2 (Int.toNat x.2) (((0 : Int), ((0 : Int), (0 : Int))), (((0 : Int), ((0 : Int), (0 : Int))), ((0 : Int), ((0 : Int), (0 : Int)))))).1.1) ∧ ((List.getD x.1.2.2.2 (Int.toNat x.2) (((0 : Int), ((0 : Int), (0 : Int))), (((0 : Int), ((0 : Int), (0 : Int))), ((0 : Int), ((0 : Int), (0 : Int)))))).1.1 < (((List.length x.1.1) : Nat) : Int))) ∧
 (((Int.toNat (List.getD x.1.2.2.2 (Int.toNat x.2) (((0 : Int), ((0 : Int), (0 : Int))), (((0 : Int), ((0 : Int), (0 : Int))), ((0 : Int), ((0 : Int), (0 : Int)))))).1.1) < (List.length x.1.1)) ∧
 (((Int.toNat (List.getD x.1.2.2.2 (Int.toNat x.2) (((0 : Int), ((0 : Int), (0 : Int))), (((0 : Int), ((0 : Int), (0 : Int))), ((0 : Int), ((0 : Int), (0 : Int)))))).1.1) < (List.length x.1.1)) ∧
 ((((0 : Int) ≤ (List.getD x.1.2.2.2 (Int.toNat x.2) (((0 : Int), ((0 : Int), (0 : Int))), (((0 : Int), ((0 : Int), (0 : Int))), ((0 : Int), ((0 : Int), (0 : Int)))))).2.1.1) ∧ ((List.getD x.1.2.2.2 (Int.toNat x.2) (((0 : Int), ((0 : Int), (0 : Int))), (((0 : Int), ((0 : Int), (0 : Int))), ((0 : Int), ((0 : Int), (0 : Int)))))).2.1.1 < (((List.length x.1.1) : Nat) : Int))) ∧
 (((Int.toNat (List.getD x.1.2.2.2 (Int.toNat x.2) (((0 : Int), ((0 : Int), (0 : Int))), (((0 : Int), ((0 : Int), (0 : Int))), ((0 : Int), ((0 : Int), (0 : Int)))))).2.1.1) < (List.length x.1.1)) ∧
 (((Int.toNat (List.getD x.1.2.2.2 (Int.toNat x.2) (((0 : Int), ((0 : Int), (0 : Int))), (((0 : Int), ((0 : Int), (0 : Int))), ((0 : Int), ((0 : Int), (0 : Int)))))).2.1.1) < (List.length x.1.1)) ∧
 ((((0 : Int) ≤ (List.getD x.1.2.2.2 (Int.toNat x.2) (((0 : Int), ((0 : Int), (0 : Int))), (((0 : Int), ((0 : Int), (0 : Int))), ((0 : Int), ((0 : Int), (0 : Int)))))).2.2.1) ∧ ((List.getD x.1.2.2.2 (Int.toNat x.2) (((0 : Int), ((0 : Int), (0 : Int))), (((0 : Int), ((0 : Int), (0 : Int))), ((0 : Int), ((0 : Int), (0 : Int)))))).2.2.1 < (((List.length x.1.1) : Nat) : Int))) ∧
 (((Int.toNat (List.getD x.1.2.2.2 (Int.toNat x.2) (((0 : Int), ((0 : Int), (0 : Int))), (((0 : Int), ((0 : Int), (0 : Int))), ((0 : Int), ((0 : Int), (0 : Int)))))).2.2.1) < (List.length x.1.1)) ∧
 ((Int.toNat (List.getD x.1.2.2.2 (Int.toNat x.2) (((0 : Int), ((0 : Int), (0 : Int))), (((0 : Int), ((0 : Int), (0 : Int))), ((0 : Int), ((0 : Int), (0 : Int)))))).2.2.1) < (List.length x.1.1)))))))))))))
noncomputable def bpoints_t (x : (((List I3) × ((List I2) × ((List I3) × (List I9)))) × Int)) : Tr I9 true :=
 (.oR x.2 (((List.length x.1.2.2.2) : Nat) : Int)
 (.od ((Int.toNat x.2) < (List.length x.1.2.2.2))
 (.od ((Int.toNat x.2) < (List.length x.1.2.2.2))
 (.oR (List.getD x.1.2.2.2 (Int.toNat x.2) zz9).1.1 (((List.length x.1.1) : Nat) : Int)
 (.od ((Int.toNat (List.getD x.1.2.2.2 (Int.toNat x.2) zz9).1.1) < (List.length x.1.1))
 (.od ((Int.toNat (List.getD x.1.2.2.2 (Int.toNat x.2) zz9).1.1) < (List.length x.1.1))
 (.oR (List.getD x.1.2.2.2 (Int.toNat x.2) zz9).2.1.1 (((List.length x.1.1) : Nat) : Int)
 (.od ((Int.toNat (List.getD x.1.2.2.2 (Int.toNat x.2) zz9).2.1.1) < (List.length x.1.1))
 (.od ((Int.toNat (List.getD x.1.2.2.2 (Int.toNat x.2) zz9).2.1.1) < (List.length x.1.1))
 (.oR (List.getD x.1.2.2.2 (Int.toNat x.2) zz9).2.2.1 (((List.length x.1.1) : Nat) : Int)
 (.od ((Int.toNat (List.getD x.1.2.2.2 (Int.toNat x.2) zz9).2.2.1) < (List.length x.1.1))
 (.od ((Int.toNat (List.getD x.1.2.2.2 (Int.toNat x.2) zz9).2.2.1) < (List.length x.1.1))
 (.ret ((List.getD x.1.1 (Int.toNat (List.getD x.1.2.2.2 (Int.toNat x.2) zz9).1.1) zz3), ((List.getD x.1.1 (Int.toNat (List.getD x.1.2.2.2 (Int.toNat x.2) zz9).2.1.1) zz3), (List.getD x.1.1 (Int.toNat (List.getD x.1.2.2.2 (Int.toNat x.2) zz9).2.2.1) zz3))))))))))))))))
noncomputable abbrev bpoints_S : FnS := ⟨(.pair (.ptr (Ty.prod (Ty.sl yy3) (Ty.prod (Ty.sl yy2) (Ty.prod (Ty.sl yy3) (Ty.sl yy9))))) (.one yi)), (.agg yy9), bpoints_pre, bpoints⟩
theorem bpoints_ok : SpecOk Tryz.prog 61 (fnSpec bpoints_S) := SpecOk.tr bpoints_S bpoints_t (fn := Tryz.f61) tt_ok sp_bhas_ok mixed (by kernel_rfl) (ItsOk.nil _ _) (fun x => (LpsOk.unrollT tt_ok (SpecsOk.ctxI sp_bhas_ok (ItsOk.nil _ _)) mixed 0 4 LpsOk.nil (by kernel_rfl))) (fun x => (by kernel_rfl)) fun x Q => (by kernel_rfl)
def sp_bpoints : List (Nat × Ev.Spec) := (61, fnSpec bpoints_S) :: sp_bhas
theorem sp_bpoints_ok : SpecsOk Tryz.prog sp_bpoints := SpecsOk.add (fn := Tryz.f61) (by kernel_rfl) bpoints_ok sp_bhas_ok
noncomputable def bway (x : (((List I3) × ((List I2) × ((List I3) × (List I9)))) × Int)) : (I2 × Bool) :=
 (letV (bhas x) fun y =>
 (if ((!y) = true) then
 (((0 : Int), (0 : Int)), false) else
 (letV (bpoints x) fun y_1 =>
 (letV (sfacing y_1) fun y_2 =>
 ((y_2.1, y_2.2.1), (y_2.2.2 == (0 : Int)))))))
noncomputable def bway_pre (x : (((List I3) × ((List I2) × ((List I3) × (List I9)))) × Int)) : Prop :=
 (letP (bhas x) fun y =>
 (¬ ((!y) = true) →
 ((bpoints_pre x) ∧
 letP (bpoints x) fun y_1 =>
 (sfacing_pre y_1))))
noncomputable def bway_t (x : (((List I3) × ((List I2) × ((List I3) × (List I9)))) × Int)) : Tr (I2 × Bool) true :=
 (.fn0 bhas_S x trivial fun y =>
 (.b01 (!y)
 (.ret (zz2, false))
 (.fn bpoints_S x fun y_1 =>
 (.fn sfacing_S y_1 fun y_2 =>
 (.ret ((y_2.1, y_2.2.1), (y_2.2.2 == (0 : Int))))))))
noncomputable abbrev bway_S : FnS := ⟨(.pair (.ptr (Ty.prod (Ty.sl yy3) (Ty.prod (Ty.sl yy2) (Ty.prod (Ty.sl yy3) (Ty.sl yy9))))) (.one yi)), (.pair (.agg yy2) (.one Ty.bool)), bway_pre, bway⟩
theorem bway_ok : SpecOk Tryz.prog 43 (fnSpec bway_S) := SpecOk.tr bway_S bway_t (fn := Tryz.f43) tt_ok sp_bpoints_ok mixed (by kernel_rfl) (ItsOk.nil _ _) (fun x => LpsOk.nil) (fun x => (by kernel_rfl)) fun x Q => (by kernel_rfl)
def sp_bway : List (Nat × Ev.Spec) := (43, fnSpec bway_S) :: sp_bpoints
theorem sp_bway_ok : SpecsOk Tryz.prog sp_bway := SpecsOk.add (fn := Tryz.f43) (by kernel_rfl) bway_ok sp_bpoints_ok
noncomputable def bshadow (x : (((List I3) × ((List I2) × ((List I3) × (List I9)))) × I2)) : I6 :=
 (letV (bpoints (x.1, x.2.1)) fun y =>
 (letV (vdrop (y.1, x.2.2)) fun y_1 =>
 (letV (vdrop (y.2.1, x.2.2)) fun y_2 =>
 (letV (vdrop (y.2.2, x.2.2)) fun y_3 =>
 (y_1.1, (y_2.1, y_3.1))))))
noncomputable def bshadow_pre (x : (((List I3) × ((List I2) × ((List I3) × (List I9)))) × I2)) : Prop :=
 ((bpoints_pre (x.1, x.2.1)) ∧
 letP (bpoints (x.1, x.2.1)) fun y =>
 ((vdrop_pre (y.1, x.2.2)) ∧
 letP (vdrop (y.1, x.2.2)) fun y_1 =>
 ((vdrop_pre (y.2.1, x.2.2)) ∧
 letP (vdrop (y.2.1, x.2.2)) fun y_2 =>
 (vdrop_pre (y.2.2, x.2.2)))))
noncomputable def bshadow_t (x : (((List I3) × ((List I2) × ((List I3) × (List I9)))) × I2)) : Tr I6 true :=
 (.fn bpoints_S (x.1, x.2.1) fun y =>
 (.fn vdrop_S (y.1, x.2.2) fun y_1 =>
 (.fn vdrop_S (y.2.1, x.2.2) fun y_2 =>
 (.fn vdrop_S (y.2.2, x.2.2) fun y_3 =>
 (.ret (y_1.1, (y_2.1, y_3.1)))))))
noncomputable abbrev bshadow_S : FnS := ⟨(.pair (.ptr (Ty.prod (Ty.sl yy3) (Ty.prod (Ty.sl yy2) (Ty.prod (Ty.sl yy3) (Ty.sl yy9))))) (.pair (.one yi) (.one yi))), (.agg yy6), bshadow_pre, bshadow⟩
theorem bshadow_ok : SpecOk Tryz.prog 45 (fnSpec bshadow_S) := SpecOk.tr bshadow_S bshadow_t (fn := Tryz.f45) tt_ok sp_bway_ok mixed (by kernel_rfl) (ItsOk.nil _ _) (fun x => (LpsOk.unrollT tt_ok (SpecsOk.ctxI sp_bway_ok (ItsOk.nil _ _)) mixed 0 4 LpsOk.nil (by kernel_rfl))) (fun x => (by kernel_rfl)) fun x Q => (by kernel_rfl)
def sp_bshadow : List (Nat × Ev.Spec) := (45, fnSpec bshadow_S) :: sp_bway
theorem sp_bshadow_ok : SpecsOk Tryz.prog sp_bshadow := SpecsOk.add (fn := Tryz.f45) (by kernel_rfl) bshadow_ok sp_bway_ok
noncomputable def facing_i : ItsB Tryz.prog := ⟨_, (ItsOk.walk tt_ok sp_bshadow_ok mixed 42 (fn := Tryz.f42) (by kernel_rfl) (ItsOk.nil _ _) fun ys hy => LpsOk.nil)⟩
noncomputable def facing (x : (((List I3) × ((List I2) × ((List I3) × (List I9)))) × Int)) : (Int × (Int × Bool)) :=
 (letV (tame x.1) fun y =>
 (if ((!y) = true) then
 ((0 : Int), ((0 : Int), false)) else
 (letV (bway x) fun y_1 =>
 (y_1.1.1, (y_1.1.2, y_1.2)))))
noncomputable def facing_pre (x : (((List I3) × ((List I2) × ((List I3) × (List I9)))) × Int)) : Prop :=
 ((tame_pre x.1) ∧
 letP (tame x.1) fun y =>
 (¬ ((!y) = true) →
 (bway_pre x)))
noncomputable def facing_t (x : (((List I3) × ((List I2) × ((List I3) × (List I9)))) × Int)) : Tr (Int × (Int × Bool)) true :=
 (.allE
 (.fn tame_S x.1 fun y =>
 (.pn 0 5
 (.b01 (!y)
 (.ret ((0 : Int), ((0 : Int), false)))
 (.fn bway_S x fun y_1 =>
 (.ret (y_1.1.1, (y_1.1.2, y_1.2))))))))
noncomputable abbrev facing_S : FnS := ⟨(.pair (.agg (Ty.prod (Ty.sl yy3) (Ty.prod (Ty.sl yy2) (Ty.prod (Ty.sl yy3) (Ty.sl yy9))))) (.one yi)), (.pair (.one yi) (.pair (.one yi) (.one Ty.bool))), facing_pre, facing⟩
theorem facing_ok : SpecOk Tryz.prog 22 (fnSpec facing_S) := SpecOk.tr facing_S facing_t (fn := Tryz.f22) tt_ok sp_bshadow_ok mixed (by kernel_rfl) facing_i.ok (fun x => LpsOk.nil) (fun x => (by kernel_rfl)) fun x Q => (by kernel_rfl)
def sp_facing : List (Nat × Ev.Spec) := (22, fnSpec facing_S) :: sp_bshadow
theorem sp_facing_ok : SpecsOk Tryz.prog sp_facing := SpecsOk.add (fn := Tryz.f22) (by kernel_rfl) facing_ok sp_bshadow_ok
noncomputable def shadow_i : ItsB Tryz.prog := ⟨_, (ItsOk.walk tt_ok sp_facing_ok mixed 42 (fn := Tryz.f42) (by kernel_rfl) (ItsOk.nil _ _) fun ys hy => LpsOk.nil)⟩
noncomputable def shadow (x : (((List I3) × ((List I2) × ((List I3) × (List I9)))) × I2)) : (I6 × Int) :=
 (letV (tame x.1) fun y =>
 (if ((!y) = true) then
 ((((0 : Int), (0 : Int)), (((0 : Int), (0 : Int)), ((0 : Int), (0 : Int)))), (1 : Int)) else
 (letV (bhas (x.1, x.2.1)) fun y_1 =>
 (if ((!y_1) = true) then
 ((((0 : Int), (0 : Int)), (((0 : Int), (0 : Int)), ((0 : Int), (0 : Int)))), (1 : Int)) else
 (if (x.2.2 < (0 : Int)) then
 ((((0 : Int), (0 : Int)), (((0 : Int), (0 : Int)), ((0 : Int), (0 : Int)))), (1 : Int)) else
 (if (x.2.2 ≥ (3 : Int)) then
 ((((0 : Int), (0 : Int)), (((0 : Int), (0 : Int)), ((0 : Int), (0 : Int)))), (1 : Int)) else
 (letV (bshadow x) fun y_2 =>
 (y_2, (0 : Int)))))))))
noncomputable def shadow_pre (x : (((List I3) × ((List I2) × ((List I3) × (List I9)))) × I2)) : Prop :=
 ((tame_pre x.1) ∧
 letP (tame x.1) fun y =>
 (¬ ((!y) = true) →
 (letP (bhas (x.1, x.2.1)) fun y_1 =>
 (¬ ((!y_1) = true) →
 (¬ (x.2.2 < (0 : Int)) →
 (¬ (x.2.2 ≥ (3 : Int)) →
 (bshadow_pre x)))))))
noncomputable def shadow_t (x : (((List I3) × ((List I2) × ((List I3) × (List I9)))) × I2)) : Tr (I6 × Int) true :=
 (.allE
 (.fn tame_S x.1 fun y =>
 (.pn 0 6
 (.b01 (!y)
 (.ret (zz6, (1 : Int)))
 (.fn0 bhas_S (x.1, x.2.1) trivial fun y_1 =>
 (.b01 (!y_1)
 (.ret (zz6, (1 : Int)))
 (.i01 (x.2.2 < (0 : Int))
 (.ret (zz6, (1 : Int)))
 (.i01 (x.2.2 ≥ (3 : Int))
 (.ret (zz6, (1 : Int)))
 (.fn bshadow_S x fun y_2 =>
 (.ret (y_2, (0 : Int))))))))))))
noncomputable abbrev shadow_S : FnS := ⟨(.pair (.agg (Ty.prod (Ty.sl yy3) (Ty.prod (Ty.sl yy2) (Ty.prod (Ty.sl yy3) (Ty.sl yy9))))) (.pair (.one yi) (.one yi))), (.pair (.agg yy6) (.one yi)), shadow_pre, shadow⟩
theorem shadow_ok : SpecOk Tryz.prog 23 (fnSpec shadow_S) := SpecOk.tr shadow_S shadow_t (fn := Tryz.f23) tt_ok sp_facing_ok mixed (by kernel_rfl) shadow_i.ok (fun x => LpsOk.nil) (fun x => (by kernel_rfl)) fun x Q => (by kernel_rfl)
def sp_shadow : List (Nat × Ev.Spec) := (23, fnSpec shadow_S) :: sp_facing
theorem sp_shadow_ok : SpecsOk Tryz.prog sp_shadow := SpecsOk.add (fn := Tryz.f23) (by kernel_rfl) shadow_ok sp_facing_ok
noncomputable def odd (x : I6) : Bool :=
 (letV (mright x) fun y =>
 (!y))
noncomputable def odd_pre (x : I6) : Prop :=
 (mright_pre x)
noncomputable def odd_t (x : I6) : Tr Bool true :=
 (.fn mright_S x fun y =>
 (.ret (!y)))
noncomputable abbrev odd_S : FnS := ⟨(.agg yy6), (.one Ty.bool), odd_pre, odd⟩
theorem odd_ok : SpecOk Tryz.prog 38 (fnSpec odd_S) := SpecOk.tr odd_S odd_t (fn := Tryz.f38) tt_ok sp_shadow_ok mixed (by kernel_rfl) (ItsOk.nil _ _) (fun x => LpsOk.nil) (fun x => (by kernel_rfl)) fun x Q => (by kernel_rfl)
def sp_odd : List (Nat × Ev.Spec) := (38, fnSpec odd_S) :: sp_shadow
theorem sp_odd_ok : SpecsOk Tryz.prog sp_odd := SpecsOk.add (fn := Tryz.f38) (by kernel_rfl) odd_ok sp_shadow_ok
noncomputable def indexT_l0 (x : ((List I6) × Bool)) : LoopD := ⟨[], ⟨pvs 19 0 [(0, .v (.one (.full 0))), (1, .v (.one (.clo 38 0 []))), (7, .v (.one (.i .i64))), (8, .v (.one (.i .i64)))], [.row yy6 0], 0, none, [], [0, 2], [1], [.i], [.i (((List.length x.1) : Nat) : Int), .l yy6 x.1]⟩, [⟨.ret, .ret, ⟨pvs 19 0 [(4, .v (.one (.i .i64)))], [], 0, none, [], [], [0], [.i], []⟩⟩, ⟨(.exit 0), .normal, ⟨pvs 19 0 [], [], 0, none, [], [], [], [], []⟩⟩]⟩
noncomputable def indexT_l0_step (x : ((List I6) × Bool)) (s : Int) : Int ⊕ (Int ⊕ Unit) :=
 (if (s < (((List.length x.1) : Nat) : Int)) then
 (letV (odd (List.getD x.1 (Int.toNat s) (((0 : Int), (0 : Int)), (((0 : Int), (0 : Int)), ((0 : Int), (0 : Int)))))) fun y =>
 (if (y = true) then
 (Sum.inr (Sum.inl s)) else
 (Sum.inl (w64 (s + (1 : Int)))))) else
 (Sum.inr (Sum.inr (()))))
noncomputable def indexT_l0_pre (x : ((List I6) × Bool)) (s : Int) : Prop :=
 ((s < (((List.length x.1) : Nat) : Int)) →
 ((((0 : Int) ≤ s) ∧ (s < (((List.length x.1) : Nat) : Int))) ∧
 (((Int.toNat s) < (List.length x.1)) ∧
 (((Int.toNat s) < (List.length x.1)) ∧
 (odd_pre (List.getD x.1 (Int.toNat s) (((0 : Int), (0 : Int)), (((0 : Int), (0 : Int)), ((0 : Int), (0 : Int))))))))))
noncomputable def indexT_l0_t (x : ((List I6) × Bool)) (s : Int) : Tr (Int ⊕ (Int ⊕ Unit)) true :=
 (.i10 (s < (((List.length x.1) : Nat) : Int))
 (.oR s (((List.length x.1) : Nat) : Int)
 (.od ((Int.toNat s) < (List.length x.1))
 (.od ((Int.toNat s) < (List.length x.1))
 (.fn odd_S (List.getD x.1 (Int.toNat s) zz6) fun y =>
 (.b00 y
 (.ret (.inr (Sum.inl s)))
 (.ret (.inl (w64 (s + (1 : Int))))))))))
 (.ret (.inr (Sum.inr (())))))
noncomputable def indexT (x : ((List I6) × Bool)) : Int :=
 (letV (run (indexT_l0_step x) (0 : Int)) fun r =>
 (Sum.elim (fun a =>
 a) (fun b =>
 (-1 : Int)) r))
noncomputable def indexT_pre (x : ((List I6) × Bool)) : Prop :=
 (Term (indexT_l0_step x) (indexT_l0_pre x) (0 : Int))
noncomputable def indexT_t (x : ((List I6) × Bool)) : Tr Int true :=
 (LoopD.lp (indexT_l0 x) (indexT_l0_t x) (0 : Int) fun r =>
 (.s00 r (fun a =>
 (.ret a)) (fun b =>
 (.ret (-1 : Int)))))
noncomputable abbrev indexT_S : FnS := ⟨(.pair (.one (Ty.sl yy6)) (.clo 38 .none)), (.one yi), indexT_pre, indexT⟩
theorem indexT_ok : SpecOk Tryz.prog 58 (fnSpec indexT_S) := SpecOk.tr indexT_S indexT_t (fn := Tryz.f58) tt_ok sp_odd_ok mixed (by kernel_rfl) (ItsOk.nil _ _) (fun x => (LpsOk.tr tt_ok (SpecsOk.ctxI sp_odd_ok (ItsOk.nil _ _)) mixed 0 (indexT_l0 x) (indexT_l0_t x) LpsOk.nil (by kernel_rfl) fun g s Q => (by kernel_rfl))) (fun x => (by kernel_rfl)) fun x Q => (by kernel_rfl)
def sp_indexT : List (Nat × Ev.Spec) := (58, fnSpec indexT_S) :: sp_odd
theorem sp_indexT_ok : SpecsOk Tryz.prog sp_indexT := SpecsOk.add (fn := Tryz.f58) (by kernel_rfl) indexT_ok sp_odd_ok
noncomputable def containsT (x : ((List I6) × Bool)) : Bool :=
 (letV (indexT (x.1, false)) fun y =>
 (decide (y ≥ (0 : Int))))
noncomputable def containsT_pre (x : ((List I6) × Bool)) : Prop :=
 (indexT_pre (x.1, false))
noncomputable def containsT_t (x : ((List I6) × Bool)) : Tr Bool true :=
 (.fn indexT_S (x.1, false) fun y =>
 (.ret (decide (y ≥ (0 : Int)))))
noncomputable abbrev containsT_S : FnS := ⟨(.pair (.one (Ty.sl yy6)) (.clo 38 .none)), (.one Ty.bool), containsT_pre, containsT⟩
theorem containsT_ok : SpecOk Tryz.prog 40 (fnSpec containsT_S) := SpecOk.tr containsT_S containsT_t (fn := Tryz.f40) tt_ok sp_indexT_ok mixed (by kernel_rfl) (ItsOk.nil _ _) (fun x => LpsOk.nil) (fun x => (by kernel_rfl)) fun x Q => (by kernel_rfl)
def sp_containsT : List (Nat × Ev.Spec) := (40, fnSpec containsT_S) :: sp_indexT
theorem sp_containsT_ok : SpecsOk Tryz.prog sp_containsT := SpecsOk.add (fn := Tryz.f40) (by kernel_rfl) containsT_ok sp_indexT_ok
noncomputable def mside (x : (I2 × (I2 × (I2 × Int)))) : Int :=
 (letV (sside (x.2.1, (x.2.2.1, x.1))) fun y =>
 (w64 (x.2.2.2 * y.1)))
noncomputable def mside_pre (x : (I2 × (I2 × (I2 × Int)))) : Prop :=
 (sside_pre (x.2.1, (x.2.2.1, x.1)))
noncomputable def mside_t (x : (I2 × (I2 × (I2 × Int)))) : Tr Int true :=
 (.fn sside_S (x.2.1, (x.2.2.1, x.1)) fun y =>
 (.ret (w64 (x.2.2.2 * y.1))))
noncomputable abbrev mside_S : FnS := ⟨(.pair (.agg yy2) (.pair (.ptr (.prod (.int .i64) (.int .i64))) (.pair (.ptr (.prod (.int .i64) (.int .i64))) (.ptr (.int .i64))))), (.one yi), mside_pre, mside⟩
theorem mside_ok : SpecOk Tryz.prog 109 (fnSpec mside_S) := SpecOk.tr mside_S mside_t (fn := Tryz.f109) tt_ok sp_containsT_ok mixed (by kernel_rfl) (ItsOk.nil _ _) (fun x => LpsOk.nil) (fun x => (by kernel_rfl)) fun x Q => (by kernel_rfl)
def sp_mside : List (Nat × Ev.Spec) := (109, fnSpec mside_S) :: sp_containsT
theorem sp_mside_ok : SpecsOk Tryz.prog sp_mside := SpecsOk.add (fn := Tryz.f109) (by kernel_rfl) mside_ok sp_containsT_ok
end Go.Proofs.YtpbbnoggkbfkoaaGreat
