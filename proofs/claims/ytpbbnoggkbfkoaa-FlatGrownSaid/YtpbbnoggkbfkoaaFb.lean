/- Models of functions of layers 10, 15, 16. -/
import Derived.Test.YtpbbnoggkbfkoaaFa
noncomputable section
set_option linter.unusedSectionVars false
set_option linter.unusedVariables false
set_option linter.unusedSimpArgs false
namespace Go.Proofs.Ytpbbnoggkbfkoaa
open Go Go.Ev Go.Proofs
def indexV3_l0 (x : ((List I3) × Bool)) : LoopD := ⟨[],⟨pvs 19 0 [(0,.v (.one (.full 0))),(1,.v (.one (.clo 61 0 []))),(7,.v (.one (.i .i64))),(8,.v (.one (.i .i64)))],[.row yy3 0],0,none,[],[0,2],[1],[.i],[.i (x.1.length:Int),.l yy3 x.1]⟩,[⟨.ret,.ret,⟨pvs 19 0 [(4,.v (.one (.i .i64)))],[],0,none,[],[],[0],[.i],[]⟩⟩,⟨(.exit 0),.normal,⟨pvs 19 0 [],[],0,none,[],[],[],[],[]⟩⟩]⟩
def indexV3_l0_step (x : ((List I3) × Bool)) (s:Int) : Int ⊕ (Int ⊕ Unit) :=
 (if (s < (x.1.length:Int)) then
 (letV (far (List.getD x.1 (Int.toNat s) ((0:Int),((0:Int),(0:Int))))) fun y =>
 (if (y = true) then
 (Sum.inr (Sum.inl s)) else
 (Sum.inl (w64 (s + (1:Int)))))) else
 (Sum.inr (Sum.inr (()))))
def indexV3_l0_pre (x : ((List I3) × Bool)) (s:Int) : Prop :=
 ((s < (x.1.length:Int)) →
 ((((0:Int) ≤ s) ∧ (s < (x.1.length:Int))) ∧
 (((Int.toNat s) < (List.length x.1)) ∧
 ((Int.toNat s) < (List.length x.1)))))
def indexV3_l0_t (x : ((List I3) × Bool)) (s:Int) : Tr (Int ⊕ (Int ⊕ Unit)) true :=
 (.i10 (s < (nL x.1))
 (.oI2 s x.1
 (.fn0 far_S (gT x.1 s zz3) trivial fun y =>
 (.b00 y
 (.ret (.inr (Sum.inl s)))
 (.ret (.inl (w1 s))))))
 (.ret (.inr (Sum.inr (())))))
def indexV3 (x : ((List I3) × Bool)) : Int :=
 (letV (run (indexV3_l0_step x) (0:Int)) fun r =>
 (Sum.elim (fun a =>
 a) (fun b =>
 (-1:Int)) r))
def indexV3_pre (x : ((List I3) × Bool)) : Prop :=
 (Term (indexV3_l0_step x) (indexV3_l0_pre x) (0:Int))
def indexV3_t (x : ((List I3) × Bool)) : Tr Int true :=
 (LoopD.lp (indexV3_l0 x) (indexV3_l0_t x) z0 fun r =>
 (.s00 r (fun a =>
 (.ret a)) (fun b =>
 (.ret (-1:Int)))))
abbrev indexV3_S : FnS := ⟨(.pair (.one (Ty.sl yy3)) (.clo 61 .none)),(.one yi),indexV3_pre,indexV3⟩
theorem indexV3_ok : SpecOk Try.prog 74 (fnSpec indexV3_S) := SpecOk.tr indexV3_S indexV3_t (fn := Try.f74) tt_ok sp_fsizes_ok mixed (by kernel_rfl) (ItsOk.nil _ _) (fun x => (LpsOk.tr tt_ok (SpecsOk.ctxI sp_fsizes_ok (ItsOk.nil _ _)) mixed 0 (indexV3_l0 x) (indexV3_l0_t x) LpsOk.nil (by kernel_rfl) fun g s Q => (by kernel_rfl))) (fun x => (by kernel_rfl)) fun x Q => (by kernel_rfl)
def sp_indexV3 : List (Nat × Ev.Spec) := (74,fnSpec indexV3_S) :: sp_fsizes
theorem sp_indexV3_ok : SpecsOk Try.prog sp_indexV3 := SpecsOk.add (fn := Try.f74) (by kernel_rfl) indexV3_ok sp_fsizes_ok
def containsV3 (x : ((List I3) × Bool)) : Bool :=
 (letV (indexV3 (x.1,false)) fun y =>
 (decide (y ≥ (0:Int))))
def containsV3_pre (x : ((List I3) × Bool)) : Prop :=
 (indexV3_pre (x.1,false))
def containsV3_t (x : ((List I3) × Bool)) : Tr Bool true :=
 (.fn indexV3_S (x.1,false) fun y =>
 (.ret (decide (y ≥ z0))))
abbrev containsV3_S : FnS := ⟨(.pair (.one (Ty.sl yy3)) (.clo 61 .none)),(.one Ty.bool),containsV3_pre,containsV3⟩
theorem containsV3_ok : SpecOk Try.prog 60 (fnSpec containsV3_S) := SpecOk.tr containsV3_S containsV3_t (fn := Try.f60) tt_ok sp_indexV3_ok mixed (by kernel_rfl) (ItsOk.nil _ _) (fun x => LpsOk.nil) (fun x => (by kernel_rfl)) fun x Q => (by kernel_rfl)
def sp_containsV3 : List (Nat × Ev.Spec) := (60,fnSpec containsV3_S) :: sp_indexV3
theorem sp_containsV3_ok : SpecsOk Try.prog sp_containsV3 := SpecsOk.add (fn := Try.f60) (by kernel_rfl) containsV3_ok sp_indexV3_ok
def tame (x : ((List I3) × ((List I2) × ((List I3) × (List I9))))) : Bool :=
 (letV (meshis x) fun y =>
 (if (y = true) then
 (letV (containsV3 (x.1,false)) fun y_1 =>
 (!y_1)) else
 false))
def tame_pre (x : ((List I3) × ((List I2) × ((List I3) × (List I9))))) : Prop :=
 ((meshis_pre x) ∧
 letP (meshis x) fun y =>
 ((y = true) →
 (containsV3_pre (x.1,false))))
def tame_t (x : ((List I3) × ((List I2) × ((List I3) × (List I9))))) : Tr Bool true :=
 (.fn meshis_S x fun y =>
 (.b10 y
 (.fn containsV3_S (x.1,false) fun y_1 =>
 (.ret (!y_1)))
 (.ret false)))
abbrev tame_S : FnS := ⟨(.agg (Ty.prod (Ty.sl yy3) (Ty.prod (Ty.sl yy2) (Ty.prod (Ty.sl yy3) (Ty.sl yy9))))),(.one Ty.bool),tame_pre,tame⟩
theorem tame_ok : SpecOk Try.prog 44 (fnSpec tame_S) := SpecOk.tr tame_S tame_t (fn := Try.f44) tt_ok sp_containsV3_ok mixed (by kernel_rfl) (ItsOk.nil _ _) (fun x => LpsOk.nil) (fun x => (by kernel_rfl)) fun x Q => (by kernel_rfl)
def sp_tame : List (Nat × Ev.Spec) := (44,fnSpec tame_S) :: sp_containsV3
theorem sp_tame_ok : SpecsOk Try.prog sp_tame := SpecsOk.add (fn := Try.f44) (by kernel_rfl) tame_ok sp_containsV3_ok
def bhas (x : (((List I3) × ((List I2) × ((List I3) × (List I9)))) × Int)) : Bool :=
 (if (x.2 ≥ (0:Int)) then
 (decide (x.2 < (x.1.2.2.2.length:Int))) else
 false)
def bhas_pre (_ : (((List I3) × ((List I2) × ((List I3) × (List I9)))) × Int)) : Prop := True
def bhas_t (x : (((List I3) × ((List I2) × ((List I3) × (List I9)))) × Int)) : Tr Bool false :=
 (.i00 (x.2 ≥ z0)
 (.ret (decide (x.2 < (nL x.1.2.2.2))))
 (.ret false))
abbrev bhas_S : FnS := ⟨(.pair (.ptr (Ty.prod (Ty.sl yy3) (Ty.prod (Ty.sl yy2) (Ty.prod (Ty.sl yy3) (Ty.sl yy9))))) (.one yi)),(.one Ty.bool),bhas_pre,bhas⟩
theorem bhas_ok : SpecOk Try.prog 31 (fnSpec bhas_S) := SpecOk.tr bhas_S bhas_t (fn := Try.f31) tt_ok sp_tame_ok mixed (by kernel_rfl) (ItsOk.nil _ _) (fun x => LpsOk.nil) (fun x => (by kernel_rfl)) fun x Q => (by kernel_rfl)
def sp_bhas : List (Nat × Ev.Spec) := (31,fnSpec bhas_S) :: sp_tame
theorem sp_bhas_ok : SpecsOk Try.prog sp_bhas := SpecsOk.add (fn := Try.f31) (by kernel_rfl) bhas_ok sp_tame_ok
def bpoints (x : (((List I3) × ((List I2) × ((List I3) × (List I9)))) × Int)) : I9 :=
 ((List.getD x.1.1 (Int.toNat (List.getD x.1.2.2.2 (Int.toNat x.2) (((0:Int),((0:Int),(0:Int))),(((0:Int),((0:Int),(0:Int))),((0:Int),((0:Int),(0:Int)))))).1.1) ((0:Int),((0:Int),(0:Int)))),((List.getD x.1.1 (Int.toNat (List.getD x.1.2.2.2 (Int.toNat x.2) (((0:Int),((0:Int),(0:Int))),(((0:Int),((0:Int),(0:Int))),((0:Int),((0:Int),(0:Int)))))).2.1.1) ((0:Int),((0:Int),(0:Int)))),(List.getD x.1.1 (Int.toNat (List.getD x.1.2.2.2 (Int.toNat x.2) (((0:Int),((0:Int),(0:Int))),(((0:Int),((0:Int),(0:Int))),((0:Int),((0:Int),(0:Int)))))).2.2.1) ((0:Int),((0:Int),(0:Int))))))
def bpoints_pre (x : (((List I3) × ((List I2) × ((List I3) × (List I9)))) × Int)) : Prop :=
 ((((0:Int) ≤ x.2) ∧ (x.2 < (x.1.2.2.2.length:Int))) ∧
 (((Int.toNat x.2) < (List.length x.1.2.2.2)) ∧
 (((Int.toNat x.2) < (List.length x.1.2.2.2)) ∧
 ((((0:Int) ≤ (List.getD x.1.2.2.2 (Int.toNat x.2) (((0:Int),((0:Int),(0:Int))),(((0:Int),((0:Int),(0:Int))),((0:Int),((0:Int),(0:Int)))))).1.1) ∧ ((List.getD x.1.2.2.2 (Int.toNat x.2) (((0:Int),((0:Int),(0:Int))),(((0:Int),((0:Int),(0:Int))),((0:Int),((0:Int),(0:Int)))))).1.1 < (x.1.1.length:Int))) ∧
 (((Int.toNat (List.getD x.1.2.2.2 (Int.toNat x.2) (((0:Int),((0:Int),(0:Int))),(((0:Int),((0:Int),(0:Int))),((0:Int),((0:Int),(0:Int)))))).1.1) < (List.length x.1.1)) ∧
 (((Int.toNat (List.getD x.1.2.2.2 (Int.toNat x.2) (((0:Int),((0:Int),(0:Int))),(((0:Int),((0:Int),(0:Int))),((0:Int),((0:Int),(0:Int)))))).1.1) < (List.length x.1.1)) ∧
 ((((0:Int) ≤ (List.getD x.1.2.2.2 (Int.toNat x.2) (((0:Int),((0:Int),(0:Int))),(((0:Int),((0:Int),(0:Int))),((0:Int),((0:Int),(0:Int)))))).2.1.1) ∧ ((List.getD x.1.2.2.2 (Int.toNat x.2) (((0:Int),((0:Int),(0:Int))),(((0:Int),((0:Int),(0:Int))),((0:Int),((0:Int),(0:Int)))))).2.1.1 < (x.1.1.length:Int))) ∧
 (((Int.toNat (List.getD x.1.2.2.2 (Int.toNat x.2) (((0:Int),((0:Int),(0:Int))),(((0:Int),((0:Int),(0:Int))),((0:Int),((0:Int),(0:Int)))))).2.1.1) < (List.length x.1.1)) ∧
 (((Int.toNat (List.getD x.1.2.2.2 (Int.toNat x.2) (((0:Int),((0:Int),(0:Int))),(((0:Int),((0:Int),(0:Int))),((0:Int),((0:Int),(0:Int)))))).2.1.1) < (List.length x.1.1)) ∧
 ((((0:Int) ≤ (List.getD x.1.2.2.2 (Int.toNat x.2) (((0:Int),((0:Int),(0:Int))),(((0:Int),((0:Int),(0:Int))),((0:Int),((0:Int),(0:Int)))))).2.2.1) ∧ ((List.getD x.1.2.2.2 (Int.toNat x.2) (((0:Int),((0:Int),(0:Int))),(((0:Int),((0:Int),(0:Int))),((0:Int),((0:Int),(0:Int)))))).2.2.1 < (x.1.1.length:Int))) ∧
 (((Int.toNat (List.getD x.1.2.2.2 (Int.toNat x.2) (((0:Int),((0:Int),(0:Int))),(((0:Int),((0:Int),(0:Int))),((0:Int),((0:Int),(0:Int)))))).2.2.1) < (List.length x.1.1)) ∧
 ((Int.toNat (List.getD x.1.2.2.2 (Int.toNat x.2) (((0:Int),((0:Int),(0:Int))),(((0:Int),((0:Int),(0:Int))),((0:Int),((0:Int),(0:Int)))))).2.2.1) < (List.length x.1.1)))))))))))))
def bpoints_t (x : (((List I3) × ((List I2) × ((List I3) × (List I9)))) × Int)) : Tr I9 true :=
 (.oI2 x.2 x.1.2.2.2
 (.oI2 (gT x.1.2.2.2 x.2 zz9).1.1 x.1.1
 (.oI2 (gT x.1.2.2.2 x.2 zz9).2.1.1 x.1.1
 (.oI2 (gT x.1.2.2.2 x.2 zz9).2.2.1 x.1.1
 (.ret ((gT x.1.1 (gT x.1.2.2.2 x.2 zz9).1.1 zz3),((gT x.1.1 (gT x.1.2.2.2 x.2 zz9).2.1.1 zz3),(gT x.1.1 (gT x.1.2.2.2 x.2 zz9).2.2.1 zz3))))))))
abbrev bpoints_S : FnS := ⟨(.pair (.ptr (Ty.prod (Ty.sl yy3) (Ty.prod (Ty.sl yy2) (Ty.prod (Ty.sl yy3) (Ty.sl yy9))))) (.one yi)),(.agg yy9),bpoints_pre,bpoints⟩
theorem bpoints_ok : SpecOk Try.prog 45 (fnSpec bpoints_S) := SpecOk.tr bpoints_S bpoints_t (fn := Try.f45) tt_ok sp_bhas_ok mixed (by kernel_rfl) (ItsOk.nil _ _) (fun x => (LpsOk.unrollT tt_ok (SpecsOk.ctxI sp_bhas_ok (ItsOk.nil _ _)) mixed 0 4 LpsOk.nil (by kernel_rfl))) (fun x => (by kernel_rfl)) fun x Q => (by kernel_rfl)
def sp_bpoints : List (Nat × Ev.Spec) := (45,fnSpec bpoints_S) :: sp_bhas
theorem sp_bpoints_ok : SpecsOk Try.prog sp_bpoints := SpecsOk.add (fn := Try.f45) (by kernel_rfl) bpoints_ok sp_bhas_ok
def bway (x : (((List I3) × ((List I2) × ((List I3) × (List I9)))) × Int)) : (I2 × Bool) :=
 (letV (bhas x) fun y =>
 (if ((!y) = true) then
 (((0:Int),(0:Int)),false) else
 (letV (bpoints x) fun y_1 =>
 (letV (sfacing y_1) fun y_2 =>
 ((y_2.1,y_2.2.1),(y_2.2.2 == (0:Int)))))))
def bway_pre (x : (((List I3) × ((List I2) × ((List I3) × (List I9)))) × Int)) : Prop :=
 (letP (bhas x) fun y =>
 (¬ ((!y) = true) →
 ((bpoints_pre x) ∧
 letP (bpoints x) fun y_1 =>
 (sfacing_pre y_1))))
def bway_t (x : (((List I3) × ((List I2) × ((List I3) × (List I9)))) × Int)) : Tr (I2 × Bool) true :=
 (.fn0 bhas_S x trivial fun y =>
 (.b01 (!y)
 (.ret (zz2,false))
 (.fn bpoints_S x fun y_1 =>
 (.fn sfacing_S y_1 fun y_2 =>
 (.ret ((y_2.1,y_2.2.1),(y_2.2.2 == z0)))))))
abbrev bway_S : FnS := ⟨(.pair (.ptr (Ty.prod (Ty.sl yy3) (Ty.prod (Ty.sl yy2) (Ty.prod (Ty.sl yy3) (Ty.sl yy9))))) (.one yi)),(.pair (.agg yy2) (.one Ty.bool)),bway_pre,bway⟩
theorem bway_ok : SpecOk Try.prog 38 (fnSpec bway_S) := SpecOk.tr bway_S bway_t (fn := Try.f38) tt_ok sp_bpoints_ok mixed (by kernel_rfl) (ItsOk.nil _ _) (fun x => LpsOk.nil) (fun x => (by kernel_rfl)) fun x Q => (by kernel_rfl)
def sp_bway : List (Nat × Ev.Spec) := (38,fnSpec bway_S) :: sp_bpoints
theorem sp_bway_ok : SpecsOk Try.prog sp_bway := SpecsOk.add (fn := Try.f38) (by kernel_rfl) bway_ok sp_bpoints_ok
def bshadow (x : (((List I3) × ((List I2) × ((List I3) × (List I9)))) × I2)) : I6 :=
 (letV (bpoints (x.1,x.2.1)) fun y =>
 (letV (vdrop (y.1,x.2.2)) fun y_1 =>
 (letV (vdrop (y.2.1,x.2.2)) fun y_2 =>
 (letV (vdrop (y.2.2,x.2.2)) fun y_3 =>
 (y_1.1,(y_2.1,y_3.1))))))
def bshadow_pre (x : (((List I3) × ((List I2) × ((List I3) × (List I9)))) × I2)) : Prop :=
 ((bpoints_pre (x.1,x.2.1)) ∧
 letP (bpoints (x.1,x.2.1)) fun y =>
 ((vdrop_pre (y.1,x.2.2)) ∧
 letP (vdrop (y.1,x.2.2)) fun y_1 =>
 ((vdrop_pre (y.2.1,x.2.2)) ∧
 letP (vdrop (y.2.1,x.2.2)) fun y_2 =>
 (vdrop_pre (y.2.2,x.2.2)))))
def bshadow_t (x : (((List I3) × ((List I2) × ((List I3) × (List I9)))) × I2)) : Tr I6 true :=
 (.fn bpoints_S (x.1,x.2.1) fun y =>
 (.fn vdrop_S (y.1,x.2.2) fun y_1 =>
 (.fn vdrop_S (y.2.1,x.2.2) fun y_2 =>
 (.fn vdrop_S (y.2.2,x.2.2) fun y_3 =>
 (.ret (y_1.1,(y_2.1,y_3.1)))))))
abbrev bshadow_S : FnS := ⟨(.pair (.ptr (Ty.prod (Ty.sl yy3) (Ty.prod (Ty.sl yy2) (Ty.prod (Ty.sl yy3) (Ty.sl yy9))))) (.pair (.one yi) (.one yi))),(.agg yy6),bshadow_pre,bshadow⟩
theorem bshadow_ok : SpecOk Try.prog 32 (fnSpec bshadow_S) := SpecOk.tr bshadow_S bshadow_t (fn := Try.f32) tt_ok sp_bway_ok mixed (by kernel_rfl) (ItsOk.nil _ _) (fun x => (LpsOk.unrollT tt_ok (SpecsOk.ctxI sp_bway_ok (ItsOk.nil _ _)) mixed 0 4 LpsOk.nil (by kernel_rfl))) (fun x => (by kernel_rfl)) fun x Q => (by kernel_rfl)
def sp_bshadow : List (Nat × Ev.Spec) := (32,fnSpec bshadow_S) :: sp_bway
theorem sp_bshadow_ok : SpecsOk Try.prog sp_bshadow := SpecsOk.add (fn := Try.f32) (by kernel_rfl) bshadow_ok sp_bway_ok
def facing_i0 : ItsB Try.prog := ⟨_,(ItsOk.walk tt_ok sp_bshadow_ok mixed 30 (fn := Try.f30) (by kernel_rfl) (ItsOk.nil _ _) fun ys hy => LpsOk.nil)⟩
def facing (x : (((List I3) × ((List I2) × ((List I3) × (List I9)))) × Int)) : (Int × (Int × Bool)) :=
 (letV (tame x.1) fun y =>
 (if ((!y) = true) then
 ((0:Int),((0:Int),false)) else
 (letV (bway x) fun y_1 =>
 (y_1.1.1,(y_1.1.2,y_1.2)))))
def facing_pre (x : (((List I3) × ((List I2) × ((List I3) × (List I9)))) × Int)) : Prop :=
 ((tame_pre x.1) ∧
 letP (tame x.1) fun y =>
 (¬ ((!y) = true) →
 (bway_pre x)))
def facing_t (x : (((List I3) × ((List I2) × ((List I3) × (List I9)))) × Int)) : Tr (Int × (Int × Bool)) true :=
 (.allE
 (.fn tame_S x.1 fun y =>
 (.pn 0 5
 (.b01 (!y)
 (.ret (z0,(z0,false)))
 (.fn bway_S x fun y_1 =>
 (.ret (y_1.1.1,(y_1.1.2,y_1.2))))))))
abbrev facing_S : FnS := ⟨(.pair (.agg (Ty.prod (Ty.sl yy3) (Ty.prod (Ty.sl yy2) (Ty.prod (Ty.sl yy3) (Ty.sl yy9))))) (.one yi)),(.pair (.one yi) (.pair (.one yi) (.one Ty.bool))),facing_pre,facing⟩
theorem facing_ok : SpecOk Try.prog 20 (fnSpec facing_S) := SpecOk.tr facing_S facing_t (fn := Try.f20) tt_ok sp_bshadow_ok mixed (by kernel_rfl) facing_i0.ok (fun x => LpsOk.nil) (fun x => (by kernel_rfl)) fun x Q => (by kernel_rfl)
def sp_facing : List (Nat × Ev.Spec) := (20,fnSpec facing_S) :: sp_bshadow
theorem sp_facing_ok : SpecsOk Try.prog sp_facing := SpecsOk.add (fn := Try.f20) (by kernel_rfl) facing_ok sp_bshadow_ok
def shadow_i0 : ItsB Try.prog := ⟨_,(ItsOk.walk tt_ok sp_facing_ok mixed 30 (fn := Try.f30) (by kernel_rfl) (ItsOk.nil _ _) fun ys hy => LpsOk.nil)⟩
def shadow (x : (((List I3) × ((List I2) × ((List I3) × (List I9)))) × I2)) : (I6 × Int) :=
 (letV (tame x.1) fun y =>
 (if ((!y) = true) then
 ((((0:Int),(0:Int)),(((0:Int),(0:Int)),((0:Int),(0:Int)))),(1:Int)) else
 (letV (bhas (x.1,x.2.1)) fun y_1 =>
 (if ((!y_1) = true) then
 ((((0:Int),(0:Int)),(((0:Int),(0:Int)),((0:Int),(0:Int)))),(1:Int)) else
 (if (x.2.2 < (0:Int)) then
 ((((0:Int),(0:Int)),(((0:Int),(0:Int)),((0:Int),(0:Int)))),(1:Int)) else
 (if (x.2.2 ≥ (3:Int)) then
 ((((0:Int),(0:Int)),(((0:Int),(0:Int)),((0:Int),(0:Int)))),(1:Int)) else
 (letV (bshadow x) fun y_2 =>
 (y_2,(0:Int)))))))))
def shadow_pre (x : (((List I3) × ((List I2) × ((List I3) × (List I9)))) × I2)) : Prop :=
 ((tame_pre x.1) ∧
 letP (tame x.1) fun y =>
 (¬ ((!y) = true) →
 (letP (bhas (x.1,x.2.1)) fun y_1 =>
 (¬ ((!y_1) = true) →
 (¬ (x.2.2 < (0:Int)) →
 (¬ (x.2.2 ≥ (3:Int)) →
 (bshadow_pre x)))))))
def shadow_t (x : (((List I3) × ((List I2) × ((List I3) × (List I9)))) × I2)) : Tr (I6 × Int) true :=
 (.allE
 (.fn tame_S x.1 fun y =>
 (.pn 0 6
 (.b01 (!y)
 (.ret (zz6,z1))
 (.fn0 bhas_S (x.1,x.2.1) trivial fun y_1 =>
 (.b01 (!y_1)
 (.ret (zz6,z1))
 (.i01 (x.2.2 < z0)
 (.ret (zz6,z1))
 (.i01 (x.2.2 ≥ (3:Int))
 (.ret (zz6,z1))
 (.fn bshadow_S x fun y_2 =>
 (.ret (y_2,z0)))))))))))
abbrev shadow_S : FnS := ⟨(.pair (.agg (Ty.prod (Ty.sl yy3) (Ty.prod (Ty.sl yy2) (Ty.prod (Ty.sl yy3) (Ty.sl yy9))))) (.pair (.one yi) (.one yi))),(.pair (.agg yy6) (.one yi)),shadow_pre,shadow⟩
theorem shadow_ok : SpecOk Try.prog 12 (fnSpec shadow_S) := SpecOk.tr shadow_S shadow_t (fn := Try.f12) tt_ok sp_facing_ok mixed (by kernel_rfl) shadow_i0.ok (fun x => LpsOk.nil) (fun x => (by kernel_rfl)) fun x Q => (by kernel_rfl)
def sp_shadow : List (Nat × Ev.Spec) := (12,fnSpec shadow_S) :: sp_facing
theorem sp_shadow_ok : SpecsOk Try.prog sp_shadow := SpecsOk.add (fn := Try.f12) (by kernel_rfl) shadow_ok sp_facing_ok
def odd (x : I6) : Bool :=
 (letV (mright x) fun y =>
 (!y))
def odd_pre (x : I6) : Prop :=
 (mright_pre x)
def odd_t (x : I6) : Tr Bool true :=
 (.fn mright_S x fun y =>
 (.ret (!y)))
abbrev odd_S : FnS := ⟨(.agg yy6),(.one Ty.bool),odd_pre,odd⟩
theorem odd_ok : SpecOk Try.prog 27 (fnSpec odd_S) := SpecOk.tr odd_S odd_t (fn := Try.f27) tt_ok sp_shadow_ok mixed (by kernel_rfl) (ItsOk.nil _ _) (fun x => LpsOk.nil) (fun x => (by kernel_rfl)) fun x Q => (by kernel_rfl)
def sp_odd : List (Nat × Ev.Spec) := (27,fnSpec odd_S) :: sp_shadow
theorem sp_odd_ok : SpecsOk Try.prog sp_odd := SpecsOk.add (fn := Try.f27) (by kernel_rfl) odd_ok sp_shadow_ok
def indexT_l0 (x : ((List I6) × Bool)) : LoopD := ⟨[],⟨pvs 19 0 [(0,.v (.one (.full 0))),(1,.v (.one (.clo 27 0 []))),(7,.v (.one (.i .i64))),(8,.v (.one (.i .i64)))],[.row yy6 0],0,none,[],[0,2],[1],[.i],[.i (x.1.length:Int),.l yy6 x.1]⟩,[⟨.ret,.ret,⟨pvs 19 0 [(4,.v (.one (.i .i64)))],[],0,none,[],[],[0],[.i],[]⟩⟩,⟨(.exit 0),.normal,⟨pvs 19 0 [],[],0,none,[],[],[],[],[]⟩⟩]⟩
def indexT_l0_step (x : ((List I6) × Bool)) (s:Int) : Int ⊕ (Int ⊕ Unit) :=
 (if (s < (x.1.length:Int)) then
 (letV (odd (List.getD x.1 (Int.toNat s) (((0:Int),(0:Int)),(((0:Int),(0:Int)),((0:Int),(0:Int)))))) fun y =>
 (if (y = true) then
 (Sum.inr (Sum.inl s)) else
 (Sum.inl (w64 (s + (1:Int)))))) else
 (Sum.inr (Sum.inr (()))))
def indexT_l0_pre (x : ((List I6) × Bool)) (s:Int) : Prop :=
 ((s < (x.1.length:Int)) →
 ((((0:Int) ≤ s) ∧ (s < (x.1.length:Int))) ∧
 (((Int.toNat s) < (List.length x.1)) ∧
 (((Int.toNat s) < (List.length x.1)) ∧
 (odd_pre (List.getD x.1 (Int.toNat s) (((0:Int),(0:Int)),(((0:Int),(0:Int)),((0:Int),(0:Int))))))))))
def indexT_l0_t (x : ((List I6) × Bool)) (s:Int) : Tr (Int ⊕ (Int ⊕ Unit)) true :=
 (.i10 (s < (nL x.1))
 (.oI2 s x.1
 (.fn odd_S (gT x.1 s zz6) fun y =>
 (.b00 y
 (.ret (.inr (Sum.inl s)))
 (.ret (.inl (w1 s))))))
 (.ret (.inr (Sum.inr (())))))
def indexT (x : ((List I6) × Bool)) : Int :=
 (letV (run (indexT_l0_step x) (0:Int)) fun r =>
 (Sum.elim (fun a =>
 a) (fun b =>
 (-1:Int)) r))
def indexT_pre (x : ((List I6) × Bool)) : Prop :=
 (Term (indexT_l0_step x) (indexT_l0_pre x) (0:Int))
def indexT_t (x : ((List I6) × Bool)) : Tr Int true :=
 (LoopD.lp (indexT_l0 x) (indexT_l0_t x) z0 fun r =>
 (.s00 r (fun a =>
 (.ret a)) (fun b =>
 (.ret (-1:Int)))))
abbrev indexT_S : FnS := ⟨(.pair (.one (Ty.sl yy6)) (.clo 27 .none)),(.one yi),indexT_pre,indexT⟩
theorem indexT_ok : SpecOk Try.prog 43 (fnSpec indexT_S) := SpecOk.tr indexT_S indexT_t (fn := Try.f43) tt_ok sp_odd_ok mixed (by kernel_rfl) (ItsOk.nil _ _) (fun x => (LpsOk.tr tt_ok (SpecsOk.ctxI sp_odd_ok (ItsOk.nil _ _)) mixed 0 (indexT_l0 x) (indexT_l0_t x) LpsOk.nil (by kernel_rfl) fun g s Q => (by kernel_rfl))) (fun x => (by kernel_rfl)) fun x Q => (by kernel_rfl)
def sp_indexT : List (Nat × Ev.Spec) := (43,fnSpec indexT_S) :: sp_odd
theorem sp_indexT_ok : SpecsOk Try.prog sp_indexT := SpecsOk.add (fn := Try.f43) (by kernel_rfl) indexT_ok sp_odd_ok
def containsT (x : ((List I6) × Bool)) : Bool :=
 (letV (indexT (x.1,false)) fun y =>
 (decide (y ≥ (0:Int))))
def containsT_pre (x : ((List I6) × Bool)) : Prop :=
 (indexT_pre (x.1,false))
def containsT_t (x : ((List I6) × Bool)) : Tr Bool true :=
 (.fn indexT_S (x.1,false) fun y =>
 (.ret (decide (y ≥ z0))))
abbrev containsT_S : FnS := ⟨(.pair (.one (Ty.sl yy6)) (.clo 27 .none)),(.one Ty.bool),containsT_pre,containsT⟩
theorem containsT_ok : SpecOk Try.prog 29 (fnSpec containsT_S) := SpecOk.tr containsT_S containsT_t (fn := Try.f29) tt_ok sp_indexT_ok mixed (by kernel_rfl) (ItsOk.nil _ _) (fun x => LpsOk.nil) (fun x => (by kernel_rfl)) fun x Q => (by kernel_rfl)
def sp_containsT : List (Nat × Ev.Spec) := (29,fnSpec containsT_S) :: sp_indexT
theorem sp_containsT_ok : SpecsOk Try.prog sp_containsT := SpecsOk.add (fn := Try.f29) (by kernel_rfl) containsT_ok sp_indexT_ok
def mside (x : (I2 × (I2 × (I2 × Int)))) : Int :=
 (letV (sside (x.2.1,(x.2.2.1,x.1))) fun y =>
 (w64 (x.2.2.2 * y.1)))
def mside_pre (x : (I2 × (I2 × (I2 × Int)))) : Prop :=
 (sside_pre (x.2.1,(x.2.2.1,x.1)))
def mside_t (x : (I2 × (I2 × (I2 × Int)))) : Tr Int true :=
 (.fn sside_S (x.2.1,(x.2.2.1,x.1)) fun y =>
 (.ret (w64 (x.2.2.2 * y.1))))
abbrev mside_S : FnS := ⟨(.pair (.agg yy2) (.pair (.ptr (.prod (.int .i64) (.int .i64))) (.pair (.ptr (.prod (.int .i64) (.int .i64))) (.ptr (.int .i64))))),(.one yi),mside_pre,mside⟩
theorem mside_ok : SpecOk Try.prog 78 (fnSpec mside_S) := SpecOk.tr mside_S mside_t (fn := Try.f78) tt_ok sp_containsT_ok mixed (by kernel_rfl) (ItsOk.nil _ _) (fun x => LpsOk.nil) (fun x => (by kernel_rfl)) fun x Q => (by kernel_rfl)
def sp_mside : List (Nat × Ev.Spec) := (78,fnSpec mside_S) :: sp_containsT
theorem sp_mside_ok : SpecsOk Try.prog sp_mside := SpecsOk.add (fn := Try.f78) (by kernel_rfl) mside_ok sp_containsT_ok
end Go.Proofs.Ytpbbnoggkbfkoaa
