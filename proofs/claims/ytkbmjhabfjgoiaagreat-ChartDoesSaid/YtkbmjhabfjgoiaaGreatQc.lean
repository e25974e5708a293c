/- Models of functions of layers 10, 15, 16. -/
import Derived.Test.YtkbmjhabfjgoiaaGreatFa
import Derived.Test.YtkbmjhabfjgoiaaGreatQb
noncomputable section
set_option linter.unusedSectionVars false
set_option linter.unusedVariables false
set_option linter.unusedSimpArgs false
namespace Go.Proofs.YtkbmjhabfjgoiaaGreat
open Go Go.Ev Go.Proofs
def indexV3_l0 (x : ((List I3) × Bool)) : LoopD := ⟨[],⟨pvs 19 0 [(0,.v (.one (.full 0))),(1,.v (.one (.clo 44 0 []))),(7,.v (.one (.i .i64))),(8,.v (.one (.i .i64)))],[.row yy3 0],0,none,[],[0,2],[1],[.i],[.i (x.1.length:Int),.l yy3 x.1]⟩,[⟨.ret,.ret,⟨pvs 19 0 [(4,.v (.one (.i .i64)))],[],0,none,[],[],[0],[.i],[]⟩⟩,⟨(.exit 0),.normal,⟨pvs 19 0 [],[],0,none,[],[],[],[],[]⟩⟩]⟩
def indexV3_l0_step (x : ((List I3) × Bool)) (s:Int) : Int ⊕ (Int ⊕ Unit) :=
 (if (s < (x.1.length:Int)) then
 (letV (far (List.getD x.1 (Int.toNat s) ((0:Int),((0:Int),(0:Int))))) fun y =>
 (if (y = true) then
 (Sum.inr (Sum.inl s)) else
 (Sum.inl (w64 (s + (1:Int)))))) else
 (Sum.inr (Sum.inr (()))))
def indexV3_l0_pre (x : ((List I3) × Bool)) (s:Int) : Prop :=
 ((s < (x.1.length:Int)) →
 ((((0:Int) ≤ s) ∧ (s < (x.1.length:Int))) ∧
 (((Int.toNat s) < (List.length x.1)) ∧
 ((Int.toNat s) < (List.length x.1)))))
def indexV3_l0_t (x : ((List I3) × Bool)) (s:Int) : Tr (Int ⊕ (Int ⊕ Unit)) true :=
 (.i10 (s < (nL x.1))
 (.oI2 s x.1
 (.fn0 far_S (gT x.1 s zz3) trivial fun y =>
 (.b00 y
 (.ret (.inr (Sum.inl s)))
 (.ret (.inl (w1 s))))))
 (.ret (.inr (Sum.inr (())))))
def indexV3 (x : ((List I3) × Bool)) : Int :=
 (letV (run (indexV3_l0_step x) (0:Int)) fun r =>
 (Sum.elim (fun a =>
 a) (fun b =>
 (-1:Int)) r))
def indexV3_pre (x : ((List I3) × Bool)) : Prop :=
 (Term (indexV3_l0_step x) (indexV3_l0_pre x) (0:Int))
def indexV3_t (x : ((List I3) × Bool)) : Tr Int true :=
 (LoopD.lp (indexV3_l0 x) (indexV3_l0_t x) z0 fun r =>
 (.s00 r (fun a =>
 (.ret a)) (fun b =>
 (.ret (-1:Int)))))
abbrev indexV3_S : FnS := ⟨(.pair (.one (Ty.sl yy3)) (.clo 44 .none)),(.one yi),indexV3_pre,indexV3⟩
theorem indexV3_ok : SpecOk Tryz.prog 67 (fnSpec indexV3_S) := SpecOk.tr indexV3_S indexV3_t (fn := Tryz.f67) tt_ok sp_far_ok mixed (by kernel_rfl) (ItsOk.nil _ _) (fun x => (LpsOk.tr tt_ok (SpecsOk.ctxI sp_far_ok (ItsOk.nil _ _)) mixed 0 (indexV3_l0 x) (indexV3_l0_t x) LpsOk.nil (by kernel_rfl) fun g s Q => (by kernel_rfl))) (fun x => (by kernel_rfl)) fun x Q => (by kernel_rfl)
def sp_indexV3 : List (Nat × Ev.Spec) := (67,fnSpec indexV3_S) :: sp_far
theorem sp_indexV3_ok : SpecsOk Tryz.prog sp_indexV3 := SpecsOk.add (fn := Tryz.f67) (by kernel_rfl) indexV3_ok sp_far_ok
def containsV3 (x : ((List I3) × Bool)) : Bool :=
 (letV (indexV3 (x.1,false)) fun y =>
 (decide (y ≥ (0:Int))))
def containsV3_pre (x : ((List I3) × Bool)) : Prop :=
 (indexV3_pre (x.1,false))
def containsV3_t (x : ((List I3) × Bool)) : Tr Bool true :=
 (.fn indexV3_S (x.1,false) fun y =>
 (.ret (decide (y ≥ z0))))
abbrev containsV3_S : FnS := ⟨(.pair (.one (Ty.sl yy3)) (.clo 44 .none)),(.one Ty.bool),containsV3_pre,containsV3⟩
theorem containsV3_ok : SpecOk Tryz.prog 43 (fnSpec containsV3_S) := SpecOk.tr containsV3_S containsV3_t (fn := Tryz.f43) tt_ok sp_indexV3_ok mixed (by kernel_rfl) (ItsOk.nil _ _) (fun x => LpsOk.nil) (fun x => (by kernel_rfl)) fun x Q => (by kernel_rfl)
def sp_containsV3 : List (Nat × Ev.Spec) := (43,fnSpec containsV3_S) :: sp_indexV3
theorem sp_containsV3_ok : SpecsOk Tryz.prog sp_containsV3 := SpecsOk.add (fn := Tryz.f43) (by kernel_rfl) containsV3_ok sp_indexV3_ok
def tame (x : ((List I3) × ((List I2) × ((List I3) × (List I9))))) : Bool :=
 (letV (meshis x) fun y =>
 (if (y = true) then
 (letV (containsV3 (x.1,false)) fun y_1 =>
 (!y_1)) else
 false))
def tame_pre (x : ((List I3) × ((List I2) × ((List I3) × (List I9))))) : Prop :=
 ((meshis_pre x) ∧
 letP (meshis x) fun y =>
 ((y = true) →
 (containsV3_pre (x.1,false))))
def tame_t (x : ((List I3) × ((List I2) × ((List I3) × (List I9))))) : Tr Bool true :=
 (.fn meshis_S x fun y =>
 (.b10 y
 (.fn containsV3_S (x.1,false) fun y_1 =>
 (.ret (!y_1)))
 (.ret false)))
abbrev tame_S : FnS := ⟨(.agg (Ty.prod (Ty.sl yy3) (Ty.prod (Ty.sl yy2) (Ty.prod (Ty.sl yy3) (Ty.sl yy9))))),(.one Ty.bool),tame_pre,tame⟩
theorem tame_ok : SpecOk Tryz.prog 17 (fnSpec tame_S) := SpecOk.tr tame_S tame_t (fn := Tryz.f17) tt_ok sp_containsV3_ok mixed (by kernel_rfl) (ItsOk.nil _ _) (fun x => LpsOk.nil) (fun x => (by kernel_rfl)) fun x Q => (by kernel_rfl)
def sp_tame : List (Nat × Ev.Spec) := (17,fnSpec tame_S) :: sp_containsV3
theorem sp_tame_ok : SpecsOk Tryz.prog sp_tame := SpecsOk.add (fn := Tryz.f17) (by kernel_rfl) tame_ok sp_containsV3_ok
def bhas (x : (((List I3) × ((List I2) × ((List I3) × (List I9)))) × Int)) : Bool :=
 (if (x.2 ≥ (0:Int)) then
 (decide (x.2 < (x.1.2.2.2.length:Int))) else
 false)
def bhas_pre (_ : (((List I3) × ((List I2) × ((List I3) × (List I9)))) × Int)) : Prop := True
def bhas_t (x : (((List I3) × ((List I2) × ((List I3) × (List I9)))) × Int)) : Tr Bool false :=
 (.i00 (x.2 ≥ z0)
 (.ret (decide (x.2 < (nL x.1.2.2.2))))
 (.ret false))
abbrev bhas_S : FnS := ⟨(.pair (.ptr (Ty.prod (Ty.sl yy3) (Ty.prod (Ty.sl yy2) (Ty.prod (Ty.sl yy3) (Ty.sl yy9))))) (.one yi)),(.one Ty.bool),bhas_pre,bhas⟩
theorem bhas_ok : SpecOk Tryz.prog 27 (fnSpec bhas_S) := SpecOk.tr bhas_S bhas_t (fn := Tryz.f27) tt_ok sp_tame_ok mixed (by kernel_rfl) (ItsOk.nil _ _) (fun x => LpsOk.nil) (fun x => (by kernel_rfl)) fun x Q => (by kernel_rfl)
def sp_bhas : List (Nat × Ev.Spec) := (27,fnSpec bhas_S) :: sp_tame
theorem sp_bhas_ok : SpecsOk Tryz.prog sp_bhas := SpecsOk.add (fn := Tryz.f27) (by kernel_rfl) bhas_ok sp_tame_ok
def bpoints (x : (((List I3) × ((List I2) × ((List I3) × (List I9)))) × Int)) : I9 :=
 ((List.getD x.1.1 (Int.toNat (List.getD x.1.2.2.2 (Int.toNat x.2) (((0:Int),((0:Int),(0:Int))),(((0:Int),((0:Int),(0:Int))),((0:Int),((0:Int),(0:Int)))))).1.1) ((0:Int),((0:Int),(0:Int)))),((List.getD x.1.1 (Int.toNat (List.getD x.1.2.2.2 (Int.toNat x.2) (((0:Int),((0:Int),(0:Int))),(((0:Int),((0:Int),(0:Int))),((0:Int),((0:Int),(0:Int)))))).2.1.1) ((0:Int),((0:Int),(0:Int)))),(List.getD x.1.1 (Int.toNat (List.getD x.1.2.2.2 (Int.toNat x.2) (((0:Int),((0:Int),(0:Int))),(((0:Int),((0:Int),(0:Int))),((0:Int),((0:Int),(0:Int)))))).2.2.1) ((0:Int),((0:Int),(0:Int))))))
def bpoints_pre (x : (((List I3) × ((List I2) × ((List I3) × (List I9)))) × Int)) : Prop :=
 ((((0:Int) ≤ x.2) ∧ (x.2 < (x.1.2.2.2.length:Int))) ∧
 (((Int.toNat x.2) < (List.length x.1.2.2.2)) ∧
 (((Int.toNat x.2) < (List.length x.1.2.2.2)) ∧
 ((((0:Int) ≤ (List.getD x.1.2.2.2 (Int.toNat x.2) (((0:Int),((0:Int),(0:Int))),(((0:Int),((0:Int),(0:Int))),((0:Int),((0:Int),(0:Int)))))).1.1) ∧ ((List.getD x.1.2.2.2 (Int.toNat x.2) (((0:Int),((0:Int),(0:Int))),(((0:Int),((0:Int),(0:Int))),((0:Int),((0:Int),(0:Int)))))).1.1 < (x.1.1.length:Int))) ∧
 (((Int.toNat (List.getD x.1.2.2.2 (Int.toNat x.2) (((0:Int),((0:Int),(0:Int))),(((0:Int),((0:Int),(0:Int))),((0:Int),((0:Int),(0:Int)))))).1.1) < (List.length x.1.1)) ∧
 (((Int.toNat (List.getD x.1.2.2.2 (Int.toNat x.2) (((0:Int),((0:Int),(0:Int))),(((0:Int),((0:Int),(0:Int))),((0:Int),((0:Int),(0:Int)))))).1.1) < (List.length x.1.1)) ∧
 ((((0:Int) ≤ (List.getD x.1.2.2.2 (Int.toNat x.2) (((0:Int),((0:Int),(0:Int))),(((0:Int),((0:Int),(0:Int))),((0:Int),((0:Int),(0:Int)))))).2.1.1) ∧ ((List.getD x.1.2.2.2 (Int.toNat x.2) (((0:Int),((0:Int),(0:Int))),(((0:Int),((0:Int),(0:Int))),((0:Int),((0:Int),(0:Int)))))).2.1.1 < (x.1.1.length:Int))) ∧
 (((Int.toNat (List.getD x.1.2.2.2 (Int.toNat x.2) (((0:Int),((0:Int),(0:Int))),(((0:Int),((0:Int),(0:Int))),((0:Int),((0:Int),(0:Int)))))).2.1.1) < (List.length x.1.1)) ∧
 (((Int.toNat (List.getD x.1.2.2.2 (Int.toNat x.2) (((0:Int),((0:Int),(0:Int))),(((0:Int),((0:Int),(0:Int))),((0:Int),((0:Int),(0:Int)))))).2.1.1) < (List.length x.1.1)) ∧
 ((((0:Int) ≤ (List.getD x.1.2.2.2 (Int.toNat x.2) (((0:Int),((0:Int),(0:Int))),(((0:Int),((0:Int),(0:Int))),((0:Int),((0:Int),(0:Int)))))).2.2.1) ∧ ((List.getD x.1.2.2.2 (Int.toNat x.2) (((0:Int),((0:Int),(0:Int))),(((0:Int),((0:Int),(0:Int))),((0:Int),((0:Int),(0:Int)))))).2.2.1 < (x.1.1.length:Int))) ∧
 (((Int.toNat (List.getD x.1.2.2.2 (Int.toNat x.2) (((0:Int),((0:Int),(0:Int))),(((0:Int),((0:Int),(0:Int))),((0:Int),((0:Int),(0:Int)))))).2.2.1) < (List.length x.1.1)) ∧
 ((Int.toNat (List.getD x.1.2.2.2 (Int.toNat x.2) (((0:Int),((0:Int),(0:Int))),(((0:Int),((0:Int),(0:Int))),((0:Int),((0:Int),(0:Int)))))).2.2.1) < (List.length x.1.1)))))))))))))
def bpoints_t (x : (((List I3) × ((List I2) × ((List I3) × (List I9)))) × Int)) : Tr I9 true :=
 (.oI2 x.2 x.1.2.2.2
 (.oI2 (gT x.1.2.2.2 x.2 zz9).1.1 x.1.1
 (.oI2 (gT x.1.2.2.2 x.2 zz9).2.1.1 x.1.1
 (.oI2 (gT x.1.2.2.2 x.2 zz9).2.2.1 x.1.1
 (.ret ((gT x.1.1 (gT x.1.2.2.2 x.2 zz9).1.1 zz3),((gT x.1.1 (gT x.1.2.2.2 x.2 zz9).2.1.1 zz3),(gT x.1.1 (gT x.1.2.2.2 x.2 zz9).2.2.1 zz3))))))))
abbrev bpoints_S : FnS := ⟨(.pair (.ptr (Ty.prod (Ty.sl yy3) (Ty.prod (Ty.sl yy2) (Ty.prod (Ty.sl yy3) (Ty.sl yy9))))) (.one yi)),(.agg yy9),bpoints_pre,bpoints⟩
theorem bpoints_ok : SpecOk Tryz.prog 49 (fnSpec bpoints_S) := SpecOk.tr bpoints_S bpoints_t (fn := Tryz.f49) tt_ok sp_bhas_ok mixed (by kernel_rfl) (ItsOk.nil _ _) (fun x => (LpsOk.unrollT tt_ok (SpecsOk.ctxI sp_bhas_ok (ItsOk.nil _ _)) mixed 0 4 LpsOk.nil (by kernel_rfl))) (fun x => (by kernel_rfl)) fun x Q => (by kernel_rfl)
def sp_bpoints : List (Nat × Ev.Spec) := (49,fnSpec bpoints_S) :: sp_bhas
theorem sp_bpoints_ok : SpecsOk Tryz.prog sp_bpoints := SpecsOk.add (fn := Tryz.f49) (by kernel_rfl) bpoints_ok sp_bhas_ok
def bway (x : (((List I3) × ((List I2) × ((List I3) × (List I9)))) × Int)) : (I2 × Bool) :=
 (letV (bhas x) fun y =>
 (if ((!y) = true) then
 (((0:Int),(0:Int)),false) else
 (letV (bpoints x) fun y_1 =>
 (letV (sfacing y_1) fun y_2 =>
 ((y_2.1,y_2.2.1),(y_2.2.2 == (0:Int)))))))
def bway_pre (x : (((List I3) × ((List I2) × ((List I3) × (List I9)))) × Int)) : Prop :=
 (letP (bhas x) fun y =>
 (¬ ((!y) = true) →
 ((bpoints_pre x) ∧
 letP (bpoints x) fun y_1 =>
 (sfacing_pre y_1))))
def bway_t (x : (((List I3) × ((List I2) × ((List I3) × (List I9)))) × Int)) : Tr (I2 × Bool) true :=
 (.fn0 bhas_S x trivial fun y =>
 (.b01 (!y)
 (.ret (zz2,false))
 (.fn bpoints_S x fun y_1 =>
 (.fn sfacing_S y_1 fun y_2 =>
 (.ret ((y_2.1,y_2.2.1),(y_2.2.2 == z0)))))))
abbrev bway_S : FnS := ⟨(.pair (.ptr (Ty.prod (Ty.sl yy3) (Ty.prod (Ty.sl yy2) (Ty.prod (Ty.sl yy3) (Ty.sl yy9))))) (.one yi)),(.pair (.agg yy2) (.one Ty.bool)),bway_pre,bway⟩
theorem bway_ok : SpecOk Tryz.prog 23 (fnSpec bway_S) := SpecOk.tr bway_S bway_t (fn := Tryz.f23) tt_ok sp_bpoints_ok mixed (by kernel_rfl) (ItsOk.nil _ _) (fun x => LpsOk.nil) (fun x => (by kernel_rfl)) fun x Q => (by kernel_rfl)
def sp_bway : List (Nat × Ev.Spec) := (23,fnSpec bway_S) :: sp_bpoints
theorem sp_bway_ok : SpecsOk Tryz.prog sp_bway := SpecsOk.add (fn := Tryz.f23) (by kernel_rfl) bway_ok sp_bpoints_ok
def bshadow (x : (((List I3) × ((List I2) × ((List I3) × (List I9)))) × I2)) : I6 :=
 (letV (bpoints (x.1,x.2.1)) fun y =>
 (letV (vdrop (y.1,x.2.2)) fun y_1 =>
 (letV (vdrop (y.2.1,x.2.2)) fun y_2 =>
 (letV (vdrop (y.2.2,x.2.2)) fun y_3 =>
 (y_1.1,(y_2.1,y_3.1))))))
def bshadow_pre (x : (((List I3) × ((List I2) × ((List I3) × (List I9)))) × I2)) : Prop :=
 ((bpoints_pre (x.1,x.2.1)) ∧
 letP (bpoints (x.1,x.2.1)) fun y =>
 ((vdrop_pre (y.1,x.2.2)) ∧
 letP (vdrop (y.1,x.2.2)) fun y_1 =>
 ((vdrop_pre (y.2.1,x.2.2)) ∧
 letP (vdrop (y.2.1,x.2.2)) fun y_2 =>
 (vdrop_pre (y.2.2,x.2.2)))))
def bshadow_t (x : (((List I3) × ((List I2) × ((List I3) × (List I9)))) × I2)) : Tr I6 true :=
 (.fn bpoints_S (x.1,x.2.1) fun y =>
 (.fn vdrop_S (y.1,x.2.2) fun y_1 =>
 (.fn vdrop_S (y.2.1,x.2.2) fun y_2 =>
 (.fn vdrop_S (y.2.2,x.2.2) fun y_3 =>
 (.ret (y_1.1,(y_2.1,y_3.1)))))))
abbrev bshadow_S : FnS := ⟨(.pair (.ptr (Ty.prod (Ty.sl yy3) (Ty.prod (Ty.sl yy2) (Ty.prod (Ty.sl yy3) (Ty.sl yy9))))) (.pair (.one yi) (.one yi))),(.agg yy6),bshadow_pre,bshadow⟩
theorem bshadow_ok : SpecOk Tryz.prog 28 (fnSpec bshadow_S) := SpecOk.tr bshadow_S bshadow_t (fn := Tryz.f28) tt_ok sp_bway_ok mixed (by kernel_rfl) (ItsOk.nil _ _) (fun x => (LpsOk.unrollT tt_ok (SpecsOk.ctxI sp_bway_ok (ItsOk.nil _ _)) mixed 0 4 LpsOk.nil (by kernel_rfl))) (fun x => (by kernel_rfl)) fun x Q => (by kernel_rfl)
def sp_bshadow : List (Nat × Ev.Spec) := (28,fnSpec bshadow_S) :: sp_bway
theorem sp_bshadow_ok : SpecsOk Tryz.prog sp_bshadow := SpecsOk.add (fn := Tryz.f28) (by kernel_rfl) bshadow_ok sp_bway_ok
def facing_i0 : ItsB Tryz.prog := ⟨_,(ItsOk.walk tt_ok sp_bshadow_ok mixed 22 (fn := Tryz.f22) (by kernel_rfl) (ItsOk.nil _ _) fun ys hy => LpsOk.nil)⟩
def facing (x : (((List I3) × ((List I2) × ((List I3) × (List I9)))) × Int)) : (Int × (Int × Bool)) :=
 (letV (tame x.1) fun y =>
 (if ((!y) = true) then
 ((0:Int),((0:Int),false)) else
 (letV (bway x) fun y_1 =>
 (y_1.1.1,(y_1.1.2,y_1.2)))))
def facing_pre (x : (((List I3) × ((List I2) × ((List I3) × (List I9)))) × Int)) : Prop :=
 ((tame_pre x.1) ∧
 letP (tame x.1) fun y =>
 (¬ ((!y) = true) →
 (bway_pre x)))
def facing_t (x : (((List I3) × ((List I2) × ((List I3) × (List I9)))) × Int)) : Tr (Int × (Int × Bool)) true :=
 (.allE
 (.fn tame_S x.1 fun y =>
 (.pn 0 5
 (.b01 (!y)
 (.ret (z0,(z0,false)))
 (.fn bway_S x fun y_1 =>
 (.ret (y_1.1.1,(y_1.1.2,y_1.2))))))))
abbrev facing_S : FnS := ⟨(.pair (.agg (Ty.prod (Ty.sl yy3) (Ty.prod (Ty.sl yy2) (Ty.prod (Ty.sl yy3) (Ty.sl yy9))))) (.one yi)),(.pair (.one yi) (.pair (.one yi) (.one Ty.bool))),facing_pre,facing⟩
theorem facing_ok : SpecOk Tryz.prog 6 (fnSpec facing_S) := SpecOk.tr facing_S facing_t (fn := Tryz.f6) tt_ok sp_bshadow_ok mixed (by kernel_rfl) facing_i0.ok (fun x => LpsOk.nil) (fun x => (by kernel_rfl)) fun x Q => (by kernel_rfl)
def sp_facing : List (Nat × Ev.Spec) := (6,fnSpec facing_S) :: sp_bshadow
theorem sp_facing_ok : SpecsOk Tryz.prog sp_facing := SpecsOk.add (fn := Tryz.f6) (by kernel_rfl) facing_ok sp_bshadow_ok
def shadow_i0 : ItsB Tryz.prog := ⟨_,(ItsOk.walk tt_ok sp_facing_ok mixed 22 (fn := Tryz.f22) (by kernel_rfl) (ItsOk.nil _ _) fun ys hy => LpsOk.nil)⟩
def shadow (x : (((List I3) × ((List I2) × ((List I3) × (List I9)))) × I2)) : (I6 × Int) :=
 (letV (tame x.1) fun y =>
 (if ((!y) = true) then
 ((((0:Int),(0:Int)),(((0:Int),(0:Int)),((0:Int),(0:Int)))),(1:Int)) else
 (letV (bhas (x.1,x.2.1)) fun y_1 =>
 (if ((!y_1) = true) then
 ((((0:Int),(0:Int)),(((0:Int),(0:Int)),((0:Int),(0:Int)))),(1:Int)) else
 (if (x.2.2 < (0:Int)) then
 ((((0:Int),(0:Int)),(((0:Int),(0:Int)),((0:Int),(0:Int)))),(1:Int)) else
 (if (x.2.2 ≥ (3:Int)) then
 ((((0:Int),(0:Int)),(((0:Int),(0:Int)),((0:Int),(0:Int)))),(1:Int)) else
 (letV (bshadow x) fun y_2 =>
 (y_2,(0:Int)))))))))
def shadow_pre (x : (((List I3) × ((List I2) × ((List I3) × (List I9)))) × I2)) : Prop :=
 ((tame_pre x.1) ∧
 letP (tame x.1) fun y =>
 (¬ ((!y) = true) →
 (letP (bhas (x.1,x.2.1)) fun y_1 =>
 (¬ ((!y_1) = true) →
 (¬ (x.2.2 < (0:Int)) →
 (¬ (x.2.2 ≥ (3:Int)) →
 (bshadow_pre x)))))))
def shadow_t (x : (((List I3) × ((List I2) × ((List I3) × (List I9)))) × I2)) : Tr (I6 × Int) true :=
 (.allE
 (.fn tame_S x.1 fun y =>
 (.pn 0 6
 (.b01 (!y)
 (.ret (zz6,z1))
 (.fn0 bhas_S (x.1,x.2.1) trivial fun y_1 =>
 (.b01 (!y_1)
 (.ret (zz6,z1))
 (.i01 (x.2.2 < z0)
 (.ret (zz6,z1))
 (.i01 (x.2.2 ≥ (3:Int))
 (.ret (zz6,z1))
 (.fn bshadow_S x fun y_2 =>
 (.ret (y_2,z0)))))))))))
abbrev shadow_S : FnS := ⟨(.pair (.agg (Ty.prod (Ty.sl yy3) (Ty.prod (Ty.sl yy2) (Ty.prod (Ty.sl yy3) (Ty.sl yy9))))) (.pair (.one yi) (.one yi))),(.pair (.agg yy6) (.one yi)),shadow_pre,shadow⟩
theorem shadow_ok : SpecOk Tryz.prog 8 (fnSpec shadow_S) := SpecOk.tr shadow_S shadow_t (fn := Tryz.f8) tt_ok sp_facing_ok mixed (by kernel_rfl) shadow_i0.ok (fun x => LpsOk.nil) (fun x => (by kernel_rfl)) fun x Q => (by kernel_rfl)
def sp_shadow : List (Nat × Ev.Spec) := (8,fnSpec shadow_S) :: sp_facing
theorem sp_shadow_ok : SpecsOk Tryz.prog sp_shadow := SpecsOk.add (fn := Tryz.f8) (by kernel_rfl) shadow_ok sp_facing_ok
def mside (x : (I2 × (I2 × (I2 × Int)))) : Int :=
 (letV (sside (x.2.1,(x.2.2.1,x.1))) fun y =>
 (w64 (x.2.2.2 * y.1)))
def mside_pre (x : (I2 × (I2 × (I2 × Int)))) : Prop :=
 (sside_pre (x.2.1,(x.2.2.1,x.1)))
def mside_t (x : (I2 × (I2 × (I2 × Int)))) : Tr Int true :=
 (.fn sside_S (x.2.1,(x.2.2.1,x.1)) fun y =>
 (.ret (w64 (x.2.2.2 * y.1))))
abbrev mside_S : FnS := ⟨(.pair (.agg yy2) (.pair (.ptr (.prod (.int .i64) (.int .i64))) (.pair (.ptr (.prod (.int .i64) (.int .i64))) (.ptr (.int .i64))))),(.one yi),mside_pre,mside⟩
theorem mside_ok : SpecOk Tryz.prog 115 (fnSpec mside_S) := SpecOk.tr mside_S mside_t (fn := Tryz.f115) tt_ok sp_shadow_ok mixed (by kernel_rfl) (ItsOk.nil _ _) (fun x => LpsOk.nil) (fun x => (by kernel_rfl)) fun x Q => (by kernel_rfl)
def sp_mside : List (Nat × Ev.Spec) := (115,fnSpec mside_S) :: sp_shadow
theorem sp_mside_ok : SpecsOk Tryz.prog sp_mside := SpecsOk.add (fn := Tryz.f115) (by kernel_rfl) mside_ok sp_shadow_ok
end Go.Proofs.YtkbmjhabfjgoiaaGreat

namespace Go.Proofs.YtkbmjhabfjgoiaaGreat
open Go Go.Ev Go.Proofs
abbrev P3 : Type := Int × (Int × Int)
abbrev T3 : Type := P3 × (P3 × P3)
abbrev P2 : Type := Int × Int
abbrev T2 : Type := P2 × (P2 × P2)
abbrev Msh : Type := List P3 × (List P2 × (List P3 × List T3))
theorem among_law (i n:Int) (b : Bool) : among (i,(n,b)) = (decide (0 ≤ i ∧ i < n) || (b && i == -1)) := by
 unfold among
 dsimp only
 cases b <;> simp only [Bool.false_eq_true,if_false,if_true,Bool.false_and,Bool.or_false,Bool.true_and]
 ·by_cases h : i ≥ 0
  ·by_cases h2 : i < n
   ·rw [if_pos h,if_pos h2,decide_eq_true ⟨h,h2⟩]
   ·rw [if_pos h,if_neg h2,decide_eq_false (fun q => h2 q.2)]
  ·rw [if_neg h,decide_eq_false (fun q => h q.1)]
 ·by_cases h : i ≥ 0
  ·by_cases h2 : i < n
   ·rw [if_pos h,if_pos h2,decide_eq_true ⟨h,h2⟩]; rfl
   ·rw [if_pos h,if_neg h2,decide_eq_false (fun q => h2 q.2)]; rfl
  ·rw [if_neg h,decide_eq_false (fun q => h q.1)]; rfl
theorem ite_and {α : Type} {b c : Bool} {A B X : α} (h : X = if (!c) = true then A else B) : (if (!b) = true then A else X) = if (!(b && c)) = true then A else B := by
 cases b <;> simp [h]
def triB (m : Msh) (t : T3) : Bool :=
 among (t.1.1,(((m.1.length:Nat):Int),false)) && (among (t.1.2.1,(((m.2.1.length:Nat):Int),true)) && (among (t.1.2.2,(((m.2.2.1.length:Nat):Int),true)) && ((decide (t.1.2.1 < 0) == decide (t.1.2.1 < 0)) && ((decide (t.1.2.2 < 0) == decide (t.1.2.2 < 0)) &&
 (among (t.2.1.1,(((m.1.length:Nat):Int),false)) && (among (t.2.1.2.1,(((m.2.1.length:Nat):Int),true)) && (among (t.2.1.2.2,(((m.2.2.1.length:Nat):Int),true)) && ((decide (t.2.1.2.1 < 0) == decide (t.1.2.1 < 0)) && ((decide (t.2.1.2.2 < 0) == decide (t.1.2.2 < 0)) &&
 (among (t.2.2.1,(((m.1.length:Nat):Int),false)) && (among (t.2.2.2.1,(((m.2.1.length:Nat):Int),true)) && (among (t.2.2.2.2,(((m.2.2.1.length:Nat):Int),true)) && ((decide (t.2.2.2.1 < 0) == decide (t.1.2.1 < 0)) && (decide (t.2.2.2.2 < 0) == decide (t.1.2.2 < 0)))))))))))))))
theorem triB_v {m : Msh} {t : T3} (h : triB m t = true) : (0 ≤ t.1.1 ∧ t.1.1 < m.1.length) ∧ (0 ≤ t.2.1.1 ∧ t.2.1.1 < m.1.length) ∧ (0 ≤ t.2.2.1 ∧ t.2.2.1 < m.1.length) := by
 unfold triB at h
 simp only [Bool.and_eq_true,among_law,Bool.false_and,Bool.or_false,decide_eq_true_eq] at h
 exact ⟨h.1,h.2.2.2.2.2.1,h.2.2.2.2.2.2.2.2.2.2.1⟩
def fewB (m : Msh) : Bool := decide (m.1.length ≤ 2000 ∧ m.2.1.length ≤ 2000 ∧ m.2.2.1.length ≤ 2000 ∧ m.2.2.2.length ≤ 500)
theorem max3 (a b c k:Int) : maxI (maxI a b) c ≤ k ↔ a ≤ k ∧ b ≤ k ∧ c ≤ k := by
 unfold maxI; split <;> split <;> omega
theorem min3 (a b c k:Int) : k ≤ minI (minI a b) c ↔ k ≤ a ∧ k ≤ b ∧ k ≤ c := by
 unfold minI; split <;> split <;> omega
theorem mfew_law (m : Msh) : mfew m = fewB m := by
 obtain ⟨a,b,c,d⟩ := m
 unfold mfew fewB
 dsimp only
 rw [Bool.eq_iff_iff,decide_eq_true_iff]
 split
 ·rename_i h
  rw [max3] at h
  rw [decide_eq_true_iff]; omega
 ·rename_i h
  rw [max3] at h
  refine ⟨fun h => (by cases h),fun q => absurd ?_ h⟩
  omega
def meshB (m : Msh) : Bool := fewB m && decide (∀ p ∈ m.1,Is30 p) && decide (∀ p ∈ m.2.1,Is20 p) && decide (∀ p ∈ m.2.2.1,Is30 p) && m.2.2.2.all (triB m)
theorem any_not {α : Type} (l : List α) (f : α → Bool) : (!l.any fun x => !f x) = l.all f := by
 induction l with
 | nil => rfl
 | cons a r ih => simp only [List.any_cons,List.all_cons,Bool.not_or,Bool.not_not,ih]
theorem meshis_l (m : Msh) (h : m.2.2.2.length ≤ 500) : Term (meshis_l0_step m) (meshis_l0_pre m) 0 ∧ Sum.elim (fun _ => false) (fun _ => true) (run (meshis_l0_step m) 0) = m.2.2.2.all (triB m) := by
 rw [← any_not]
 refine all_loop m.2.2.2 (by omega) (fun t => !triB m t) _ _ (fun i hi => ?_) (fun i t ht => ?_) ?_
 ·unfold meshis_l0_pre
  intro h
  simp only [Int.toNat_natCast]
  exact ⟨⟨by omega,h⟩,by omega,by omega⟩
 ·have hlt := lt_of_get ht
  unfold meshis_l0_step
  rw [if_pos (by omega),Int.toNat_natCast,getD_of ht]
  dsimp only [letV]
  unfold triB
  exact ite_and (ite_and (ite_and (ite_and (ite_and (ite_and (ite_and (ite_and (ite_and (ite_and (ite_and (ite_and (ite_and (ite_and rfl)))))))))))))
 ·unfold meshis_l0_step
  rw [if_neg (by omega)]
theorem few_len {m : Msh} (h : fewB m = true) : m.1.length ≤ 2000 ∧ m.2.1.length ≤ 2000 ∧ m.2.2.1.length ≤ 2000 ∧ m.2.2.2.length ≤ 500 := by
 unfold fewB at h; exact of_decide_eq_true h
theorem meshis_law (m : Msh) : meshis_pre m ∧ meshis m = meshB m := by
 unfold meshis_pre meshis meshB
 dsimp only [letP,letV]
 rw [mfew_law]
 cases hf : fewB m with
 | false => exact ⟨fun h => absurd rfl h,rfl⟩
 | true =>
  obtain ⟨h1,h2,h3,h4⟩ := few_len hf
  rw [(is3_law m.1 (by omega)).2,(is2_law m.2.1 (by omega)).2,(is3_law m.2.2.1 (by omega)).2,(meshis_l m h4).2]
  refine ⟨fun _ => ⟨(is3_law m.1 (by omega)).1,fun _ => ⟨(is2_law m.2.1 (by omega)).1,fun _ => ⟨(is3_law m.2.2.1 (by omega)).1,fun _ => (meshis_l m h4).1⟩⟩⟩,?_⟩
  generalize decide (∀ p ∈ m.1,Is30 p) = b1
  generalize decide (∀ p ∈ m.2.1,Is20 p) = b2
  generalize decide (∀ p ∈ m.2.2.1,Is30 p) = b3
  cases b1 <;> cases b2 <;> cases b3 <;> simp
abbrev Nr (p : P3) : Prop := (-4096 ≤ p.1 ∧ p.1 ≤ 4096) ∧ (-4096 ≤ p.2.1 ∧ p.2.1 ≤ 4096) ∧ (-4096 ≤ p.2.2 ∧ p.2.2 ≤ 4096)
theorem far_law (p : P3) : far p = !decide (Nr p) := by
 obtain ⟨x,y,z⟩ := p
 have h1 := max3 x y z 4096
 have h2 := min3 x y z (-4096)
 unfold far
 dsimp only
 rw [Bool.eq_iff_iff,Bool.not_eq_true',decide_eq_false_iff_not]
 split
 ·exact ⟨fun _ => by dsimp only [Nr]; omega,fun _ => rfl⟩
 ·rw [decide_eq_true_iff]
  dsimp only [Nr]; omega
theorem index_loop {α : Type} (l : List α) (hl : l.length < 4611686018427387904) (bad : α → Bool) (step : Int → Int ⊕ (Int ⊕ Unit)) (pre : Int → Prop)
  (hp : ∀ i : Nat,i ≤ l.length → pre i)
  (hs : ∀ (i:Nat) (x : α),l[i]? = some x → step i = if bad x = true then .inr (.inl i) else .inl (w64 ((i:Int) + 1)))
  (he : step l.length = .inr (.inr ())) : Term step pre 0 ∧ Sum.elim (fun a => a) (fun _ => -1) (run step 0) = match l.findIdx? bad with | some i => (i:Int) | none => -1 := by
 have key : ∀ i : Nat,i ≤ l.length → (∀ j x,j < i → l[j]? = some x → bad x = false) → True := fun _ _ _ => trivial
 obtain ⟨h1,h2⟩ := loop_inv (step := step) (pre := pre) (fun s => ∃ i : Nat,s = i ∧ i ≤ l.length ∧ ∀ j x,j < i → l[j]? = some x → bad x = false) (fun s => l.length - s.toNat)
  (fun r => Sum.elim (fun a => a) (fun _ => -1) r = match l.findIdx? bad with | some i => (i:Int) | none => -1) (fun s ⟨i,e,hi,hb⟩ => by
   subst e
   refine ⟨hp i hi,fun s' h => ?_,fun r h => ?_⟩
   ·rcases Nat.lt_or_ge i l.length with hlt | hge
    ·have hg := List.getElem?_eq_getElem hlt
     rw [hs i _ hg] at h
     split at h
     ·cases h
     ·rename_i hn
      cases h
      refine ⟨⟨i + 1,by rw [w64_id (by omega) (by omega)]; rfl,hlt,fun j x hj hx => ?_⟩,?_⟩
      ·rcases Nat.lt_or_ge j i with h1 | h1
       ·exact hb j x h1 hx
       ·have : j = i := by omega
        subst this
        rw [hg] at hx; cases hx
        simpa using hn
      ·rw [w64_id (by omega) (by omega),Int.toNat_natCast,show ((i:Int) + 1).toNat = i + 1 by omega]; omega
    ·have : i = l.length := by omega
     subst this
     rw [he] at h; cases h
   ·rcases Nat.lt_or_ge i l.length with hlt | hge
    ·have hg := List.getElem?_eq_getElem hlt
     rw [hs i _ hg] at h
     split at h
     ·rename_i hy
      cases h
      have : l.findIdx? bad = some i := by
       rw [List.findIdx?_eq_some_iff_getElem]
       refine ⟨hlt,hy,fun j hj => ?_⟩
       rw [hb j _ hj (List.getElem?_eq_getElem (by omega))]; simp
      rw [this]; rfl
     ·cases h
    ·have : i = l.length := by omega
     subst this
     rw [he] at h; cases h
     have : l.findIdx? bad = none := by
      rw [List.findIdx?_eq_none_iff]
      intro x hx
      obtain ⟨j,hj,rfl⟩ := List.getElem_of_mem hx
      exact hb j _ hj (List.getElem?_eq_getElem hj)
     rw [this]; rfl) 0 ⟨0,rfl,Nat.zero_le _,fun j x hj => absurd hj (Nat.not_lt_zero _)⟩
 exact ⟨h1,h2⟩
theorem find_any {α : Type} (l : List α) (bad : α → Bool) : decide ((match l.findIdx? bad with | some i => (i:Int) | none => -1) ≥ 0) = l.any bad := by
 cases h : l.findIdx? bad with
 | none =>
  rw [List.findIdx?_eq_none_iff] at h
  symm
  simp only [List.any_eq_false]
  refine Eq.trans ?_ (by decide : false = decide ((-1:Int) ≥ 0))
  rw [List.any_eq_false]
  exact fun x hx => by rw [h x hx]; simp
 | some i =>
  rw [List.findIdx?_eq_some_iff_getElem] at h
  obtain ⟨h1,h2,_⟩ := h
  have : l.any bad = true := List.any_eq_true.2 ⟨_,List.getElem_mem h1,h2⟩
  rw [this]
  exact decide_eq_true (by dsimp only; omega)
theorem containsV3_law (l : List P3) (hl : l.length < 4611686018427387904) (b : Bool) : containsV3_pre (l,b) ∧ containsV3 (l,b) = !decide (∀ p ∈ l,Nr p) := by
 have hh := index_loop l hl far (indexV3_l0_step (l,false)) (indexV3_l0_pre (l,false)) (fun i hi => by
   unfold indexV3_l0_pre
   intro h
   simp only [Int.toNat_natCast]; dsimp only at h ⊢; omega) (fun i x hx => by
   have hlt := lt_of_get hx
   unfold indexV3_l0_step
   dsimp only [letV]
   rw [if_pos (by omega),Int.toNat_natCast,getD_of hx]) (by
   unfold indexV3_l0_step
   dsimp only
   rw [if_neg (by omega)])
 refine ⟨hh.1,?_⟩
 unfold containsV3 indexV3
 dsimp only [letV]
 rw [hh.2,find_any]
 rw [Bool.eq_iff_iff,List.any_eq_true,Bool.not_eq_true',decide_eq_false_iff_not]
 constructor
 ·rintro ⟨x,h1,h2⟩ h3
  rw [far_law,Bool.not_eq_true',decide_eq_false_iff_not] at h2
  exact h2 (h3 x h1)
 ·intro h
  refine Classical.byContradiction fun h2 => h fun p hp => Classical.byContradiction fun h3 => h2 ⟨p,hp,?_⟩
  rw [far_law,Bool.not_eq_true',decide_eq_false_iff_not]; exact h3
def tameB (m : Msh) : Bool := meshB m && decide (∀ p ∈ m.1,Nr p)
theorem mesh_len {m : Msh} (h : meshB m = true) : m.1.length ≤ 2000 ∧ m.2.1.length ≤ 2000 ∧ m.2.2.1.length ≤ 2000 ∧ m.2.2.2.length ≤ 500 := by
 unfold meshB at h
 simp only [Bool.and_eq_true] at h
 exact few_len h.1.1.1.1
theorem tame_law (m : Msh) : tame_pre m ∧ tame m = tameB m := by
 unfold tame_pre tame tameB
 dsimp only [letP,letV]
 rw [(meshis_law m).2]
 refine ⟨⟨(meshis_law m).1,fun h => (containsV3_law _ (by have := mesh_len h; omega) _).1⟩,?_⟩
 cases h : meshB m with
 | false => rfl
 | true =>
  rw [if_pos rfl,(containsV3_law _ (by have := mesh_len h; omega) _).2,Bool.not_not,Bool.true_and]
def Pt (m : Msh) (i:Int) : P3 := m.1.getD i.toNat (0,(0,0))
def Trg (m : Msh) (i:Int) : T3 := m.2.2.2.getD i.toNat ((0,(0,0)),((0,(0,0)),(0,(0,0))))
def Pts (m : Msh) (i:Int) : T3 := (Pt m (Trg m i).1.1,(Pt m (Trg m i).2.1.1,Pt m (Trg m i).2.2.1))
abbrev Has (m : Msh) (i:Int) : Prop := 0 ≤ i ∧ i < m.2.2.2.length
theorem bhas_law (m : Msh) (i:Int) : bhas (m,i) = decide (Has m i) := by
 unfold bhas
 dsimp only
 by_cases h : i ≥ 0
 ·rw [if_pos h]
  by_cases h2 : i < m.2.2.2.length
  ·rw [decide_eq_true h2,decide_eq_true ⟨h,h2⟩]
  ·rw [decide_eq_false h2,decide_eq_false fun q => h2 q.2]
 ·rw [if_neg h,decide_eq_false fun q => h q.1]
theorem bpoints_law (m : Msh) (i:Int) : bpoints (m,i) = Pts m i := rfl
theorem tr_mem {m : Msh} {i : Int} (h : Has m i) : Trg m i ∈ m.2.2.2 := by
 unfold Trg
 rw [List.getD_eq_getElem?_getD,List.getElem?_eq_getElem (by omega)]
 exact List.getElem_mem _
theorem tame_tri {m : Msh} {i : Int} (hm : tameB m = true) (h : Has m i) : triB m (Trg m i) = true := by
 unfold tameB meshB at hm
 simp only [Bool.and_eq_true,List.all_eq_true] at hm
 exact hm.1.2 _ (tr_mem h)
theorem pt_near {m : Msh} {i : Int} (hm : tameB m = true) (h : 0 ≤ i ∧ i < m.1.length) : Nr (Pt m i) := by
 unfold tameB at hm
 simp only [Bool.and_eq_true,decide_eq_true_eq] at hm
 unfold Pt
 rw [List.getD_eq_getElem?_getD,List.getElem?_eq_getElem (by omega)]
 exact hm.2 _ (List.getElem_mem _)
theorem pts_near {m : Msh} {i : Int} (hm : tameB m = true) (h : Has m i) : Nr (Pts m i).1 ∧ Nr (Pts m i).2.1 ∧ Nr (Pts m i).2.2 := by
 obtain ⟨h1,h2,h3⟩ := triB_v (tame_tri hm h)
 exact ⟨pt_near hm h1,pt_near hm h2,pt_near hm h3⟩
theorem bpoints_tm {m : Msh} {i : Int} (hm : tameB m = true) (h : Has m i) : bpoints_pre (m,i) := by
 obtain ⟨h1,h2,h3⟩ := triB_v (tame_tri hm h)
 unfold Trg at h1 h2 h3
 unfold bpoints_pre
 dsimp only at h1 h2 h3 ⊢
 generalize List.getD m.2.2.2 i.toNat ((0,(0,0)),((0,(0,0)),(0,(0,0)))) = t at h1 h2 h3 ⊢
 exact ⟨⟨h.1,h.2⟩,by omega,by omega,h1,by omega,by omega,h2,by omega,by omega,h3,by omega,by omega⟩
def Shd (m : Msh) (i ax:Int) : T2 := (Dr (Pts m i).1 ax,(Dr (Pts m i).2.1 ax,Dr (Pts m i).2.2 ax))
def Nm (m : Msh) (i:Int) : P3 := Nrm (Pts m i).1 (Pts m i).2.1 (Pts m i).2.2
theorem facing_law (m : Msh) (i:Int) : facing_pre (m,i) ∧ facing (m,i) = if tameB m = true ∧ Has m i then (if Nm m i = (0,(0,0)) then (0,(0,false)) else (Ax (Nm m i),(sg (Cp (Nm m i) (Ax (Nm m i))),true))) else (0,(0,false)) := by
 unfold facing_pre facing bway_pre bway
 dsimp only [letP,letV]
 rw [(tame_law m).2,bhas_law,bpoints_law]
 by_cases hm : tameB m = true
 ·rw [hm]
  by_cases h : Has m i
  ·refine ⟨⟨(tame_law m).1,fun _ _ => ⟨bpoints_tm hm h,sfacing_tm _⟩⟩,?_⟩
   rw [decide_eq_true h,if_neg (by decide),if_neg (by decide),if_pos ⟨rfl,h⟩]
   obtain ⟨n1,n2,n3⟩ := pts_near hm h
   rw [show Pts m i = ((Pts m i).1,((Pts m i).2.1,(Pts m i).2.2)) from rfl,sfacing_law,if_pos ⟨by omega,by omega,by omega⟩]
   unfold Nm
   by_cases hz : Nrm (Pts m i).1 (Pts m i).2.1 (Pts m i).2.2 = (0,(0,0))
   ·rw [if_pos hz,if_pos hz]; rfl
   ·rw [if_neg hz,if_neg hz]; rfl
  ·refine ⟨⟨(tame_law m).1,fun _ h2 => absurd (by rw [decide_eq_false h]; rfl) h2⟩,?_⟩
   rw [decide_eq_false h,if_neg (by decide),if_pos (by decide),if_neg (fun q => h q.2)]
 ·have hf : tameB m = false := by simpa using hm
  rw [hf]
  exact ⟨⟨(tame_law m).1,fun h => absurd rfl h⟩,rfl⟩
theorem shadow_law (m : Msh) (i ax:Int) : shadow_pre (m,(i,ax)) ∧ shadow (m,(i,ax)) = if tameB m = true ∧ Has m i ∧ 0 ≤ ax ∧ ax < 3 then (Shd m i ax,0) else (((0,0),((0,0),(0,0))),1) := by
 unfold shadow_pre shadow bshadow_pre bshadow
 dsimp only [letP,letV]
 rw [(tame_law m).2,bhas_law,bpoints_law]
 by_cases hm : tameB m = true
 ·rw [hm]
  by_cases h : Has m i
  ·refine ⟨⟨(tame_law m).1,fun _ _ _ _ => ⟨bpoints_tm hm h,(vdrop_law _ _).1,(vdrop_law _ _).1,(vdrop_law _ _).1⟩⟩,?_⟩
   rw [decide_eq_true h,if_neg (by decide),if_neg (by decide)]
   by_cases ha : 0 ≤ ax ∧ ax < 3
   ·rw [if_neg (by omega),if_neg (by omega),if_pos ⟨rfl,h,ha⟩,(vdrop_law _ _).2,(vdrop_law _ _).2,(vdrop_law _ _).2,if_pos ha,if_pos ha,if_pos ha]
    rfl
   ·rw [if_neg (c := true = true ∧ _) (fun q => ha q.2.2)]
    by_cases h1 : ax < 0
    ·rw [if_pos h1]
    ·rw [if_neg h1,if_pos (by omega)]
  ·refine ⟨⟨(tame_law m).1,fun _ h2 => absurd (by rw [decide_eq_false h]; rfl) h2⟩,?_⟩
   rw [decide_eq_false h,if_neg (by decide),if_pos (by decide),if_neg (fun q => h q.2.1)]
 ·have hf : tameB m = false := by simpa using hm
  rw [hf]
  exact ⟨⟨(tame_law m).1,fun h => absurd rfl h⟩,rfl⟩
end Go.Proofs.YtkbmjhabfjgoiaaGreat
