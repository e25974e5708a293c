/- Models of functions of layer 15: charts. -/
import Derived.Test.YtkbmjhabfjgoiaaGreatCa
noncomputable section
set_option linter.unusedSectionVars false
set_option linter.unusedVariables false
set_option linter.unusedSimpArgs false
namespace Go.Proofs.YtkbmjhabfjgoiaaGreat
open Go Go.Ev Go.Proofs
def sp_sldel : List (Nat × Ev.Spec) := (32,delSpec) :: sp_pfits
theorem sp_sldel_ok : SpecsOk Tryz.prog sp_sldel := SpecsOk.add (fn := Tryz.f32) (by kernel_rfl) sldel_ok sp_pfits_ok
def plookn (x : (Int × (((List I3) × ((List I2) × ((List I3) × (List I9)))) × (I2 × (List Int))))) : Bool :=
 (letV (plooks (x.2,x.1)) fun y =>
 (!y))
def plookn_pre (x : (Int × (((List I3) × ((List I2) × ((List I3) × (List I9)))) × (I2 × (List Int))))) : Prop :=
 (plooks_pre (x.2,x.1))
def plookn_t (x : (Int × (((List I3) × ((List I2) × ((List I3) × (List I9)))) × (I2 × (List Int))))) : Tr Bool true :=
 (.fnQ plooks_S (x.2,x.1) fun y =>
 (.ret (!y)))
abbrev plookn_S : FnQ := ⟨(.pair (.arg (.one yi)) (.var (.ref vpiece))),(.one Ty.bool),plookn_pre,plookn⟩
theorem plookn_ok : SpecOk Tryz.prog 36 (fnSpecQ plookn_S) := SpecOk.trQ plookn_S plookn_t (fn := Tryz.f36) tt_ok sp_sldel_ok mixed (by kernel_rfl) (ItsOk.nil _ _) (fun x => LpsOk.nil) (fun x => (by kernel_rfl)) fun x Q => (by kernel_rfl)
def sp_plookn : List (Nat × Ev.Spec) := (36,fnSpecQ plookn_S) :: sp_sldel
theorem sp_plookn_ok : SpecsOk Tryz.prog sp_plookn := SpecsOk.add (fn := Tryz.f36) (by kernel_rfl) plookn_ok sp_sldel_ok
def indexL_l0 (x : ((List Int) × (((List I3) × ((List I2) × ((List I3) × (List I9)))) × (I2 × (List Int))))) : LoopD := ⟨[],⟨pvs 19 0 [(0,.v (.one (.full 0))),(1,.v (.one (.clo 36 0 [.elem 1]))),(7,.v (.one (.i .i64))),(8,.v (.one (.i .i64)))],[.row yi 0,.rc [.eptr 2 0],.rc [.eptr 3 0,.i .i64,.i .i64,.full 4],.row (Ty.prod (Ty.sl yy3) (Ty.prod (Ty.sl yy2) (Ty.prod (Ty.sl yy3) (Ty.sl yy9)))) 0,.row yi 0],0,none,[],[0,1,3,4,5,6,7,8,9],[2],[.i],[.n 0,.i (x.1.length:Int),.l yi x.1,.n 0,.n 0,.i x.2.2.1.1,.i x.2.2.1.2,.l (Ty.prod (Ty.sl yy3) (Ty.prod (Ty.sl yy2) (Ty.prod (Ty.sl yy3) (Ty.sl yy9)))) [x.2.1],.l yi x.2.2.2]⟩,[⟨.ret,.ret,⟨pvs 19 0 [(4,.v (.one (.i .i64)))],[],0,none,[],[],[0],[.i],[]⟩⟩,⟨(.exit 0),.normal,⟨pvs 19 0 [],[],0,none,[],[],[],[],[]⟩⟩]⟩
def indexL_l0_step (x : ((List Int) × (((List I3) × ((List I2) × ((List I3) × (List I9)))) × (I2 × (List Int))))) (s:Int) : Int ⊕ (Int ⊕ Unit) :=
 (if (s < (x.1.length:Int)) then
 (letV (plookn ((List.getD x.1 (Int.toNat s) (0:Int)),x.2)) fun y =>
 (if (y = true) then
 (Sum.inr (Sum.inl s)) else
 (Sum.inl (w64 (s + (1:Int)))))) else
 (Sum.inr (Sum.inr (()))))
def indexL_l0_pre (x : ((List Int) × (((List I3) × ((List I2) × ((List I3) × (List I9)))) × (I2 × (List Int))))) (s:Int) : Prop :=
 ((s < (x.1.length:Int)) →
 ((((0:Int) ≤ s) ∧ (s < (x.1.length:Int))) ∧
 (((Int.toNat s) < (List.length x.1)) ∧
 (((Int.toNat s) < (List.length x.1)) ∧
 (plookn_pre ((List.getD x.1 (Int.toNat s) (0:Int)),x.2))))))
def indexL_l0_t (x : ((List Int) × (((List I3) × ((List I2) × ((List I3) × (List I9)))) × (I2 × (List Int))))) (s:Int) : Tr (Int ⊕ (Int ⊕ Unit)) true :=
 (.i10 (s < (nL x.1))
 (.oI2 s x.1
 (.fnQ plookn_S ((gI x.1 s),x.2) fun y =>
 (.b00 y
 (.ret (.inr (Sum.inl s)))
 (.ret (.inl (w1 s))))))
 (.ret (.inr (Sum.inr (())))))
def indexL (x : ((List Int) × (((List I3) × ((List I2) × ((List I3) × (List I9)))) × (I2 × (List Int))))) : Int :=
 (letV (run (indexL_l0_step x) (0:Int)) fun r =>
 (Sum.elim (fun a =>
 a) (fun b =>
 (-1:Int)) r))
def indexL_pre (x : ((List Int) × (((List I3) × ((List I2) × ((List I3) × (List I9)))) × (I2 × (List Int))))) : Prop :=
 (Term (indexL_l0_step x) (indexL_l0_pre x) (0:Int))
def indexL_t (x : ((List Int) × (((List I3) × ((List I2) × ((List I3) × (List I9)))) × (I2 × (List Int))))) : Tr Int true :=
 (LoopD.lp (indexL_l0 x) (indexL_l0_t x) z0 fun r =>
 (.s00 r (fun a =>
 (.ret a)) (fun b =>
 (.ret (-1:Int)))))
abbrev indexL_S : FnQ := ⟨(.pair (.arg (.one (Ty.sl yi))) (.clo 36 (.var (.ref vpiece)))),(.one yi),indexL_pre,indexL⟩
theorem indexL_ok : SpecOk Tryz.prog 30 (fnSpecQ indexL_S) := SpecOk.trQ indexL_S indexL_t (fn := Tryz.f30) tt_ok sp_plookn_ok mixed (by kernel_rfl) (ItsOk.nil _ _) (fun x => (LpsOk.tr tt_ok (SpecsOk.ctxI sp_plookn_ok (ItsOk.nil _ _)) mixed 0 (indexL_l0 x) (indexL_l0_t x) LpsOk.nil (by kernel_rfl) fun g s Q => (by kernel_rfl))) (fun x => (by kernel_rfl)) fun x Q => (by kernel_rfl)
def sp_indexL : List (Nat × Ev.Spec) := (30,altSpecQ indexL_S.p (fnSpecQ indexL_S) (altSpecQ indexP_S.p (fnSpecQ indexP_S) (fnSpecQ indexO_S))) :: sp_plookn
theorem sp_indexL_ok : SpecsOk Tryz.prog sp_indexL := SpecsOk.add (fn := Tryz.f30) (by kernel_rfl) (altSpecQ_ok indexL_ok (altSpecQ_ok indexP_ok (indexO_ok))) sp_plookn_ok
def containsL (x : ((List Int) × (((List I3) × ((List I2) × ((List I3) × (List I9)))) × (I2 × (List Int))))) : Bool :=
 (letV (indexL x) fun y =>
 (decide (y ≥ (0:Int))))
def containsL_pre (x : ((List Int) × (((List I3) × ((List I2) × ((List I3) × (List I9)))) × (I2 × (List Int))))) : Prop :=
 (indexL_pre x)
def containsL_t (x : ((List Int) × (((List I3) × ((List I2) × ((List I3) × (List I9)))) × (I2 × (List Int))))) : Tr Bool true :=
 (.fnQ indexL_S x fun y =>
 (.ret (decide (y ≥ z0))))
abbrev containsL_S : FnQ := ⟨(.pair (.arg (.one (Ty.sl yi))) (.clo 36 (.var (.ref vpiece)))),(.one Ty.bool),containsL_pre,containsL⟩
theorem containsL_ok : SpecOk Tryz.prog 35 (fnSpecQ containsL_S) := SpecOk.trQ containsL_S containsL_t (fn := Tryz.f35) tt_ok sp_indexL_ok mixed (by kernel_rfl) (ItsOk.nil _ _) (fun x => LpsOk.nil) (fun x => (by kernel_rfl)) fun x Q => (by kernel_rfl)
def sp_containsL : List (Nat × Ev.Spec) := (35,altSpecQ containsL_S.p (fnSpecQ containsL_S) (altSpecQ containsP_S.p (fnSpecQ containsP_S) (fnSpecQ containsO_S))) :: sp_indexL
theorem sp_containsL_ok : SpecsOk Tryz.prog sp_containsL := SpecsOk.add (fn := Tryz.f35) (by kernel_rfl) (altSpecQ_ok containsL_ok (altSpecQ_ok containsP_ok (containsO_ok))) sp_indexL_ok
def indexF_l0 (x : ((List Int) × (((List I3) × ((List I2) × ((List I3) × (List I9)))) × (I2 × (List Int))))) : LoopD := ⟨[],⟨pvs 19 0 [(0,.v (.one (.full 0))),(1,.v (.one (.mv 31 false [.elem 1]))),(7,.v (.one (.i .i64))),(8,.v (.one (.i .i64)))],[.row yi 0,.rc [.eptr 2 0,.i .i64,.i .i64,.full 3],.row (Ty.prod (Ty.sl yy3) (Ty.prod (Ty.sl yy2) (Ty.prod (Ty.sl yy3) (Ty.sl yy9)))) 0,.row yi 0],0,none,[],[0,1,3,4,5,6,7,8],[2],[.i],[.n 0,.i (x.1.length:Int),.l yi x.1,.n 0,.i x.2.2.1.1,.i x.2.2.1.2,.l (Ty.prod (Ty.sl yy3) (Ty.prod (Ty.sl yy2) (Ty.prod (Ty.sl yy3) (Ty.sl yy9)))) [x.2.1],.l yi x.2.2.2]⟩,[⟨.ret,.ret,⟨pvs 19 0 [(4,.v (.one (.i .i64)))],[],0,none,[],[],[0],[.i],[]⟩⟩,⟨(.exit 0),.normal,⟨pvs 19 0 [],[],0,none,[],[],[],[],[]⟩⟩]⟩
def indexF_l0_step (x : ((List Int) × (((List I3) × ((List I2) × ((List I3) × (List I9)))) × (I2 × (List Int))))) (s:Int) : Int ⊕ (Int ⊕ Unit) :=
 (if (s < (x.1.length:Int)) then
 (letV (pfits (x.2,(List.getD x.1 (Int.toNat s) (0:Int)))) fun y =>
 (if (y = true) then
 (Sum.inr (Sum.inl s)) else
 (Sum.inl (w64 (s + (1:Int)))))) else
 (Sum.inr (Sum.inr (()))))
def indexF_l0_pre (x : ((List Int) × (((List I3) × ((List I2) × ((List I3) × (List I9)))) × (I2 × (List Int))))) (s:Int) : Prop :=
 ((s < (x.1.length:Int)) →
 ((((0:Int) ≤ s) ∧ (s < (x.1.length:Int))) ∧
 (((Int.toNat s) < (List.length x.1)) ∧
 (((Int.toNat s) < (List.length x.1)) ∧
 (pfits_pre (x.2,(List.getD x.1 (Int.toNat s) (0:Int))))))))
def indexF_l0_t (x : ((List Int) × (((List I3) × ((List I2) × ((List I3) × (List I9)))) × (I2 × (List Int))))) (s:Int) : Tr (Int ⊕ (Int ⊕ Unit)) true :=
 (.i10 (s < (nL x.1))
 (.oI2 s x.1
 (.fnQ pfits_S (x.2,(gI x.1 s)) fun y =>
 (.b00 y
 (.ret (.inr (Sum.inl s)))
 (.ret (.inl (w1 s))))))
 (.ret (.inr (Sum.inr (())))))
def indexF (x : ((List Int) × (((List I3) × ((List I2) × ((List I3) × (List I9)))) × (I2 × (List Int))))) : Int :=
 (letV (run (indexF_l0_step x) (0:Int)) fun r =>
 (Sum.elim (fun a =>
 a) (fun b =>
 (-1:Int)) r))
def indexF_pre (x : ((List Int) × (((List I3) × ((List I2) × ((List I3) × (List I9)))) × (I2 × (List Int))))) : Prop :=
 (Term (indexF_l0_step x) (indexF_l0_pre x) (0:Int))
def indexF_t (x : ((List Int) × (((List I3) × ((List I2) × ((List I3) × (List I9)))) × (I2 × (List Int))))) : Tr Int true :=
 (LoopD.lp (indexF_l0 x) (indexF_l0_t x) z0 fun r =>
 (.s00 r (fun a =>
 (.ret a)) (fun b =>
 (.ret (-1:Int)))))
abbrev indexF_S : FnQ := ⟨(.pair (.arg (.one (Ty.sl yi))) (.mv 31 vpiece)),(.one yi),indexF_pre,indexF⟩
theorem indexF_ok : SpecOk Tryz.prog 30 (fnSpecQ indexF_S) := SpecOk.trQ indexF_S indexF_t (fn := Tryz.f30) tt_ok sp_containsL_ok mixed (by kernel_rfl) (ItsOk.nil _ _) (fun x => (LpsOk.tr tt_ok (SpecsOk.ctxI sp_containsL_ok (ItsOk.nil _ _)) mixed 0 (indexF_l0 x) (indexF_l0_t x) LpsOk.nil (by kernel_rfl) fun g s Q => (by kernel_rfl))) (fun x => (by kernel_rfl)) fun x Q => (by kernel_rfl)
def sp_indexF : List (Nat × Ev.Spec) := (30,altSpecQ indexF_S.p (fnSpecQ indexF_S) (altSpecQ indexL_S.p (fnSpecQ indexL_S) (altSpecQ indexP_S.p (fnSpecQ indexP_S) (fnSpecQ indexO_S)))) :: sp_containsL
theorem sp_indexF_ok : SpecsOk Tryz.prog sp_indexF := SpecsOk.add (fn := Tryz.f30) (by kernel_rfl) (altSpecQ_ok indexF_ok (altSpecQ_ok indexL_ok (altSpecQ_ok indexP_ok (indexO_ok)))) sp_containsL_ok
def cfits_i0 : ItsB Tryz.prog := ⟨_,(ItsOk.walk tt_ok sp_indexF_ok mixed 22 (fn := Tryz.f22) (by kernel_rfl) (ItsOk.nil _ _) fun ys hy => LpsOk.nil)⟩
def cfits (x : (((List I3) × ((List I2) × ((List I3) × (List I9)))) × ((Int × (Int × (List Int))) × Int))) : Bool :=
 (letV (tame x.1) fun y =>
 (if ((!y) = true) then
 false else
 (letV (containsL (x.2.1.2.2,(x.1,((x.2.1.1,x.2.1.2.1),x.2.1.2.2)))) fun y_1 =>
 (if ((!y_1) = true) then
 (letV (pfits ((x.1,((x.2.1.1,x.2.1.2.1),x.2.1.2.2)),x.2.2)) fun y_2 =>
 y_2) else
 false))))
def cfits_pre (x : (((List I3) × ((List I2) × ((List I3) × (List I9)))) × ((Int × (Int × (List Int))) × Int))) : Prop :=
 ((tame_pre x.1) ∧
 letP (tame x.1) fun y =>
 (¬ ((!y) = true) →
 ((containsL_pre (x.2.1.2.2,(x.1,((x.2.1.1,x.2.1.2.1),x.2.1.2.2)))) ∧
 letP (containsL (x.2.1.2.2,(x.1,((x.2.1.1,x.2.1.2.1),x.2.1.2.2)))) fun y_1 =>
 (((!y_1) = true) →
 (pfits_pre ((x.1,((x.2.1.1,x.2.1.2.1),x.2.1.2.2)),x.2.2))))))
def cfits_t (x : (((List I3) × ((List I2) × ((List I3) × (List I9)))) × ((Int × (Int × (List Int))) × Int))) : Tr Bool true :=
 (.allE
 (.fn tame_S x.1 fun y =>
 (.pn 0 7
 (.b01 (!y)
 (.ret false)
 (.fnQ containsL_S (x.2.1.2.2,(x.1,((x.2.1.1,x.2.1.2.1),x.2.1.2.2))) fun y_1 =>
 (.b10 (!y_1)
 (.fnQ pfits_S ((x.1,((x.2.1.1,x.2.1.2.1),x.2.1.2.2)),x.2.2) fun y_2 =>
 (.ret y_2))
 (.ret false)))))))
abbrev cfits_S : FnS := ⟨(.pair (.agg (Ty.prod (Ty.sl yy3) (Ty.prod (Ty.sl yy2) (Ty.prod (Ty.sl yy3) (Ty.sl yy9))))) (.pair (.agg (Ty.prod yi (Ty.prod yi (Ty.sl yi)))) (.one yi))),(.one Ty.bool),cfits_pre,cfits⟩
theorem cfits_ok : SpecOk Tryz.prog 13 (fnSpec cfits_S) := SpecOk.tr cfits_S cfits_t (fn := Tryz.f13) tt_ok sp_indexF_ok mixed (by kernel_rfl) cfits_i0.ok (fun x => LpsOk.nil) (fun x => (by kernel_rfl)) fun x Q => (by kernel_rfl)
def sp_cfits : List (Nat × Ev.Spec) := (13,fnSpec cfits_S) :: sp_indexF
theorem sp_cfits_ok : SpecsOk Tryz.prog sp_cfits := SpecsOk.add (fn := Tryz.f13) (by kernel_rfl) cfits_ok sp_indexF_ok
def cgrow_i0 : ItsB Tryz.prog := ⟨_,(ItsOk.walk tt_ok sp_cfits_ok mixed 22 (fn := Tryz.f22) (by kernel_rfl) (ItsOk.nil _ _) fun ys hy => LpsOk.nil)⟩
def cgrow_l0 (x : ((List I3) × ((List I2) × ((List I3) × (List I9))))) : LoopD := ⟨[],⟨pvs 92 0 [(4,.v (.one (.ptr 0 0))),(6,.v (.one (.full 5))),(24,.v (.one (.i .i64))),(25,.v (.one (.i .i64)))],[.cells [.full 1,.full 2,.full 3,.full 4] 89,.row yy3 0,.row yy2 0,.row yy3 0,.row yy9 0,.row yi 2],0,none,[],[0,2,3,4,5],[6,1],[(.l yi),.i],[.i (x.2.2.2.length:Int),.l yy3 x.1,.l yy2 x.2.1,.l yy3 x.2.2.1,.l yy9 x.2.2.2]⟩,[⟨(.exit 0),.normal,⟨pvs 92 0 [(4,.v (.one (.ptr 0 0))),(6,.v (.one (.full 5)))],[.cells [.full 1,.full 2,.full 3,.full 4] 89,.row yy3 0,.row yy2 0,.row yy3 0,.row yy9 0,.row yi 2],0,none,[],[0,1,2,3],[4],[(.l yi)],[.l yy3 x.1,.l yy2 x.2.1,.l yy3 x.2.2.1,.l yy9 x.2.2.2]⟩⟩]⟩
def cgrow_l0_step (x : ((List I3) × ((List I2) × ((List I3) × (List I9))))) (s : ((List Int) × Int)) : ((List Int) × Int) ⊕ (List Int) :=
 (if (s.2 < (x.2.2.2.length:Int)) then
 (letV (bway (x,s.2)) fun y =>
 (if (y.2 = true) then
 (Sum.inl ((s.1 ++ [s.2]),(w64 (s.2 + (1:Int))))) else
 (Sum.inl (s.1,(w64 (s.2 + (1:Int))))))) else
 (Sum.inr (s.1)))
def cgrow_l0_pre (x : ((List I3) × ((List I2) × ((List I3) × (List I9))))) (s : ((List Int) × Int)) : Prop :=
 ((s.2 < (x.2.2.2.length:Int)) →
 ((bway_pre (x,s.2)) ∧
 letP (bway (x,s.2)) fun y =>
 ((y.2 = true) →
 (((List.length s.1) + 1) < 1099511627776))))
def cgrow_l0_t (x : ((List I3) × ((List I2) × ((List I3) × (List I9))))) (s : ((List Int) × Int)) : Tr (((List Int) × Int) ⊕ (List Int)) true :=
 (.i10 (s.2 < (nL x.2.2.2))
 (.fn bway_S (x,s.2) fun y =>
 (.b10 y.2
 (.od (((List.length s.1) + 1) < 1099511627776)
 (.ret (.inl ((s.1 ++ [s.2]),(w1 s.2)))))
 (.ret (.inl (s.1,(w1 s.2))))))
 (.ret (.inr (s.1))))
def cgrow_l4 (x : ((List I3) × ((List I2) × ((List I3) × (List I9))))) : LoopD := ⟨[],⟨pvs 92 0 [(4,.v (.one (.ptr 0 0))),(6,.v (.one (.full 5))),(10,.v (.one (.full 6))),(11,.v (.one (.ptr 7 0))),(13,.v (.one (.ptr 8 0))),(14,.v (.one (.i .i64)))],[.cells [.full 1,.full 2,.full 3,.full 4] 89,.row yy3 0,.row yy2 0,.row yy3 0,.row yy9 0,.row yi 2,.row (Ty.prod yi (Ty.prod yi (Ty.sl yi))) 2,.cells [.i .i64,.i .i64] 53,.cells [.ptr 0 0,.i .i64,.i .i64,.full 9] 69,.row yi 2],0,none,[],[1,2,3,4],[5,6,7,8,9,10,11,0],[(.l yi),(.l (Ty.prod yi (Ty.prod yi (Ty.sl yi)))),.i,.i,.i,.i,(.l yi),.i],[.l yy3 x.1,.l yy2 x.2.1,.l yy3 x.2.2.1,.l yy9 x.2.2.2]⟩,[⟨(.exit 4),.normal,⟨pvs 92 0 [(4,.v (.one (.ptr 0 0))),(6,.v (.one (.full 5))),(10,.v (.one (.full 6))),(11,.v (.one (.ptr 7 0))),(13,.v (.one (.ptr 8 0)))],[.cells [.full 1,.full 2,.full 3,.full 4] 89,.row yy3 0,.row yy2 0,.row yy3 0,.row yy9 0,.row yi 2,.row (Ty.prod yi (Ty.prod yi (Ty.sl yi))) 2,.cells [.i .i64,.i .i64] 53,.cells [.ptr 0 0,.i .i64,.i .i64,.full 9] 69,.row yi 2],0,none,[],[0,1,2,3],[4,5,6,7,8,9,10],[(.l yi),(.l (Ty.prod yi (Ty.prod yi (Ty.sl yi)))),.i,.i,.i,.i,(.l yi)],[.l yy3 x.1,.l yy2 x.2.1,.l yy3 x.2.2.1,.l yy9 x.2.2.2]⟩⟩]⟩
def cgrow_l4_step (x : ((List I3) × ((List I2) × ((List I3) × (List I9))))) (s : ((List Int) × ((List (Int × (Int × (List Int)))) × (Int × (Int × (Int × (Int × ((List Int) × Int)))))))) : ((List Int) × ((List (Int × (Int × (List Int)))) × (Int × (Int × (Int × (Int × ((List Int) × Int))))))) ⊕ ((List Int) × ((List (Int × (Int × (List Int)))) × (Int × (Int × (Int × (Int × (List Int))))))) :=
 (if (s.2.2.2.2.2.2.2 ≥ (0:Int)) then
 (letV (delZ s.1 s.2.2.2.2.2.2.2 (w64 (s.2.2.2.2.2.2.2 + (1:Int)))) fun y =>
 (letV (indexF (y,(x,((s.2.2.2.2.1,s.2.2.2.2.2.1),(s.2.2.2.2.2.2.1 ++ [(List.getD s.1 (Int.toNat s.2.2.2.2.2.2.2) (0:Int))]))))) fun y_1 =>
 (Sum.inl (y,(s.2.1,(s.2.2.1,(s.2.2.2.1,(s.2.2.2.2.1,(s.2.2.2.2.2.1,((s.2.2.2.2.2.2.1 ++ [(List.getD s.1 (Int.toNat s.2.2.2.2.2.2.2) (0:Int))]),y_1)))))))))) else
 (Sum.inr ((s.1,(s.2.1,(s.2.2.1,(s.2.2.2.1,(s.2.2.2.2.1,(s.2.2.2.2.2.1,s.2.2.2.2.2.2.1)))))))))
def cgrow_l4_pre (x : ((List I3) × ((List I2) × ((List I3) × (List I9))))) (s : ((List Int) × ((List (Int × (Int × (List Int)))) × (Int × (Int × (Int × (Int × ((List Int) × Int)))))))) : Prop :=
 ((s.2.2.2.2.2.2.2 ≥ (0:Int)) →
 ((((0:Int) ≤ s.2.2.2.2.2.2.2) ∧ (s.2.2.2.2.2.2.2 < (s.1.length:Int))) ∧
 (((Int.toNat s.2.2.2.2.2.2.2) < (List.length s.1)) ∧
 (((Int.toNat s.2.2.2.2.2.2.2) < (List.length s.1)) ∧
 ((((List.length s.2.2.2.2.2.2.1) + 1) < 1099511627776) ∧
 ((((0:Int) ≤ s.2.2.2.2.2.2.2) ∧ ((s.2.2.2.2.2.2.2 ≤ (w64 (s.2.2.2.2.2.2.2 + (1:Int)))) ∧ ((w64 (s.2.2.2.2.2.2.2 + (1:Int))) ≤ (s.1.length:Int)))) ∧
 (letP (delZ s.1 s.2.2.2.2.2.2.2 (w64 (s.2.2.2.2.2.2.2 + (1:Int)))) fun y =>
 (indexF_pre (y,(x,((s.2.2.2.2.1,s.2.2.2.2.2.1),(s.2.2.2.2.2.2.1 ++ [(List.getD s.1 (Int.toNat s.2.2.2.2.2.2.2) (0:Int))]))))))))))))
def cgrow_l4_t (x : ((List I3) × ((List I2) × ((List I3) × (List I9))))) (s : ((List Int) × ((List (Int × (Int × (List Int)))) × (Int × (Int × (Int × (Int × ((List Int) × Int)))))))) : Tr (((List Int) × ((List (Int × (Int × (List Int)))) × (Int × (Int × (Int × (Int × ((List Int) × Int))))))) ⊕ ((List Int) × ((List (Int × (Int × (List Int)))) × (Int × (Int × (Int × (Int × (List Int)))))))) true :=
 (.i10 (s.2.2.2.2.2.2.2 ≥ z0)
 (.oI2 s.2.2.2.2.2.2.2 s.1
 (.od (((List.length s.2.2.2.2.2.2.1) + 1) < 1099511627776)
 (.og ((decide (z0 ≤ s.2.2.2.2.2.2.2)) && ((decide (s.2.2.2.2.2.2.2 ≤ (w1 s.2.2.2.2.2.2.2))) && (decide ((w1 s.2.2.2.2.2.2.2) ≤ (nL s.1))))) ((z0 ≤ s.2.2.2.2.2.2.2) ∧ ((s.2.2.2.2.2.2.2 ≤ (w1 s.2.2.2.2.2.2.2)) ∧ ((w1 s.2.2.2.2.2.2.2) ≤ (nL s.1)))) (fun h => (and_t (decide_eq_true h.1) (and_t (decide_eq_true h.2.1) (decide_eq_true h.2.2))))
 (.lt (delZ s.1 s.2.2.2.2.2.2.2 (w1 s.2.2.2.2.2.2.2)) fun y =>
 (.fnQ indexF_S (y,(x,((s.2.2.2.2.1,s.2.2.2.2.2.1),(s.2.2.2.2.2.2.1 ++ [(gI s.1 s.2.2.2.2.2.2.2)])))) fun y_1 =>
 (.ret (.inl (y,(s.2.1,(s.2.2.1,(s.2.2.2.1,(s.2.2.2.2.1,(s.2.2.2.2.2.1,((s.2.2.2.2.2.2.1 ++ [(gI s.1 s.2.2.2.2.2.2.2)]),y_1))))))))))))))
 (.ret (.inr ((s.1,(s.2.1,(s.2.2.1,(s.2.2.2.1,(s.2.2.2.2.1,(s.2.2.2.2.2.1,s.2.2.2.2.2.2.1))))))))))
def cgrow_l2 (x : ((List I3) × ((List I2) × ((List I3) × (List I9))))) : LoopD := ⟨[],⟨pvs 92 0 [(4,.v (.one (.ptr 0 0))),(6,.v (.one (.full 5))),(10,.v (.one (.full 6)))],[.cells [.full 1,.full 2,.full 3,.full 4] 89,.row yy3 0,.row yy2 0,.row yy3 0,.row yy9 0,.row yi 2,.row (Ty.prod yi (Ty.prod yi (Ty.sl yi))) 2],0,none,[],[0,1,2,3],[4,5],[(.l yi),(.l (Ty.prod yi (Ty.prod yi (Ty.sl yi))))],[.l yy3 x.1,.l yy2 x.2.1,.l yy3 x.2.2.1,.l yy9 x.2.2.2]⟩,[⟨(.exit 2),.normal,⟨pvs 92 0 [(10,.v (.one (.full 0)))],[.row (Ty.prod yi (Ty.prod yi (Ty.sl yi))) 2],0,none,[],[],[0],[(.l (Ty.prod yi (Ty.prod yi (Ty.sl yi))))],[]⟩⟩]⟩
def cgrow_l2_step (x : ((List I3) × ((List I2) × ((List I3) × (List I9))))) (s : ((List Int) × (List (Int × (Int × (List Int)))))) : ((List Int) × (List (Int × (Int × (List Int))))) ⊕ (List (Int × (Int × (List Int)))) :=
 (if ((s.1.length:Int) > (0:Int)) then
 (letV (bway (x,(List.getD s.1 0 (0:Int)))) fun y =>
 (letV (run (cgrow_l4_step x) (s.1,(s.2,(y.1.1,(y.1.2,(y.1.1,(y.1.2,([],(0:Int))))))))) fun r =>
 (Sum.inl (r.1,(r.2.1 ++ [(r.2.2.1,(r.2.2.2.1,r.2.2.2.2.2.2))]))))) else
 (Sum.inr (s.2)))
def cgrow_l2_pre (x : ((List I3) × ((List I2) × ((List I3) × (List I9))))) (s : ((List Int) × (List (Int × (Int × (List Int)))))) : Prop :=
 (((s.1.length:Int) > (0:Int)) →
 (((0:Int) < (s.1.length:Int)) ∧
 ((0 < (List.length s.1)) ∧
 ((0 < (List.length s.1)) ∧
 ((bway_pre (x,(List.getD s.1 0 (0:Int)))) ∧
 letP (bway (x,(List.getD s.1 0 (0:Int)))) fun y =>
 (Term (cgrow_l4_step x) (cgrow_l4_pre x) (s.1,(s.2,(y.1.1,(y.1.2,(y.1.1,(y.1.2,([],(0:Int)))))))) ∧
 letP (run (cgrow_l4_step x) (s.1,(s.2,(y.1.1,(y.1.2,(y.1.1,(y.1.2,([],(0:Int))))))))) fun r =>
 (((List.length r.2.1) + 1) < 1099511627776)))))))
def cgrow_l2_t (x : ((List I3) × ((List I2) × ((List I3) × (List I9))))) (s : ((List Int) × (List (Int × (Int × (List Int)))))) : Tr (((List Int) × (List (Int × (Int × (List Int))))) ⊕ (List (Int × (Int × (List Int))))) true :=
 (.i10 ((nL s.1) > z0)
 (.og (true && (decide (z0 < (nL s.1)))) (z0 < (nL s.1)) (fun h => (and_t rfl (decide_eq_true h)))
 (.od (0 < (List.length s.1))
 (.od (0 < (List.length s.1))
 (.fn bway_S (x,(List.getD s.1 0 z0)) fun y =>
 (LoopD.lp (cgrow_l4 x) (cgrow_l4_t x) (s.1,(s.2,(y.1.1,(y.1.2,(y.1.1,(y.1.2,([],z0))))))) fun r =>
 (.od (((List.length r.2.1) + 1) < 1099511627776)
 (.ret (.inl (r.1,(r.2.1 ++ [(r.2.2.1,(r.2.2.2.1,r.2.2.2.2.2.2))]))))))))))
 (.ret (.inr (s.2))))
def cgrow (x : ((List I3) × ((List I2) × ((List I3) × (List I9))))) : ((List (Int × (Int × (List Int)))) × Int) :=
 (letV (tame x) fun y =>
 (if ((!y) = true) then
 ([],(1:Int)) else
 (letV (run (cgrow_l0_step x) ([],(0:Int))) fun r =>
 (letV (run (cgrow_l2_step x) (r,[])) fun r_1 =>
 (r_1,(0:Int))))))
def cgrow_pre (x : ((List I3) × ((List I2) × ((List I3) × (List I9))))) : Prop :=
 ((tame_pre x) ∧
 letP (tame x) fun y =>
 (¬ ((!y) = true) →
 (Term (cgrow_l0_step x) (cgrow_l0_pre x) ([],(0:Int)) ∧
 letP (run (cgrow_l0_step x) ([],(0:Int))) fun r =>
 (Term (cgrow_l2_step x) (cgrow_l2_pre x) (r,[])))))
def cgrow_t (x : ((List I3) × ((List I2) × ((List I3) × (List I9))))) : Tr ((List (Int × (Int × (List Int)))) × Int) true :=
 (.allE
 (.fn tame_S x fun y =>
 (.pn 0 5
 (.b01 (!y)
 (.ret ([],z1))
 (LoopD.lp (cgrow_l0 x) (cgrow_l0_t x) ([],z0) fun r =>
 (LoopD.lp (cgrow_l2 x) (cgrow_l2_t x) (r,[]) fun r_1 =>
 (.ret (r_1,z0))))))))
abbrev cgrow_S : FnS := ⟨(.agg (Ty.prod (Ty.sl yy3) (Ty.prod (Ty.sl yy2) (Ty.prod (Ty.sl yy3) (Ty.sl yy9))))),(.pair (.one (Ty.sl (Ty.prod yi (Ty.prod yi (Ty.sl yi))))) (.one yi)),cgrow_pre,cgrow⟩
theorem cgrow_ok : SpecOk Tryz.prog 10 (fnSpec cgrow_S) := SpecOk.tr cgrow_S cgrow_t (fn := Tryz.f10) tt_ok sp_cfits_ok mixed (by kernel_rfl) cgrow_i0.ok (fun x => (LpsOk.tr tt_ok (SpecsOk.ctxI sp_cfits_ok cgrow_i0.ok) mixed 0 (cgrow_l0 x) (cgrow_l0_t x) (LpsOk.tr tt_ok (SpecsOk.ctxI sp_cfits_ok cgrow_i0.ok) mixed 2 (cgrow_l2 x) (cgrow_l2_t x) (LpsOk.tr tt_ok (SpecsOk.ctxI sp_cfits_ok cgrow_i0.ok) mixed 4 (cgrow_l4 x) (cgrow_l4_t x) LpsOk.nil (by kernel_rfl) fun g s Q => (by kernel_rfl)) (by kernel_rfl) fun g s Q => (by kernel_rfl)) (by kernel_rfl) fun g s Q => (by kernel_rfl))) (fun x => (by kernel_rfl)) fun x Q => (by kernel_rfl)
def sp_cgrow : List (Nat × Ev.Spec) := (10,fnSpec cgrow_S) :: sp_cfits
theorem sp_cgrow_ok : SpecsOk Tryz.prog sp_cgrow := SpecsOk.add (fn := Tryz.f10) (by kernel_rfl) cgrow_ok sp_cfits_ok
def cis_i0 : ItsB Tryz.prog := ⟨_,(ItsOk.walk tt_ok sp_cgrow_ok mixed 22 (fn := Tryz.f22) (by kernel_rfl) (ItsOk.nil _ _) fun ys hy => LpsOk.nil)⟩
def cis_l2 (x : (((List I3) × ((List I2) × ((List I3) × (List I9)))) × (List (Int × (Int × (List Int)))))) : LoopD := ⟨[],⟨pvs 94 0 [(5,.v (.one (.ptr 0 0))),(7,.v (.one (.full 5))),(9,.v (.one (.ptr 6 0))),(10,.v (.one (.ptr 8 0))),(28,.v (.one (.full 10))),(29,.v (.one (.i .i64))),(30,.v (.one (.i .i64))),(43,.v (.one (.full 7))),(44,.v (.one (.i .i64))),(45,.v (.one (.i .i64)))],[.cells [.full 1,.full 2,.full 3,.full 4] 89,.row yy3 0,.row yy2 0,.row yy3 0,.row yy9 0,.row yi 2,.cells [.i .i64,.i .i64,.full 7] 29,.row yi 0,.cells [.ptr 0 0,.i .i64,.i .i64,.full 9] 69,.row yi 2,.row (Ty.prod yi (Ty.prod yi (Ty.sl yi))) 0],0,none,[],[0,4,5,6,7,15],[8,9,10,11,12,13,14,1,2,3],[(.l yi),.i,.i,(.l yi),.i,.i,(.l yi),.i,.i,.i],[.i (x.2.length:Int),.l yy3 x.1.1,.l yy2 x.1.2.1,.l yy3 x.1.2.2.1,.l yy9 x.1.2.2.2,.l (Ty.prod yi (Ty.prod yi (Ty.sl yi))) x.2]⟩,[⟨.ret,.ret,⟨pvs 94 0 [(4,.v (.one (.b)))],[],0,none,[],[0],[],[],[.b false]⟩⟩,⟨(.exit 2),.normal,⟨pvs 94 0 [(5,.v (.one (.ptr 0 0))),(7,.v (.one (.full 5))),(9,.v (.one (.ptr 6 0))),(28,.v (.one (.full 8))),(29,.v (.one (.i .i64))),(30,.v (.one (.i .i64)))],[.cells [.full 1,.full 2,.full 3,.full 4] 89,.row yy3 0,.row yy2 0,.row yy3 0,.row yy9 0,.row yi 2,.cells [.i .i64,.i .i64,.full 7] 29,.row yi 0,.row (Ty.prod yi (Ty.prod yi (Ty.sl yi))) 0],0,none,[],[0,2,3,4,5,10],[6,7,8,9,1],[(.l yi),.i,.i,(.l yi),.i],[.i (x.2.length:Int),.l yy3 x.1.1,.l yy2 x.1.2.1,.l yy3 x.1.2.2.1,.l yy9 x.1.2.2.2,.l (Ty.prod yi (Ty.prod yi (Ty.sl yi))) x.2]⟩⟩]⟩
def cis_l2_step (x : (((List I3) × ((List I2) × ((List I3) × (List I9)))) × (List (Int × (Int × (List Int)))))) (s : ((List Int) × (Int × (Int × ((List Int) × (Int × (Int × ((List Int) × I3)))))))) : ((List Int) × (Int × (Int × ((List Int) × (Int × (Int × ((List Int) × I3))))))) ⊕ (Unit ⊕ ((List Int) × (Int × (Int × ((List Int) × Int))))) :=
 (if (s.2.2.2.2.2.2.2.2.2 < s.2.2.2.2.2.2.2.2.1) then
 (letV (pfits ((x.1,((s.2.2.2.2.1,s.2.2.2.2.2.1),s.2.2.2.2.2.2.1)),(List.getD s.2.2.2.1 (Int.toNat s.2.2.2.2.2.2.2.2.2) (0:Int)))) fun y =>
 (if ((!y) = true) then
 (Sum.inr (Sum.inl ())) else
 (letV (List.set s.1 (Int.toNat (List.getD s.2.2.2.1 (Int.toNat s.2.2.2.2.2.2.2.2.2) (0:Int))) (w64 ((List.getD s.1 (Int.toNat (List.getD s.2.2.2.1 (Int.toNat s.2.2.2.2.2.2.2.2.2) (0:Int))) (0:Int)) + (1:Int)))) fun y_1 =>
 (Sum.inl (y_1,(s.2.1,(s.2.2.1,(s.2.2.2.1,(s.2.2.2.2.1,(s.2.2.2.2.2.1,((s.2.2.2.2.2.2.1 ++ [(List.getD s.2.2.2.1 (Int.toNat s.2.2.2.2.2.2.2.2.2) (0:Int))]),(s.2.2.2.2.2.2.2.1,(s.2.2.2.2.2.2.2.2.1,(w64 (s.2.2.2.2.2.2.2.2.2 + (1:Int)))))))))))))))) else
 (Sum.inr (Sum.inr ((s.1,(s.2.1,(s.2.2.1,(s.2.2.2.1,s.2.2.2.2.2.2.2.1))))))))
def cis_l2_pre (x : (((List I3) × ((List I2) × ((List I3) × (List I9)))) × (List (Int × (Int × (List Int)))))) (s : ((List Int) × (Int × (Int × ((List Int) × (Int × (Int × ((List Int) × I3)))))))) : Prop :=
 ((s.2.2.2.2.2.2.2.2.2 < s.2.2.2.2.2.2.2.2.1) →
 ((((0:Int) ≤ s.2.2.2.2.2.2.2.2.2) ∧ (s.2.2.2.2.2.2.2.2.2 < (s.2.2.2.1.length:Int))) ∧
 (((Int.toNat s.2.2.2.2.2.2.2.2.2) < (List.length s.2.2.2.1)) ∧
 (((Int.toNat s.2.2.2.2.2.2.2.2.2) < (List.length s.2.2.2.1)) ∧
 ((pfits_pre ((x.1,((s.2.2.2.2.1,s.2.2.2.2.2.1),s.2.2.2.2.2.2.1)),(List.getD s.2.2.2.1 (Int.toNat s.2.2.2.2.2.2.2.2.2) (0:Int)))) ∧
 letP (pfits ((x.1,((s.2.2.2.2.1,s.2.2.2.2.2.1),s.2.2.2.2.2.2.1)),(List.getD s.2.2.2.1 (Int.toNat s.2.2.2.2.2.2.2.2.2) (0:Int)))) fun y =>
 (¬ ((!y) = true) →
 ((((List.length s.2.2.2.2.2.2.1) + 1) < 1099511627776) ∧
 ((((0:Int) ≤ (List.getD s.2.2.2.1 (Int.toNat s.2.2.2.2.2.2.2.2.2) (0:Int))) ∧ ((List.getD s.2.2.2.1 (Int.toNat s.2.2.2.2.2.2.2.2.2) (0:Int)) < (s.1.length:Int))) ∧
 (((Int.toNat (List.getD s.2.2.2.1 (Int.toNat s.2.2.2.2.2.2.2.2.2) (0:Int))) < (List.length s.1)) ∧
 (((Int.toNat (List.getD s.2.2.2.1 (Int.toNat s.2.2.2.2.2.2.2.2.2) (0:Int))) < (List.length s.1)) ∧
 ((((0:Int) ≤ (List.getD s.2.2.2.1 (Int.toNat s.2.2.2.2.2.2.2.2.2) (0:Int))) ∧ ((List.getD s.2.2.2.1 (Int.toNat s.2.2.2.2.2.2.2.2.2) (0:Int)) < (s.1.length:Int))) ∧
 (((Int.toNat (List.getD s.2.2.2.1 (Int.toNat s.2.2.2.2.2.2.2.2.2) (0:Int))) < (List.length s.1)) ∧
 ((Int.toNat (List.getD s.2.2.2.1 (Int.toNat s.2.2.2.2.2.2.2.2.2) (0:Int))) < (List.length s.1))))))))))))))
def cis_l2_t (x : (((List I3) × ((List I2) × ((List I3) × (List I9)))) × (List (Int × (Int × (List Int)))))) (s : ((List Int) × (Int × (Int × ((List Int) × (Int × (Int × ((List Int) × I3)))))))) : Tr (((List Int) × (Int × (Int × ((List Int) × (Int × (Int × ((List Int) × I3))))))) ⊕ (Unit ⊕ ((List Int) × (Int × (Int × ((List Int) × Int)))))) true :=
 (.i10 (s.2.2.2.2.2.2.2.2.2 < s.2.2.2.2.2.2.2.2.1)
 (.oI2 s.2.2.2.2.2.2.2.2.2 s.2.2.2.1
 (.fnQ pfits_S ((x.1,((s.2.2.2.2.1,s.2.2.2.2.2.1),s.2.2.2.2.2.2.1)),(gI s.2.2.2.1 s.2.2.2.2.2.2.2.2.2)) fun y =>
 (.b01 (!y)
 (.ret (.inr (Sum.inl ())))
 (.od (((List.length s.2.2.2.2.2.2.1) + 1) < 1099511627776)
 (.oI2 (gI s.2.2.2.1 s.2.2.2.2.2.2.2.2.2) s.1
 (.oI2 (gI s.2.2.2.1 s.2.2.2.2.2.2.2.2.2) s.1
 (.lt (List.set s.1 (tN (gI s.2.2.2.1 s.2.2.2.2.2.2.2.2.2)) (w1 (gI s.1 (gI s.2.2.2.1 s.2.2.2.2.2.2.2.2.2)))) fun y_1 =>
 (.ret (.inl (y_1,(s.2.1,(s.2.2.1,(s.2.2.2.1,(s.2.2.2.2.1,(s.2.2.2.2.2.1,((s.2.2.2.2.2.2.1 ++ [(gI s.2.2.2.1 s.2.2.2.2.2.2.2.2.2)]),(s.2.2.2.2.2.2.2.1,(s.2.2.2.2.2.2.2.2.1,(w1 s.2.2.2.2.2.2.2.2.2)))))))))))))))))))
 (.ret (.inr (Sum.inr ((s.1,(s.2.1,(s.2.2.1,(s.2.2.2.1,s.2.2.2.2.2.2.2.1)))))))))
def cis_l0 (x : (((List I3) × ((List I2) × ((List I3) × (List I9)))) × (List (Int × (Int × (List Int)))))) : LoopD := ⟨[],⟨pvs 94 0 [(5,.v (.one (.ptr 0 0))),(7,.v (.one (.full 5))),(28,.v (.one (.full 6))),(29,.v (.one (.i .i64))),(30,.v (.one (.i .i64)))],[.cells [.full 1,.full 2,.full 3,.full 4] 89,.row yy3 0,.row yy2 0,.row yy3 0,.row yy9 0,.row yi 2,.row (Ty.prod yi (Ty.prod yi (Ty.sl yi))) 0],0,none,[],[0,2,3,4,5,7],[6,1],[(.l yi),.i],[.i (x.2.length:Int),.l yy3 x.1.1,.l yy2 x.1.2.1,.l yy3 x.1.2.2.1,.l yy9 x.1.2.2.2,.l (Ty.prod yi (Ty.prod yi (Ty.sl yi))) x.2]⟩,[⟨.ret,.ret,⟨pvs 94 0 [(4,.v (.one (.b)))],[],0,none,[],[0],[],[],[.b false]⟩⟩,⟨(.exit 0),.normal,⟨pvs 94 0 [(5,.v (.one (.ptr 0 0))),(7,.v (.one (.full 5)))],[.cells [.full 1,.full 2,.full 3,.full 4] 89,.row yy3 0,.row yy2 0,.row yy3 0,.row yy9 0,.row yi 2],0,none,[],[0,1,2,3],[4],[(.l yi)],[.l yy3 x.1.1,.l yy2 x.1.2.1,.l yy3 x.1.2.2.1,.l yy9 x.1.2.2.2]⟩⟩]⟩
def cis_l0_step (x : (((List I3) × ((List I2) × ((List I3) × (List I9)))) × (List (Int × (Int × (List Int)))))) (s : ((List Int) × Int)) : ((List Int) × Int) ⊕ (Unit ⊕ (List Int)) :=
 (if (s.2 < (x.2.length:Int)) then
 (letV (run (cis_l2_step x) (s.1,((List.getD x.2 (Int.toNat s.2) ((0:Int),((0:Int),[]))).1,((List.getD x.2 (Int.toNat s.2) ((0:Int),((0:Int),[]))).2.1,((List.getD x.2 (Int.toNat s.2) ((0:Int),((0:Int),[]))).2.2,((List.getD x.2 (Int.toNat s.2) ((0:Int),((0:Int),[]))).1,((List.getD x.2 (Int.toNat s.2) ((0:Int),((0:Int),[]))).2.1,([],(s.2,(((List.getD x.2 (Int.toNat s.2) ((0:Int),((0:Int),[]))).2.2.length:Int),(0:Int))))))))))) fun r =>
 (Sum.elim (fun a =>
 (Sum.inr (Sum.inl ()))) (fun b =>
 (if (((b.2.2.2.1.length:Int) == (0:Int)) = true) then
 (Sum.inr (Sum.inl ())) else
 (Sum.inl (b.1,(w64 (b.2.2.2.2 + (1:Int))))))) r)) else
 (Sum.inr (Sum.inr (s.1))))
def cis_l0_pre (x : (((List I3) × ((List I2) × ((List I3) × (List I9)))) × (List (Int × (Int × (List Int)))))) (s : ((List Int) × Int)) : Prop :=
 ((s.2 < (x.2.length:Int)) →
 ((((0:Int) ≤ s.2) ∧ (s.2 < (x.2.length:Int))) ∧
 (((Int.toNat s.2) < (List.length x.2)) ∧
 (((Int.toNat s.2) < (List.length x.2)) ∧
 (Term (cis_l2_step x) (cis_l2_pre x) (s.1,((List.getD x.2 (Int.toNat s.2) ((0:Int),((0:Int),[]))).1,((List.getD x.2 (Int.toNat s.2) ((0:Int),((0:Int),[]))).2.1,((List.getD x.2 (Int.toNat s.2) ((0:Int),((0:Int),[]))).2.2,((List.getD x.2 (Int.toNat s.2) ((0:Int),((0:Int),[]))).1,((List.getD x.2 (Int.toNat s.2) ((0:Int),((0:Int),[]))).2.1,([],(s.2,(((List.getD x.2 (Int.toNat s.2) ((0:Int),((0:Int),[]))).2.2.length:Int),(0:Int)))))))))))))))
def cis_l0_t (x : (((List I3) × ((List I2) × ((List I3) × (List I9)))) × (List (Int × (Int × (List Int)))))) (s : ((List Int) × Int)) : Tr (((List Int) × Int) ⊕ (Unit ⊕ (List Int))) true :=
 (.i10 (s.2 < (nL x.2))
 (.oI2 s.2 x.2
 (LoopD.lp (cis_l2 x) (cis_l2_t x) (s.1,((gT x.2 s.2 (z0,(z0,[]))).1,((gT x.2 s.2 (z0,(z0,[]))).2.1,((gT x.2 s.2 (z0,(z0,[]))).2.2,((gT x.2 s.2 (z0,(z0,[]))).1,((gT x.2 s.2 (z0,(z0,[]))).2.1,([],(s.2,((nL (gT x.2 s.2 (z0,(z0,[]))).2.2),z0))))))))) fun r =>
 (.s00 r (fun a =>
 (.ret (.inr (Sum.inl ())))) (fun b =>
 (.b00 ((nL b.2.2.2.1) == z0)
 (.ret (.inr (Sum.inl ())))
 (.ret (.inl (b.1,(w1 b.2.2.2.2)))))))))
 (.ret (.inr (Sum.inr (s.1)))))
def cis_l4 (x : (((List I3) × ((List I2) × ((List I3) × (List I9)))) × (List (Int × (Int × (List Int)))))) : LoopD := ⟨[],⟨pvs 94 0 [(5,.v (.one (.ptr 0 0))),(75,.v (.one (.full 5))),(76,.v (.one (.i .i64))),(77,.v (.one (.i .i64)))],[.cells [.full 1,.full 2,.full 3,.full 4] 89,.row yy3 0,.row yy2 0,.row yy3 0,.row yy9 0,.row yi 2],0,none,[],[2,3,4,5],[6,0,1],[(.l yi),.i,.i],[.l yy3 x.1.1,.l yy2 x.1.2.1,.l yy3 x.1.2.2.1,.l yy9 x.1.2.2.2]⟩,[⟨.ret,.ret,⟨pvs 94 0 [(4,.v (.one (.b)))],[],0,none,[],[0],[],[],[.b false]⟩⟩,⟨(.exit 4),.normal,⟨pvs 94 0 [],[],0,none,[],[],[],[],[]⟩⟩]⟩
def cis_l4_step (x : (((List I3) × ((List I2) × ((List I3) × (List I9)))) × (List (Int × (Int × (List Int)))))) (s : ((List Int) × I2)) : ((List Int) × I2) ⊕ (Unit ⊕ Unit) :=
 (if (s.2.2 < s.2.1) then
 (letV (bway (x.1,s.2.2)) fun y =>
 (if (y.2 = true) then
 (if (((List.getD s.1 (Int.toNat s.2.2) (0:Int)) != (1:Int)) = true) then
 (Sum.inr (Sum.inl ())) else
 (Sum.inl (s.1,(s.2.1,(w64 (s.2.2 + (1:Int))))))) else
 (Sum.inl (s.1,(s.2.1,(w64 (s.2.2 + (1:Int)))))))) else
 (Sum.inr (Sum.inr (()))))
def cis_l4_pre (x : (((List I3) × ((List I2) × ((List I3) × (List I9)))) × (List (Int × (Int × (List Int)))))) (s : ((List Int) × I2)) : Prop :=
 ((s.2.2 < s.2.1) →
 ((((0:Int) ≤ s.2.2) ∧ (s.2.2 < (s.1.length:Int))) ∧
 (((Int.toNat s.2.2) < (List.length s.1)) ∧
 (((Int.toNat s.2.2) < (List.length s.1)) ∧
 (bway_pre (x.1,s.2.2))))))
def cis_l4_t (x : (((List I3) × ((List I2) × ((List I3) × (List I9)))) × (List (Int × (Int × (List Int)))))) (s : ((List Int) × I2)) : Tr (((List Int) × I2) ⊕ (Unit ⊕ Unit)) true :=
 (.i10 (s.2.2 < s.2.1)
 (.oI2 s.2.2 s.1
 (.fn bway_S (x.1,s.2.2) fun y =>
 (.b00 y.2
 (.b00 ((gI s.1 s.2.2) != z1)
 (.ret (.inr (Sum.inl ())))
 (.ret (.inl (s.1,(s.2.1,(w1 s.2.2))))))
 (.ret (.inl (s.1,(s.2.1,(w1 s.2.2))))))))
 (.ret (.inr (Sum.inr (())))))
def cis (x : (((List I3) × ((List I2) × ((List I3) × (List I9)))) × (List (Int × (Int × (List Int)))))) : Bool :=
 (letV (tame x.1) fun y =>
 (if ((!y) = true) then
 false else
 (letV (run (cis_l0_step x) ((List.replicate (List.length x.1.2.2.2) (0:Int)),(0:Int))) fun r =>
 (Sum.elim (fun a =>
 false) (fun b =>
 (letV (run (cis_l4_step x) (b,((b.length:Int),(0:Int)))) fun r_1 =>
 (Sum.elim (fun a =>
 false) (fun b_1 =>
 true) r_1))) r))))
def cis_pre (x : (((List I3) × ((List I2) × ((List I3) × (List I9)))) × (List (Int × (Int × (List Int)))))) : Prop :=
 ((tame_pre x.1) ∧
 letP (tame x.1) fun y =>
 (¬ ((!y) = true) →
 ((((x.1.2.2.2.length:Int) ≤ (x.1.2.2.2.length:Int)) ∧ ((List.length x.1.2.2.2) < 1099511627776)) ∧
 (Term (cis_l0_step x) (cis_l0_pre x) ((List.replicate (List.length x.1.2.2.2) (0:Int)),(0:Int)) ∧
 letP (run (cis_l0_step x) ((List.replicate (List.length x.1.2.2.2) (0:Int)),(0:Int))) fun r =>
 (cS r (fun a =>
 True) (fun b =>
 (Term (cis_l4_step x) (cis_l4_pre x) (b,((b.length:Int),(0:Int))))))))))
def cis_t (x : (((List I3) × ((List I2) × ((List I3) × (List I9)))) × (List (Int × (Int × (List Int)))))) : Tr Bool true :=
 (.allE
 (.fn tame_S x.1 fun y =>
 (.pn 0 6
 (.b01 (!y)
 (.ret false)
 (.og (((decide (z0 ≤ (nL x.1.2.2.2))) && (decide ((nL x.1.2.2.2) ≤ (nL x.1.2.2.2)))) && (decide ((List.length x.1.2.2.2) < 1099511627776))) (((nL x.1.2.2.2) ≤ (nL x.1.2.2.2)) ∧ ((List.length x.1.2.2.2) < 1099511627776)) (fun h => (and_t (and_t rfl (decide_eq_true h.1)) (decide_eq_true h.2)))
 (LoopD.lp (cis_l0 x) (cis_l0_t x) ((List.replicate (List.length x.1.2.2.2) z0),z0) fun r =>
 (.s01 r (fun a =>
 (.ret false)) (fun b =>
 (LoopD.lp (cis_l4 x) (cis_l4_t x) (b,((nL b),z0)) fun r_1 =>
 (.s00 r_1 (fun a =>
 (.ret false)) (fun b_1 =>
 (.ret true))))))))))))
abbrev cis_S : FnS := ⟨(.pair (.agg (Ty.prod (Ty.sl yy3) (Ty.prod (Ty.sl yy2) (Ty.prod (Ty.sl yy3) (Ty.sl yy9))))) (.one (Ty.sl (Ty.prod yi (Ty.prod yi (Ty.sl yi)))))),(.one Ty.bool),cis_pre,cis⟩
theorem cis_ok : SpecOk Tryz.prog 15 (fnSpec cis_S) := SpecOk.tr cis_S cis_t (fn := Tryz.f15) tt_ok sp_cgrow_ok mixed (by kernel_rfl) cis_i0.ok (fun x => (LpsOk.tr tt_ok (SpecsOk.ctxI sp_cgrow_ok cis_i0.ok) mixed 0 (cis_l0 x) (cis_l0_t x) (LpsOk.tr tt_ok (SpecsOk.ctxI sp_cgrow_ok cis_i0.ok) mixed 2 (cis_l2 x) (cis_l2_t x) (LpsOk.tr tt_ok (SpecsOk.ctxI sp_cgrow_ok cis_i0.ok) mixed 4 (cis_l4 x) (cis_l4_t x) LpsOk.nil (by kernel_rfl) fun g s Q => (by kernel_rfl)) (by kernel_rfl) fun g s Q => (by kernel_rfl)) (by kernel_rfl) fun g s Q => (by kernel_rfl))) (fun x => (by kernel_rfl)) fun x Q => (by kernel_rfl)
def sp_cis : List (Nat × Ev.Spec) := (15,fnSpec cis_S) :: sp_cgrow
theorem sp_cis_ok : SpecsOk Tryz.prog sp_cis := SpecsOk.add (fn := Tryz.f15) (by kernel_rfl) cis_ok sp_cgrow_ok
end Go.Proofs.YtkbmjhabfjgoiaaGreat
