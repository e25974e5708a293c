/- Models of functions of layer 15: pieces. -/
import Derived.Test.YtpbbnoggkbfkoaaEb
noncomputable section
set_option linter.unusedSectionVars false
set_option linter.unusedVariables false
set_option linter.unusedSimpArgs false
namespace Go.Proofs.Ytpbbnoggkbfkoaa
open Go Go.Ev Go.Proofs
abbrev vpiece : VPar := .pair (.rp (.prod (.sl yy3) (.prod (.sl yy2) (.prod (.sl yy3) (.sl yy9))))) (.ty (.prod yy2 (.sl yi)))
def plooks (x : ((((List I3) × ((List I2) × ((List I3) × (List I9)))) × (I2 × (List Int))) × Int)) : Bool :=
 (letV (bway (x.1.1,x.2)) fun y =>
 (if (y.2 = true) then
 ((y.1.1 == x.1.2.1.1) && ((y.1.2 == x.1.2.1.2) && true)) else
 false))
def plooks_pre (x : ((((List I3) × ((List I2) × ((List I3) × (List I9)))) × (I2 × (List Int))) × Int)) : Prop :=
 (bway_pre (x.1.1,x.2))
def plooks_t (x : ((((List I3) × ((List I2) × ((List I3) × (List I9)))) × (I2 × (List Int))) × Int)) : Tr Bool true :=
 (.fn bway_S (x.1.1,x.2) fun y =>
 (.b00 y.2
 (.ret ((y.1.1 == x.1.2.1.1) && ((y.1.2 == x.1.2.1.2) && true)))
 (.ret false)))
abbrev plooks_S : FnQ := ⟨(.pair (.var vpiece) (.arg (.one yi))),(.one Ty.bool),plooks_pre,plooks⟩
theorem plooks_ok : SpecOk Try.prog 53 (fnSpecQ plooks_S) := SpecOk.trQ plooks_S plooks_t (fn := Try.f53) tt_ok sp_containsI_ok mixed (by kernel_rfl) (ItsOk.nil _ _) (fun x => LpsOk.nil) (fun x => (by kernel_rfl)) fun x Q => (by kernel_rfl)
def sp_plooks : List (Nat × Ev.Spec) := (53,fnSpecQ plooks_S) :: sp_containsI
theorem sp_plooks_ok : SpecsOk Try.prog sp_plooks := SpecsOk.add (fn := Try.f53) (by kernel_rfl) plooks_ok sp_containsI_ok
def pover (x : (Int × (I6 × (((List I3) × ((List I2) × ((List I3) × (List I9)))) × (I2 × (List Int)))))) : Bool :=
 (letV (bshadow (x.2.2.1,(x.1,x.2.2.2.1.1))) fun y =>
 (letV (moverlap (x.2.1,y)) fun y_1 =>
 y_1.1))
def pover_pre (x : (Int × (I6 × (((List I3) × ((List I2) × ((List I3) × (List I9)))) × (I2 × (List Int)))))) : Prop :=
 ((bshadow_pre (x.2.2.1,(x.1,x.2.2.2.1.1))) ∧
 letP (bshadow (x.2.2.1,(x.1,x.2.2.2.1.1))) fun y =>
 (moverlap_pre (x.2.1,y)))
def pover_t (x : (Int × (I6 × (((List I3) × ((List I2) × ((List I3) × (List I9)))) × (I2 × (List Int)))))) : Tr Bool true :=
 (.fn bshadow_S (x.2.2.1,(x.1,x.2.2.2.1.1)) fun y =>
 (.fn moverlap_S (x.2.1,y) fun y_1 =>
 (.ret y_1.1)))
abbrev pover_S : FnQ := ⟨(.pair (.arg (.one yi)) (.pair (.arg (.ptr yy6)) (.var (.ref vpiece)))),(.one Ty.bool),pover_pre,pover⟩
theorem pover_ok : SpecOk Try.prog 55 (fnSpecQ pover_S) := SpecOk.trQ pover_S pover_t (fn := Try.f55) tt_ok sp_plooks_ok mixed (by kernel_rfl) (ItsOk.nil _ _) (fun x => LpsOk.nil) (fun x => (by kernel_rfl)) fun x Q => (by kernel_rfl)
def sp_pover : List (Nat × Ev.Spec) := (55,fnSpecQ pover_S) :: sp_plooks
theorem sp_pover_ok : SpecsOk Try.prog sp_pover := SpecsOk.add (fn := Try.f55) (by kernel_rfl) pover_ok sp_plooks_ok
def indexO_l0 (x : ((List Int) × (I6 × (((List I3) × ((List I2) × ((List I3) × (List I9)))) × (I2 × (List Int)))))) : LoopD := ⟨[],⟨pvs 19 0 [(0,.v (.one (.full 0))),(1,.v (.one (.clo 55 0 [.elem 1,.elem 2]))),(7,.v (.one (.i .i64))),(8,.v (.one (.i .i64)))],[.row yi 0,.row yy6 0,.rc [.eptr 3 0],.rc [.eptr 4 0,.i .i64,.i .i64,.full 5],.row (Ty.prod (Ty.sl yy3) (Ty.prod (Ty.sl yy2) (Ty.prod (Ty.sl yy3) (Ty.sl yy9)))) 0,.row yi 0],0,none,[],[0,1,2,4,5,6,7,8,9,10,11],[3],[.i],[.n 0,.n 0,.i (x.1.length:Int),.l yi x.1,.l yy6 [x.2.1],.n 0,.n 0,.i x.2.2.2.1.1,.i x.2.2.2.1.2,.l (Ty.prod (Ty.sl yy3) (Ty.prod (Ty.sl yy2) (Ty.prod (Ty.sl yy3) (Ty.sl yy9)))) [x.2.2.1],.l yi x.2.2.2.2]⟩,[⟨.ret,.ret,⟨pvs 19 0 [(4,.v (.one (.i .i64)))],[],0,none,[],[],[0],[.i],[]⟩⟩,⟨(.exit 0),.normal,⟨pvs 19 0 [],[],0,none,[],[],[],[],[]⟩⟩]⟩
def indexO_l0_step (x : ((List Int) × (I6 × (((List I3) × ((List I2) × ((List I3) × (List I9)))) × (I2 × (List Int)))))) (s:Int) : Int ⊕ (Int ⊕ Unit) :=
 (if (s < (x.1.length:Int)) then
 (letV (pover ((List.getD x.1 (Int.toNat s) (0:Int)),x.2)) fun y =>
 (if (y = true) then
 (Sum.inr (Sum.inl s)) else
 (Sum.inl (w64 (s + (1:Int)))))) else
 (Sum.inr (Sum.inr (()))))
def indexO_l0_pre (x : ((List Int) × (I6 × (((List I3) × ((List I2) × ((List I3) × (List I9)))) × (I2 × (List Int)))))) (s:Int) : Prop :=
 ((s < (x.1.length:Int)) →
 ((((0:Int) ≤ s) ∧ (s < (x.1.length:Int))) ∧
 (((Int.toNat s) < (List.length x.1)) ∧
 (((Int.toNat s) < (List.length x.1)) ∧
 (pover_pre ((List.getD x.1 (Int.toNat s) (0:Int)),x.2))))))
def indexO_l0_t (x : ((List Int) × (I6 × (((List I3) × ((List I2) × ((List I3) × (List I9)))) × (I2 × (List Int)))))) (s:Int) : Tr (Int ⊕ (Int ⊕ Unit)) true :=
 (.i10 (s < (nL x.1))
 (.oI2 s x.1
 (.fnQ pover_S ((gI x.1 s),x.2) fun y =>
 (.b00 y
 (.ret (.inr (Sum.inl s)))
 (.ret (.inl (w1 s))))))
 (.ret (.inr (Sum.inr (())))))
def indexO (x : ((List Int) × (I6 × (((List I3) × ((List I2) × ((List I3) × (List I9)))) × (I2 × (List Int)))))) : Int :=
 (letV (run (indexO_l0_step x) (0:Int)) fun r =>
 (Sum.elim (fun a =>
 a) (fun b =>
 (-1:Int)) r))
def indexO_pre (x : ((List Int) × (I6 × (((List I3) × ((List I2) × ((List I3) × (List I9)))) × (I2 × (List Int)))))) : Prop :=
 (Term (indexO_l0_step x) (indexO_l0_pre x) (0:Int))
def indexO_t (x : ((List Int) × (I6 × (((List I3) × ((List I2) × ((List I3) × (List I9)))) × (I2 × (List Int)))))) : Tr Int true :=
 (LoopD.lp (indexO_l0 x) (indexO_l0_t x) z0 fun r =>
 (.s00 r (fun a =>
 (.ret a)) (fun b =>
 (.ret (-1:Int)))))
abbrev indexO_S : FnQ := ⟨(.pair (.arg (.one (Ty.sl yi))) (.clo 55 (.pair (.arg (.ptr yy6)) (.var (.ref vpiece))))),(.one yi),indexO_pre,indexO⟩
theorem indexO_ok : SpecOk Try.prog 39 (fnSpecQ indexO_S) := SpecOk.trQ indexO_S indexO_t (fn := Try.f39) tt_ok sp_pover_ok mixed (by kernel_rfl) (ItsOk.nil _ _) (fun x => (LpsOk.tr tt_ok (SpecsOk.ctxI sp_pover_ok (ItsOk.nil _ _)) mixed 0 (indexO_l0 x) (indexO_l0_t x) LpsOk.nil (by kernel_rfl) fun g s Q => (by kernel_rfl))) (fun x => (by kernel_rfl)) fun x Q => (by kernel_rfl)
def sp_indexO : List (Nat × Ev.Spec) := (39,fnSpecQ indexO_S) :: sp_pover
theorem sp_indexO_ok : SpecsOk Try.prog sp_indexO := SpecsOk.add (fn := Try.f39) (by kernel_rfl) indexO_ok sp_pover_ok
def containsO (x : ((List Int) × (I6 × (((List I3) × ((List I2) × ((List I3) × (List I9)))) × (I2 × (List Int)))))) : Bool :=
 (letV (indexO x) fun y =>
 (decide (y ≥ (0:Int))))
def containsO_pre (x : ((List Int) × (I6 × (((List I3) × ((List I2) × ((List I3) × (List I9)))) × (I2 × (List Int)))))) : Prop :=
 (indexO_pre x)
def containsO_t (x : ((List Int) × (I6 × (((List I3) × ((List I2) × ((List I3) × (List I9)))) × (I2 × (List Int)))))) : Tr Bool true :=
 (.fnQ indexO_S x fun y =>
 (.ret (decide (y ≥ z0))))
abbrev containsO_S : FnQ := ⟨(.pair (.arg (.one (Ty.sl yi))) (.clo 55 (.pair (.arg (.ptr yy6)) (.var (.ref vpiece))))),(.one Ty.bool),containsO_pre,containsO⟩
theorem containsO_ok : SpecOk Try.prog 56 (fnSpecQ containsO_S) := SpecOk.trQ containsO_S containsO_t (fn := Try.f56) tt_ok sp_indexO_ok mixed (by kernel_rfl) (ItsOk.nil _ _) (fun x => LpsOk.nil) (fun x => (by kernel_rfl)) fun x Q => (by kernel_rfl)
def sp_containsO : List (Nat × Ev.Spec) := (56,fnSpecQ containsO_S) :: sp_indexO
theorem sp_containsO_ok : SpecsOk Try.prog sp_containsO := SpecsOk.add (fn := Try.f56) (by kernel_rfl) containsO_ok sp_indexO_ok
def pnear (x : (Int × (((List I3) × ((List I2) × ((List I3) × (List I9)))) × (I2 × (List Int))))) : Bool :=
 (letV (containsI (x.2.2.2,x.1)) fun y =>
 y)
def pnear_pre (x : (Int × (((List I3) × ((List I2) × ((List I3) × (List I9)))) × (I2 × (List Int))))) : Prop :=
 (containsI_pre (x.2.2.2,x.1))
def pnear_t (x : (Int × (((List I3) × ((List I2) × ((List I3) × (List I9)))) × (I2 × (List Int))))) : Tr Bool true :=
 (.fn containsI_S (x.2.2.2,x.1) fun y =>
 (.ret y))
abbrev pnear_S : FnQ := ⟨(.pair (.arg (.one yi)) (.var (.ref vpiece))),(.one Ty.bool),pnear_pre,pnear⟩
theorem pnear_ok : SpecOk Try.prog 58 (fnSpecQ pnear_S) := SpecOk.trQ pnear_S pnear_t (fn := Try.f58) tt_ok sp_containsO_ok mixed (by kernel_rfl) (ItsOk.nil _ _) (fun x => LpsOk.nil) (fun x => (by kernel_rfl)) fun x Q => (by kernel_rfl)
def sp_pnear : List (Nat × Ev.Spec) := (58,fnSpecQ pnear_S) :: sp_containsO
theorem sp_pnear_ok : SpecsOk Try.prog sp_pnear := SpecsOk.add (fn := Try.f58) (by kernel_rfl) pnear_ok sp_containsO_ok
def indexP_l0 (x : ((List Int) × (((List I3) × ((List I2) × ((List I3) × (List I9)))) × (I2 × (List Int))))) : LoopD := ⟨[],⟨pvs 19 0 [(0,.v (.one (.full 0))),(1,.v (.one (.clo 58 0 [.elem 1]))),(7,.v (.one (.i .i64))),(8,.v (.one (.i .i64)))],[.row yi 0,.rc [.eptr 2 0],.rc [.eptr 3 0,.i .i64,.i .i64,.full 4],.row (Ty.prod (Ty.sl yy3) (Ty.prod (Ty.sl yy2) (Ty.prod (Ty.sl yy3) (Ty.sl yy9)))) 0,.row yi 0],0,none,[],[0,1,3,4,5,6,7,8,9],[2],[.i],[.n 0,.i (x.1.length:Int),.l yi x.1,.n 0,.n 0,.i x.2.2.1.1,.i x.2.2.1.2,.l (Ty.prod (Ty.sl yy3) (Ty.prod (Ty.sl yy2) (Ty.prod (Ty.sl yy3) (Ty.sl yy9)))) [x.2.1],.l yi x.2.2.2]⟩,[⟨.ret,.ret,⟨pvs 19 0 [(4,.v (.one (.i .i64)))],[],0,none,[],[],[0],[.i],[]⟩⟩,⟨(.exit 0),.normal,⟨pvs 19 0 [],[],0,none,[],[],[],[],[]⟩⟩]⟩
def indexP_l0_step (x : ((List Int) × (((List I3) × ((List I2) × ((List I3) × (List I9)))) × (I2 × (List Int))))) (s:Int) : Int ⊕ (Int ⊕ Unit) :=
 (if (s < (x.1.length:Int)) then
 (letV (pnear ((List.getD x.1 (Int.toNat s) (0:Int)),x.2)) fun y =>
 (if (y = true) then
 (Sum.inr (Sum.inl s)) else
 (Sum.inl (w64 (s + (1:Int)))))) else
 (Sum.inr (Sum.inr (()))))
def indexP_l0_pre (x : ((List Int) × (((List I3) × ((List I2) × ((List I3) × (List I9)))) × (I2 × (List Int))))) (s:Int) : Prop :=
 ((s < (x.1.length:Int)) →
 ((((0:Int) ≤ s) ∧ (s < (x.1.length:Int))) ∧
 (((Int.toNat s) < (List.length x.1)) ∧
 (((Int.toNat s) < (List.length x.1)) ∧
 (pnear_pre ((List.getD x.1 (Int.toNat s) (0:Int)),x.2))))))
def indexP_l0_t (x : ((List Int) × (((List I3) × ((List I2) × ((List I3) × (List I9)))) × (I2 × (List Int))))) (s:Int) : Tr (Int ⊕ (Int ⊕ Unit)) true :=
 (.i10 (s < (nL x.1))
 (.oI2 s x.1
 (.fnQ pnear_S ((gI x.1 s),x.2) fun y =>
 (.b00 y
 (.ret (.inr (Sum.inl s)))
 (.ret (.inl (w1 s))))))
 (.ret (.inr (Sum.inr (())))))
def indexP (x : ((List Int) × (((List I3) × ((List I2) × ((List I3) × (List I9)))) × (I2 × (List Int))))) : Int :=
 (letV (run (indexP_l0_step x) (0:Int)) fun r =>
 (Sum.elim (fun a =>
 a) (fun b =>
 (-1:Int)) r))
def indexP_pre (x : ((List Int) × (((List I3) × ((List I2) × ((List I3) × (List I9)))) × (I2 × (List Int))))) : Prop :=
 (Term (indexP_l0_step x) (indexP_l0_pre x) (0:Int))
def indexP_t (x : ((List Int) × (((List I3) × ((List I2) × ((List I3) × (List I9)))) × (I2 × (List Int))))) : Tr Int true :=
 (LoopD.lp (indexP_l0 x) (indexP_l0_t x) z0 fun r =>
 (.s00 r (fun a =>
 (.ret a)) (fun b =>
 (.ret (-1:Int)))))
abbrev indexP_S : FnQ := ⟨(.pair (.arg (.one (Ty.sl yi))) (.clo 58 (.var (.ref vpiece)))),(.one yi),indexP_pre,indexP⟩
theorem indexP_ok : SpecOk Try.prog 39 (fnSpecQ indexP_S) := SpecOk.trQ indexP_S indexP_t (fn := Try.f39) tt_ok sp_pnear_ok mixed (by kernel_rfl) (ItsOk.nil _ _) (fun x => (LpsOk.tr tt_ok (SpecsOk.ctxI sp_pnear_ok (ItsOk.nil _ _)) mixed 0 (indexP_l0 x) (indexP_l0_t x) LpsOk.nil (by kernel_rfl) fun g s Q => (by kernel_rfl))) (fun x => (by kernel_rfl)) fun x Q => (by kernel_rfl)
def sp_indexP : List (Nat × Ev.Spec) := (39,altSpecQ indexP_S.p (fnSpecQ indexP_S) (fnSpecQ indexO_S)) :: sp_pnear
theorem sp_indexP_ok : SpecsOk Try.prog sp_indexP := SpecsOk.add (fn := Try.f39) (by kernel_rfl) (altSpecQ_ok indexP_ok (indexO_ok)) sp_pnear_ok
def containsP (x : ((List Int) × (((List I3) × ((List I2) × ((List I3) × (List I9)))) × (I2 × (List Int))))) : Bool :=
 (letV (indexP x) fun y =>
 (decide (y ≥ (0:Int))))
def containsP_pre (x : ((List Int) × (((List I3) × ((List I2) × ((List I3) × (List I9)))) × (I2 × (List Int))))) : Prop :=
 (indexP_pre x)
def containsP_t (x : ((List Int) × (((List I3) × ((List I2) × ((List I3) × (List I9)))) × (I2 × (List Int))))) : Tr Bool true :=
 (.fnQ indexP_S x fun y =>
 (.ret (decide (y ≥ z0))))
abbrev containsP_S : FnQ := ⟨(.pair (.arg (.one (Ty.sl yi))) (.clo 58 (.var (.ref vpiece)))),(.one Ty.bool),containsP_pre,containsP⟩
theorem containsP_ok : SpecOk Try.prog 56 (fnSpecQ containsP_S) := SpecOk.trQ containsP_S containsP_t (fn := Try.f56) tt_ok sp_indexP_ok mixed (by kernel_rfl) (ItsOk.nil _ _) (fun x => LpsOk.nil) (fun x => (by kernel_rfl)) fun x Q => (by kernel_rfl)
def sp_containsP : List (Nat × Ev.Spec) := (56,altSpecQ containsP_S.p (fnSpecQ containsP_S) (fnSpecQ containsO_S)) :: sp_indexP
theorem sp_containsP_ok : SpecsOk Try.prog sp_containsP := SpecsOk.add (fn := Try.f56) (by kernel_rfl) (altSpecQ_ok containsP_ok (containsO_ok)) sp_indexP_ok
def pfits (x : ((((List I3) × ((List I2) × ((List I3) × (List I9)))) × (I2 × (List Int))) × Int)) : Bool :=
 (letV (plooks x) fun y =>
 (if ((!y) = true) then
 false else
 (letV (containsI (x.1.2.2,x.2)) fun y_1 =>
 (if (y_1 = true) then
 false else
 (letV (bshadow (x.1.1,(x.2,x.1.2.1.1))) fun y_2 =>
 (letV (containsO (x.1.2.2,(y_2,x.1))) fun y_3 =>
 (if (y_3 = true) then
 false else
 (letV (enext (x.1.1,x.2)) fun y_4 =>
 (if (((x.1.2.2.length:Int) == (0:Int)) = true) then
 true else
 (letV (containsP (y_4.1,x.1)) fun y_5 =>
 y_5))))))))))
def pfits_pre (x : ((((List I3) × ((List I2) × ((List I3) × (List I9)))) × (I2 × (List Int))) × Int)) : Prop :=
 ((plooks_pre x) ∧
 letP (plooks x) fun y =>
 (¬ ((!y) = true) →
 ((containsI_pre (x.1.2.2,x.2)) ∧
 letP (containsI (x.1.2.2,x.2)) fun y_1 =>
 (¬ (y_1 = true) →
 ((bshadow_pre (x.1.1,(x.2,x.1.2.1.1))) ∧
 letP (bshadow (x.1.1,(x.2,x.1.2.1.1))) fun y_2 =>
 ((containsO_pre (x.1.2.2,(y_2,x.1))) ∧
 letP (containsO (x.1.2.2,(y_2,x.1))) fun y_3 =>
 (¬ (y_3 = true) →
 ((enext_pre (x.1.1,x.2)) ∧
 letP (enext (x.1.1,x.2)) fun y_4 =>
 (¬ (((x.1.2.2.length:Int) == (0:Int)) = true) →
 (containsP_pre (y_4.1,x.1)))))))))))
def pfits_t (x : ((((List I3) × ((List I2) × ((List I3) × (List I9)))) × (I2 × (List Int))) × Int)) : Tr Bool true :=
 (.fnQ plooks_S x fun y =>
 (.b01 (!y)
 (.ret false)
 (.fn containsI_S (x.1.2.2,x.2) fun y_1 =>
 (.b01 y_1
 (.ret false)
 (.fn bshadow_S (x.1.1,(x.2,x.1.2.1.1)) fun y_2 =>
 (.fnQ containsO_S (x.1.2.2,(y_2,x.1)) fun y_3 =>
 (.b01 y_3
 (.ret false)
 (.fn enext_S (x.1.1,x.2) fun y_4 =>
 (.b01 ((nL x.1.2.2) == z0)
 (.ret true)
 (.fnQ containsP_S (y_4.1,x.1) fun y_5 =>
 (.ret y_5)))))))))))
abbrev pfits_S : FnQ := ⟨(.pair (.var vpiece) (.arg (.one yi))),(.one Ty.bool),pfits_pre,pfits⟩
theorem pfits_ok : SpecOk Try.prog 40 (fnSpecQ pfits_S) := SpecOk.trQ pfits_S pfits_t (fn := Try.f40) tt_ok sp_containsP_ok mixed (by kernel_rfl) (ItsOk.nil _ _) (fun x => LpsOk.nil) (fun x => (by kernel_rfl)) fun x Q => (by kernel_rfl)
def sp_pfits : List (Nat × Ev.Spec) := (40,fnSpecQ pfits_S) :: sp_containsP
theorem sp_pfits_ok : SpecsOk Try.prog sp_pfits := SpecsOk.add (fn := Try.f40) (by kernel_rfl) pfits_ok sp_containsP_ok
end Go.Proofs.Ytpbbnoggkbfkoaa

namespace Go.Proofs.Ytpbbnoggkbfkoaa
open Go Go.Ev Go.Proofs
def sp_sldel : List (Nat × Ev.Spec) := (41,delSpec) :: sp_pfits
theorem sp_sldel_ok : SpecsOk Try.prog sp_sldel := SpecsOk.add (fn := Try.f41) (by kernel_rfl) sldel_ok sp_pfits_ok
def indexF_l0 (x : ((List Int) × (((List I3) × ((List I2) × ((List I3) × (List I9)))) × (I2 × (List Int))))) : LoopD := ⟨[],⟨pvs 19 0 [(0,.v (.one (.full 0))),(1,.v (.one (.mv 40 false [.elem 1]))),(7,.v (.one (.i .i64))),(8,.v (.one (.i .i64)))],[.row yi 0,.rc [.eptr 2 0,.i .i64,.i .i64,.full 3],.row (Ty.prod (Ty.sl yy3) (Ty.prod (Ty.sl yy2) (Ty.prod (Ty.sl yy3) (Ty.sl yy9)))) 0,.row yi 0],0,none,[],[0,1,3,4,5,6,7,8],[2],[.i],[.n 0,.i (x.1.length:Int),.l yi x.1,.n 0,.i x.2.2.1.1,.i x.2.2.1.2,.l (Ty.prod (Ty.sl yy3) (Ty.prod (Ty.sl yy2) (Ty.prod (Ty.sl yy3) (Ty.sl yy9)))) [x.2.1],.l yi x.2.2.2]⟩,[⟨.ret,.ret,⟨pvs 19 0 [(4,.v (.one (.i .i64)))],[],0,none,[],[],[0],[.i],[]⟩⟩,⟨(.exit 0),.normal,⟨pvs 19 0 [],[],0,none,[],[],[],[],[]⟩⟩]⟩
def indexF_l0_step (x : ((List Int) × (((List I3) × ((List I2) × ((List I3) × (List I9)))) × (I2 × (List Int))))) (s:Int) : Int ⊕ (Int ⊕ Unit) :=
 (if (s < (x.1.length:Int)) then
 (letV (pfits (x.2,(List.getD x.1 (Int.toNat s) (0:Int)))) fun y =>
 (if (y = true) then
 (Sum.inr (Sum.inl s)) else
 (Sum.inl (w64 (s + (1:Int)))))) else
 (Sum.inr (Sum.inr (()))))
def indexF_l0_pre (x : ((List Int) × (((List I3) × ((List I2) × ((List I3) × (List I9)))) × (I2 × (List Int))))) (s:Int) : Prop :=
 ((s < (x.1.length:Int)) →
 ((((0:Int) ≤ s) ∧ (s < (x.1.length:Int))) ∧
 (((Int.toNat s) < (List.length x.1)) ∧
 (((Int.toNat s) < (List.length x.1)) ∧
 (pfits_pre (x.2,(List.getD x.1 (Int.toNat s) (0:Int))))))))
def indexF_l0_t (x : ((List Int) × (((List I3) × ((List I2) × ((List I3) × (List I9)))) × (I2 × (List Int))))) (s:Int) : Tr (Int ⊕ (Int ⊕ Unit)) true :=
 (.i10 (s < (nL x.1))
 (.oI2 s x.1
 (.fnQ pfits_S (x.2,(gI x.1 s)) fun y =>
 (.b00 y
 (.ret (.inr (Sum.inl s)))
 (.ret (.inl (w1 s))))))
 (.ret (.inr (Sum.inr (())))))
def indexF (x : ((List Int) × (((List I3) × ((List I2) × ((List I3) × (List I9)))) × (I2 × (List Int))))) : Int :=
 (letV (run (indexF_l0_step x) (0:Int)) fun r =>
 (Sum.elim (fun a =>
 a) (fun b =>
 (-1:Int)) r))
def indexF_pre (x : ((List Int) × (((List I3) × ((List I2) × ((List I3) × (List I9)))) × (I2 × (List Int))))) : Prop :=
 (Term (indexF_l0_step x) (indexF_l0_pre x) (0:Int))
def indexF_t (x : ((List Int) × (((List I3) × ((List I2) × ((List I3) × (List I9)))) × (I2 × (List Int))))) : Tr Int true :=
 (LoopD.lp (indexF_l0 x) (indexF_l0_t x) z0 fun r =>
 (.s00 r (fun a =>
 (.ret a)) (fun b =>
 (.ret (-1:Int)))))
abbrev indexF_S : FnQ := ⟨(.pair (.arg (.one (Ty.sl yi))) (.mv 40 vpiece)),(.one yi),indexF_pre,indexF⟩
theorem indexF_ok : SpecOk Try.prog 39 (fnSpecQ indexF_S) := SpecOk.trQ indexF_S indexF_t (fn := Try.f39) tt_ok sp_sldel_ok mixed (by kernel_rfl) (ItsOk.nil _ _) (fun x => (LpsOk.tr tt_ok (SpecsOk.ctxI sp_sldel_ok (ItsOk.nil _ _)) mixed 0 (indexF_l0 x) (indexF_l0_t x) LpsOk.nil (by kernel_rfl) fun g s Q => (by kernel_rfl))) (fun x => (by kernel_rfl)) fun x Q => (by kernel_rfl)
def sp_indexF : List (Nat × Ev.Spec) := (39,altSpecQ indexF_S.p (fnSpecQ indexF_S) (altSpecQ indexP_S.p (fnSpecQ indexP_S) (fnSpecQ indexO_S))) :: sp_sldel
theorem sp_indexF_ok : SpecsOk Try.prog sp_indexF := SpecsOk.add (fn := Try.f39) (by kernel_rfl) (altSpecQ_ok indexF_ok (altSpecQ_ok indexP_ok (indexO_ok))) sp_sldel_ok
def cgrow_i0 : ItsB Try.prog := ⟨_,(ItsOk.walk tt_ok sp_indexF_ok mixed 30 (fn := Try.f30) (by kernel_rfl) (ItsOk.nil _ _) fun ys hy => LpsOk.nil)⟩
def cgrow_l0 (x : ((List I3) × ((List I2) × ((List I3) × (List I9))))) : LoopD := ⟨[],⟨pvs 92 0 [(4,.v (.one (.ptr 0 0))),(6,.v (.one (.full 5))),(24,.v (.one (.i .i64))),(25,.v (.one (.i .i64)))],[.cells [.full 1,.full 2,.full 3,.full 4] 100,.row yy3 0,.row yy2 0,.row yy3 0,.row yy9 0,.row yi 2],0,none,[],[0,2,3,4,5],[6,1],[(.l yi),.i],[.i (x.2.2.2.length:Int),.l yy3 x.1,.l yy2 x.2.1,.l yy3 x.2.2.1,.l yy9 x.2.2.2]⟩,[⟨(.exit 0),.normal,⟨pvs 92 0 [(4,.v (.one (.ptr 0 0))),(6,.v (.one (.full 5)))],[.cells [.full 1,.full 2,.full 3,.full 4] 100,.row yy3 0,.row yy2 0,.row yy3 0,.row yy9 0,.row yi 2],0,none,[],[0,1,2,3],[4],[(.l yi)],[.l yy3 x.1,.l yy2 x.2.1,.l yy3 x.2.2.1,.l yy9 x.2.2.2]⟩⟩]⟩
def cgrow_l0_step (x : ((List I3) × ((List I2) × ((List I3) × (List I9))))) (s : ((List Int) × Int)) : ((List Int) × Int) ⊕ (List Int) :=
 (if (s.2 < (x.2.2.2.length:Int)) then
 (letV (bway (x,s.2)) fun y =>
 (if (y.2 = true) then
 (Sum.inl ((s.1 ++ [s.2]),(w64 (s.2 + (1:Int))))) else
 (Sum.inl (s.1,(w64 (s.2 + (1:Int))))))) else
 (Sum.inr (s.1)))
def cgrow_l0_pre (x : ((List I3) × ((List I2) × ((List I3) × (List I9))))) (s : ((List Int) × Int)) : Prop :=
 ((s.2 < (x.2.2.2.length:Int)) →
 ((bway_pre (x,s.2)) ∧
 letP (bway (x,s.2)) fun y =>
 ((y.2 = true) →
 (((List.length s.1) + 1) < 1099511627776))))
def cgrow_l0_t (x : ((List I3) × ((List I2) × ((List I3) × (List I9))))) (s : ((List Int) × Int)) : Tr (((List Int) × Int) ⊕ (List Int)) true :=
 (.i10 (s.2 < (nL x.2.2.2))
 (.fn bway_S (x,s.2) fun y =>
 (.b10 y.2
 (.od (((List.length s.1) + 1) < 1099511627776)
 (.ret (.inl ((s.1 ++ [s.2]),(w1 s.2)))))
 (.ret (.inl (s.1,(w1 s.2))))))
 (.ret (.inr (s.1))))
def cgrow_l4 (x : ((List I3) × ((List I2) × ((List I3) × (List I9))))) : LoopD := ⟨[],⟨pvs 92 0 [(4,.v (.one (.ptr 0 0))),(6,.v (.one (.full 5))),(10,.v (.one (.full 6))),(11,.v (.one (.ptr 7 0))),(13,.v (.one (.ptr 8 0))),(14,.v (.one (.i .i64)))],[.cells [.full 1,.full 2,.full 3,.full 4] 100,.row yy3 0,.row yy2 0,.row yy3 0,.row yy9 0,.row yi 2,.row (Ty.prod yi (Ty.prod yi (Ty.sl yi))) 2,.cells [.i .i64,.i .i64] 89,.cells [.ptr 0 0,.i .i64,.i .i64,.full 9] 94,.row yi 2],0,none,[],[1,2,3,4],[5,6,7,8,9,10,11,0],[(.l yi),(.l (Ty.prod yi (Ty.prod yi (Ty.sl yi)))),.i,.i,.i,.i,(.l yi),.i],[.l yy3 x.1,.l yy2 x.2.1,.l yy3 x.2.2.1,.l yy9 x.2.2.2]⟩,[⟨(.exit 4),.normal,⟨pvs 92 0 [(4,.v (.one (.ptr 0 0))),(6,.v (.one (.full 5))),(10,.v (.one (.full 6))),(11,.v (.one (.ptr 7 0))),(13,.v (.one (.ptr 8 0)))],[.cells [.full 1,.full 2,.full 3,.full 4] 100,.row yy3 0,.row yy2 0,.row yy3 0,.row yy9 0,.row yi 2,.row (Ty.prod yi (Ty.prod yi (Ty.sl yi))) 2,.cells [.i .i64,.i .i64] 89,.cells [.ptr 0 0,.i .i64,.i .i64,.full 9] 94,.row yi 2],0,none,[],[0,1,2,3],[4,5,6,7,8,9,10],[(.l yi),(.l (Ty.prod yi (Ty.prod yi (Ty.sl yi)))),.i,.i,.i,.i,(.l yi)],[.l yy3 x.1,.l yy2 x.2.1,.l yy3 x.2.2.1,.l yy9 x.2.2.2]⟩⟩]⟩
def cgrow_l4_step (x : ((List I3) × ((List I2) × ((List I3) × (List I9))))) (s : ((List Int) × ((List (Int × (Int × (List Int)))) × (Int × (Int × (Int × (Int × ((List Int) × Int)))))))) : ((List Int) × ((List (Int × (Int × (List Int)))) × (Int × (Int × (Int × (Int × ((List Int) × Int))))))) ⊕ ((List Int) × ((List (Int × (Int × (List Int)))) × (Int × (Int × (Int × (Int × (List Int))))))) :=
 (if (s.2.2.2.2.2.2.2 ≥ (0:Int)) then
 (letV (delZ s.1 s.2.2.2.2.2.2.2 (w64 (s.2.2.2.2.2.2.2 + (1:Int)))) fun y =>
 (letV (indexF (y,(x,((s.2.2.2.2.1,s.2.2.2.2.2.1),(s.2.2.2.2.2.2.1 ++ [(List.getD s.1 (Int.toNat s.2.2.2.2.2.2.2) (0:Int))]))))) fun y_1 =>
 (Sum.inl (y,(s.2.1,(s.2.2.1,(s.2.2.2.1,(s.2.2.2.2.1,(s.2.2.2.2.2.1,((s.2.2.2.2.2.2.1 ++ [(List.getD s.1 (Int.toNat s.2.2.2.2.2.2.2) (0:Int))]),y_1)))))))))) else
 (Sum.inr ((s.1,(s.2.1,(s.2.2.1,(s.2.2.2.1,(s.2.2.2.2.1,(s.2.2.2.2.2.1,s.2.2.2.2.2.2.1)))))))))
def cgrow_l4_pre (x : ((List I3) × ((List I2) × ((List I3) × (List I9))))) (s : ((List Int) × ((List (Int × (Int × (List Int)))) × (Int × (Int × (Int × (Int × ((List Int) × Int)))))))) : Prop :=
 ((s.2.2.2.2.2.2.2 ≥ (0:Int)) →
 ((((0:Int) ≤ s.2.2.2.2.2.2.2) ∧ (s.2.2.2.2.2.2.2 < (s.1.length:Int))) ∧
 (((Int.toNat s.2.2.2.2.2.2.2) < (List.length s.1)) ∧
 (((Int.toNat s.2.2.2.2.2.2.2) < (List.length s.1)) ∧
 ((((List.length s.2.2.2.2.2.2.1) + 1) < 1099511627776) ∧
 ((((0:Int) ≤ s.2.2.2.2.2.2.2) ∧ ((s.2.2.2.2.2.2.2 ≤ (w64 (s.2.2.2.2.2.2.2 + (1:Int)))) ∧ ((w64 (s.2.2.2.2.2.2.2 + (1:Int))) ≤ (s.1.length:Int)))) ∧
 (letP (delZ s.1 s.2.2.2.2.2.2.2 (w64 (s.2.2.2.2.2.2.2 + (1:Int)))) fun y =>
 (indexF_pre (y,(x,((s.2.2.2.2.1,s.2.2.2.2.2.1),(s.2.2.2.2.2.2.1 ++ [(List.getD s.1 (Int.toNat s.2.2.2.2.2.2.2) (0:Int))]))))))))))))
def cgrow_l4_t (x : ((List I3) × ((List I2) × ((List I3) × (List I9))))) (s : ((List Int) × ((List (Int × (Int × (List Int)))) × (Int × (Int × (Int × (Int × ((List Int) × Int)))))))) : Tr (((List Int) × ((List (Int × (Int × (List Int)))) × (Int × (Int × (Int × (Int × ((List Int) × Int))))))) ⊕ ((List Int) × ((List (Int × (Int × (List Int)))) × (Int × (Int × (Int × (Int × (List Int)))))))) true :=
 (.i10 (s.2.2.2.2.2.2.2 ≥ z0)
 (.oI2 s.2.2.2.2.2.2.2 s.1
 (.od (((List.length s.2.2.2.2.2.2.1) + 1) < 1099511627776)
 (.og ((decide (z0 ≤ s.2.2.2.2.2.2.2)) && ((decide (s.2.2.2.2.2.2.2 ≤ (w1 s.2.2.2.2.2.2.2))) && (decide ((w1 s.2.2.2.2.2.2.2) ≤ (nL s.1))))) ((z0 ≤ s.2.2.2.2.2.2.2) ∧ ((s.2.2.2.2.2.2.2 ≤ (w1 s.2.2.2.2.2.2.2)) ∧ ((w1 s.2.2.2.2.2.2.2) ≤ (nL s.1)))) (fun h => (and_t (decide_eq_true h.1) (and_t (decide_eq_true h.2.1) (decide_eq_true h.2.2))))
 (.lt (delZ s.1 s.2.2.2.2.2.2.2 (w1 s.2.2.2.2.2.2.2)) fun y =>
 (.fnQ indexF_S (y,(x,((s.2.2.2.2.1,s.2.2.2.2.2.1),(s.2.2.2.2.2.2.1 ++ [(gI s.1 s.2.2.2.2.2.2.2)])))) fun y_1 =>
 (.ret (.inl (y,(s.2.1,(s.2.2.1,(s.2.2.2.1,(s.2.2.2.2.1,(s.2.2.2.2.2.1,((s.2.2.2.2.2.2.1 ++ [(gI s.1 s.2.2.2.2.2.2.2)]),y_1))))))))))))))
 (.ret (.inr ((s.1,(s.2.1,(s.2.2.1,(s.2.2.2.1,(s.2.2.2.2.1,(s.2.2.2.2.2.1,s.2.2.2.2.2.2.1))))))))))
def cgrow_l2 (x : ((List I3) × ((List I2) × ((List I3) × (List I9))))) : LoopD := ⟨[],⟨pvs 92 0 [(4,.v (.one (.ptr 0 0))),(6,.v (.one (.full 5))),(10,.v (.one (.full 6)))],[.cells [.full 1,.full 2,.full 3,.full 4] 100,.row yy3 0,.row yy2 0,.row yy3 0,.row yy9 0,.row yi 2,.row (Ty.prod yi (Ty.prod yi (Ty.sl yi))) 2],0,none,[],[0,1,2,3],[4,5],[(.l yi),(.l (Ty.prod yi (Ty.prod yi (Ty.sl yi))))],[.l yy3 x.1,.l yy2 x.2.1,.l yy3 x.2.2.1,.l yy9 x.2.2.2]⟩,[⟨(.exit 2),.normal,⟨pvs 92 0 [(10,.v (.one (.full 0)))],[.row (Ty.prod yi (Ty.prod yi (Ty.sl yi))) 2],0,none,[],[],[0],[(.l (Ty.prod yi (Ty.prod yi (Ty.sl yi))))],[]⟩⟩]⟩
def cgrow_l2_step (x : ((List I3) × ((List I2) × ((List I3) × (List I9))))) (s : ((List Int) × (List (Int × (Int × (List Int)))))) : ((List Int) × (List (Int × (Int × (List Int))))) ⊕ (List (Int × (Int × (List Int)))) :=
 (if ((s.1.length:Int) > (0:Int)) then
 (letV (bway (x,(List.getD s.1 0 (0:Int)))) fun y =>
 (letV (run (cgrow_l4_step x) (s.1,(s.2,(y.1.1,(y.1.2,(y.1.1,(y.1.2,([],(0:Int))))))))) fun r =>
 (Sum.inl (r.1,(r.2.1 ++ [(r.2.2.1,(r.2.2.2.1,r.2.2.2.2.2.2))]))))) else
 (Sum.inr (s.2)))
def cgrow_l2_pre (x : ((List I3) × ((List I2) × ((List I3) × (List I9))))) (s : ((List Int) × (List (Int × (Int × (List Int)))))) : Prop :=
 (((s.1.length:Int) > (0:Int)) →
 (((0:Int) < (s.1.length:Int)) ∧
 ((0 < (List.length s.1)) ∧
 ((0 < (List.length s.1)) ∧
 ((bway_pre (x,(List.getD s.1 0 (0:Int)))) ∧
 letP (bway (x,(List.getD s.1 0 (0:Int)))) fun y =>
 (Term (cgrow_l4_step x) (cgrow_l4_pre x) (s.1,(s.2,(y.1.1,(y.1.2,(y.1.1,(y.1.2,([],(0:Int)))))))) ∧
 letP (run (cgrow_l4_step x) (s.1,(s.2,(y.1.1,(y.1.2,(y.1.1,(y.1.2,([],(0:Int))))))))) fun r =>
 (((List.length r.2.1) + 1) < 1099511627776)))))))
def cgrow_l2_t (x : ((List I3) × ((List I2) × ((List I3) × (List I9))))) (s : ((List Int) × (List (Int × (Int × (List Int)))))) : Tr (((List Int) × (List (Int × (Int × (List Int))))) ⊕ (List (Int × (Int × (List Int))))) true :=
 (.i10 ((nL s.1) > z0)
 (.og (true && (decide (z0 < (nL s.1)))) (z0 < (nL s.1)) (fun h => (and_t rfl (decide_eq_true h)))
 (.od (0 < (List.length s.1))
 (.od (0 < (List.length s.1))
 (.fn bway_S (x,(List.getD s.1 0 z0)) fun y =>
 (LoopD.lp (cgrow_l4 x) (cgrow_l4_t x) (s.1,(s.2,(y.1.1,(y.1.2,(y.1.1,(y.1.2,([],z0))))))) fun r =>
 (.od (((List.length r.2.1) + 1) < 1099511627776)
 (.ret (.inl (r.1,(r.2.1 ++ [(r.2.2.1,(r.2.2.2.1,r.2.2.2.2.2.2))]))))))))))
 (.ret (.inr (s.2))))
def cgrow (x : ((List I3) × ((List I2) × ((List I3) × (List I9))))) : ((List (Int × (Int × (List Int)))) × Int) :=
 (letV (tame x) fun y =>
 (if ((!y) = true) then
 ([],(1:Int)) else
 (letV (run (cgrow_l0_step x) ([],(0:Int))) fun r =>
 (letV (run (cgrow_l2_step x) (r,[])) fun r_1 =>
 (r_1,(0:Int))))))
def cgrow_pre (x : ((List I3) × ((List I2) × ((List I3) × (List I9))))) : Prop :=
 ((tame_pre x) ∧
 letP (tame x) fun y =>
 (¬ ((!y) = true) →
 (Term (cgrow_l0_step x) (cgrow_l0_pre x) ([],(0:Int)) ∧
 letP (run (cgrow_l0_step x) ([],(0:Int))) fun r =>
 (Term (cgrow_l2_step x) (cgrow_l2_pre x) (r,[])))))
def cgrow_t (x : ((List I3) × ((List I2) × ((List I3) × (List I9))))) : Tr ((List (Int × (Int × (List Int)))) × Int) true :=
 (.allE
 (.fn tame_S x fun y =>
 (.pn 0 5
 (.b01 (!y)
 (.ret ([],z1))
 (LoopD.lp (cgrow_l0 x) (cgrow_l0_t x) ([],z0) fun r =>
 (LoopD.lp (cgrow_l2 x) (cgrow_l2_t x) (r,[]) fun r_1 =>
 (.ret (r_1,z0))))))))
abbrev cgrow_S : FnS := ⟨(.agg (Ty.prod (Ty.sl yy3) (Ty.prod (Ty.sl yy2) (Ty.prod (Ty.sl yy3) (Ty.sl yy9))))),(.pair (.one (Ty.sl (Ty.prod yi (Ty.prod yi (Ty.sl yi))))) (.one yi)),cgrow_pre,cgrow⟩
theorem cgrow_ok : SpecOk Try.prog 18 (fnSpec cgrow_S) := SpecOk.tr cgrow_S cgrow_t (fn := Try.f18) tt_ok sp_indexF_ok mixed (by kernel_rfl) cgrow_i0.ok (fun x => (LpsOk.tr tt_ok (SpecsOk.ctxI sp_indexF_ok cgrow_i0.ok) mixed 0 (cgrow_l0 x) (cgrow_l0_t x) (LpsOk.tr tt_ok (SpecsOk.ctxI sp_indexF_ok cgrow_i0.ok) mixed 2 (cgrow_l2 x) (cgrow_l2_t x) (LpsOk.tr tt_ok (SpecsOk.ctxI sp_indexF_ok cgrow_i0.ok) mixed 4 (cgrow_l4 x) (cgrow_l4_t x) LpsOk.nil (by kernel_rfl) fun g s Q => (by kernel_rfl)) (by kernel_rfl) fun g s Q => (by kernel_rfl)) (by kernel_rfl) fun g s Q => (by kernel_rfl))) (fun x => (by kernel_rfl)) fun x Q => (by kernel_rfl)
end Go.Proofs.Ytpbbnoggkbfkoaa
