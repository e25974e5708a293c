/- Models of functions of layer 14: neighbours. -/
import Derived.Test.YtkbmjhabfjgoiaaSh
noncomputable section
set_option linter.unusedSectionVars false
set_option linter.unusedVariables false
set_option linter.unusedSimpArgs false
namespace Go.Proofs.Ytkbmjhabfjgoiaa
open Go Go.Ev Go.Proofs
def sp_slsort : List (Nat × Ev.Spec) := (67,sortSpec) :: sp_etable
theorem sp_slsort_ok : SpecsOk Try.prog sp_slsort := SpecsOk.add (fn := Try.f67) (by kernel_rfl) slsort_ok sp_etable_ok
def sp_slcomp : List (Nat × Ev.Spec) := (68,compSpec) :: sp_slsort
theorem sp_slcomp_ok : SpecsOk Try.prog sp_slcomp := SpecsOk.add (fn := Try.f68) (by kernel_rfl) slcomp_ok sp_slsort_ok
def enear_l2_7 (x : ((List (I2 × (List Int))) × (((List I3) × ((List I2) × ((List I3) × (List I9)))) × Int))) : LoopD := ⟨[.env],⟨pvs 44 0 [(0,.v (.one (.mp 0))),(2,.v (.one (.i .i64))),(7,.v (.one (.full 7))),(17,.v (.one (.full 8))),(18,.v (.one (.i .i64))),(19,.v (.one (.i .i64))),(25,.v (.one (.full 9))),(26,.v (.one (.i .i64))),(27,.v (.one (.i .i64)))],[.grp Bool.true yy2 yi 1,.set 0,.row yy3 0,.row yy2 0,.row yy3 0,.row yy9 0,.pin 6,.row yi 2,.row yy2 2,.gv 0 1 yy2 yi],7,none,[10],[0,5,6,7,8,9],[11,12,1,2,13,14,3,4],[(.l yi),(.l yy2),.i,.i,(.tv yy2),(.l yi),.i,.i],[.i x.2.2,.l (.prod yy2 (.sl yi)) x.1,.l yy3 x.2.1.1,.l yy2 x.2.1.2.1,.l yy3 x.2.1.2.2.1,.l yy9 x.2.1.2.2.2]⟩,[⟨(.exit 2),.normal,⟨pvs 44 0 [(0,.v (.one (.mp 0))),(2,.v (.one (.i .i64))),(7,.v (.one (.full 7))),(17,.v (.one (.full 8))),(18,.v (.one (.i .i64))),(19,.v (.one (.i .i64)))],[.grp Bool.true yy2 yi 1,.set 0,.row yy3 0,.row yy2 0,.row yy3 0,.row yy9 0,.pin 6,.row yi 2,.row yy2 2],7,none,[8],[0,3,4,5,6,7],[9,10,1,2],[(.l yi),(.l yy2),.i,.i],[.i x.2.2,.l (.prod yy2 (.sl yi)) x.1,.l yy3 x.2.1.1,.l yy2 x.2.1.2.1,.l yy3 x.2.1.2.2.1,.l yy9 x.2.1.2.2.2]⟩⟩]⟩
def enear_l2_7_step (x : ((List (I2 × (List Int))) × (((List I3) × ((List I2) × ((List I3) × (List I9)))) × Int))) (s : ((List Int) × ((List I2) × (Int × (Int × (I2 × ((List Int) × I2))))))) : ((List Int) × ((List I2) × (Int × (Int × (I2 × ((List Int) × I2)))))) ⊕ ((List Int) × ((List I2) × I2)) :=
 (if (s.2.2.2.2.2.2.2 < s.2.2.2.2.2.2.1) then
 (if (((List.getD s.2.2.2.2.2.1 (Int.toNat s.2.2.2.2.2.2.2) (0:Int)) != x.2.2) = true) then
 (Sum.inl ((s.1 ++ [(List.getD s.2.2.2.2.2.1 (Int.toNat s.2.2.2.2.2.2.2) (0:Int))]),(s.2.1,(s.2.2.1,(s.2.2.2.1,(s.2.2.2.2.1,(s.2.2.2.2.2.1,(s.2.2.2.2.2.2.1,(w64 (s.2.2.2.2.2.2.2 + (1:Int))))))))))) else
 (Sum.inl (s.1,(s.2.1,(s.2.2.1,(s.2.2.2.1,(s.2.2.2.2.1,(s.2.2.2.2.2.1,(s.2.2.2.2.2.2.1,(w64 (s.2.2.2.2.2.2.2 + (1:Int)))))))))))) else
 (Sum.inr ((s.1,(s.2.1,(s.2.2.1,s.2.2.2.1))))))
def enear_l2_7_pre (x : ((List (I2 × (List Int))) × (((List I3) × ((List I2) × ((List I3) × (List I9)))) × Int))) (s : ((List Int) × ((List I2) × (Int × (Int × (I2 × ((List Int) × I2))))))) : Prop :=
 ((s.2.2.2.2.2.2.2 < s.2.2.2.2.2.2.1) →
 ((((0:Int) ≤ s.2.2.2.2.2.2.2) ∧ (s.2.2.2.2.2.2.2 < (s.2.2.2.2.2.1.length:Int))) ∧
 (((Int.toNat s.2.2.2.2.2.2.2) < (List.length s.2.2.2.2.2.1)) ∧
 (((Int.toNat s.2.2.2.2.2.2.2) < (List.length s.2.2.2.2.2.1)) ∧
 ((((List.getD s.2.2.2.2.2.1 (Int.toNat s.2.2.2.2.2.2.2) (0:Int)) != x.2.2) = true) →
 (((List.length s.1) + 1) < 1099511627776))))))
def enear_l2_7_t (x : ((List (I2 × (List Int))) × (((List I3) × ((List I2) × ((List I3) × (List I9)))) × Int))) (s : ((List Int) × ((List I2) × (Int × (Int × (I2 × ((List Int) × I2))))))) : Tr (((List Int) × ((List I2) × (Int × (Int × (I2 × ((List Int) × I2)))))) ⊕ ((List Int) × ((List I2) × I2))) true :=
 (.i10 (s.2.2.2.2.2.2.2 < s.2.2.2.2.2.2.1)
 (.oI2 s.2.2.2.2.2.2.2 s.2.2.2.2.2.1
 (.b10 ((gI s.2.2.2.2.2.1 s.2.2.2.2.2.2.2) != x.2.2)
 (.od (((List.length s.1) + 1) < 1099511627776)
 (.ret (.inl ((s.1 ++ [(gI s.2.2.2.2.2.1 s.2.2.2.2.2.2.2)]),(s.2.1,(s.2.2.1,(s.2.2.2.1,(s.2.2.2.2.1,(s.2.2.2.2.2.1,(s.2.2.2.2.2.2.1,(w1 s.2.2.2.2.2.2.2)))))))))))
 (.ret (.inl (s.1,(s.2.1,(s.2.2.1,(s.2.2.2.1,(s.2.2.2.2.1,(s.2.2.2.2.2.1,(s.2.2.2.2.2.2.1,(w1 s.2.2.2.2.2.2.2))))))))))))
 (.ret (.inr ((s.1,(s.2.1,(s.2.2.1,s.2.2.2.1)))))))
def enear_l0_7 (x : ((List (I2 × (List Int))) × (((List I3) × ((List I2) × ((List I3) × (List I9)))) × Int))) : LoopD := ⟨[.env],⟨pvs 44 0 [(0,.v (.one (.mp 0))),(2,.v (.one (.i .i64))),(7,.v (.one (.full 7))),(17,.v (.one (.full 8))),(18,.v (.one (.i .i64))),(19,.v (.one (.i .i64)))],[.grp Bool.true yy2 yi 1,.set 0,.row yy3 0,.row yy2 0,.row yy3 0,.row yy9 0,.pin 6,.row yi 2,.row yy2 2],7,none,[8],[0,3,4,5,6,7],[9,10,1,2],[(.l yi),(.l yy2),.i,.i],[.i x.2.2,.l (.prod yy2 (.sl yi)) x.1,.l yy3 x.2.1.1,.l yy2 x.2.1.2.1,.l yy3 x.2.1.2.2.1,.l yy9 x.2.1.2.2.2]⟩,[⟨(.exit 0),.normal,⟨pvs 44 0 [(7,.v (.one (.full 7)))],[.grp Bool.true yy2 yi 1,.set 0,.row yy3 0,.row yy2 0,.row yy3 0,.row yy9 0,.pin 6,.row yi 2],7,none,[5],[0,1,2,3,4],[6],[(.l yi)],[.l (.prod yy2 (.sl yi)) x.1,.l yy3 x.2.1.1,.l yy2 x.2.1.2.1,.l yy3 x.2.1.2.2.1,.l yy9 x.2.1.2.2.2]⟩⟩]⟩
def enear_l0_7_step (x : ((List (I2 × (List Int))) × (((List I3) × ((List I2) × ((List I3) × (List I9)))) × Int))) (s : ((List Int) × ((List I2) × I2))) : ((List Int) × ((List I2) × I2)) ⊕ (List Int) :=
 (if (s.2.2.2 < s.2.2.1) then
 (letV (lookD (k := yy2) x.1 (List.getD s.2.1 (Int.toNat s.2.2.2) ((0:Int),(0:Int))) []) fun y =>
 (letV (run (enear_l2_7_step x) (s.1,(s.2.1,(s.2.2.1,(s.2.2.2,((List.getD s.2.1 (Int.toNat s.2.2.2) ((0:Int),(0:Int))),(y,((y.length:Int),(0:Int))))))))) fun r =>
 (Sum.inl (r.1,(r.2.1,(r.2.2.1,(w64 (r.2.2.2 + (1:Int))))))))) else
 (Sum.inr (s.1)))
def enear_l0_7_pre (x : ((List (I2 × (List Int))) × (((List I3) × ((List I2) × ((List I3) × (List I9)))) × Int))) (s : ((List Int) × ((List I2) × I2))) : Prop :=
 ((s.2.2.2 < s.2.2.1) →
 ((((0:Int) ≤ s.2.2.2) ∧ (s.2.2.2 < (s.2.1.length:Int))) ∧
 (((Int.toNat s.2.2.2) < (List.length s.2.1)) ∧
 (((Int.toNat s.2.2.2) < (List.length s.2.1)) ∧
 (letP (lookD (k := yy2) x.1 (List.getD s.2.1 (Int.toNat s.2.2.2) ((0:Int),(0:Int))) []) fun y =>
 (Term (enear_l2_7_step x) (enear_l2_7_pre x) (s.1,(s.2.1,(s.2.2.1,(s.2.2.2,((List.getD s.2.1 (Int.toNat s.2.2.2) ((0:Int),(0:Int))),(y,((y.length:Int),(0:Int))))))))))))))
def enear_l0_7_t (x : ((List (I2 × (List Int))) × (((List I3) × ((List I2) × ((List I3) × (List I9)))) × Int))) (s : ((List Int) × ((List I2) × I2))) : Tr (((List Int) × ((List I2) × I2)) ⊕ (List Int)) true :=
 (.i10 (s.2.2.2 < s.2.2.1)
 (.oI2 s.2.2.2 s.2.1
 (.fact (KeyE tt 118 yy2) key_118
 (.lt (lookD (k := yy2) x.1 (gT s.2.1 s.2.2.2 zz2) []) fun y =>
 (LoopD.lp (enear_l2_7 x) (enear_l2_7_t x) (s.1,(s.2.1,(s.2.2.1,(s.2.2.2,((gT s.2.1 s.2.2.2 zz2),(y,((nL y),z0))))))) fun r =>
 (.ret (.inl (r.1,(r.2.1,(r.2.2.1,(w1 r.2.2.2))))))))))
 (.ret (.inr (s.1))))
def enear (x : ((List (I2 × (List Int))) × (((List I3) × ((List I2) × ((List I3) × (List I9)))) × Int))) : ((List Int) × (List (I2 × (List Int)))) :=
 (letV (epairs (List.getD x.2.1.2.2.2 (Int.toNat x.2.2) (((0:Int),((0:Int),(0:Int))),(((0:Int),((0:Int),(0:Int))),((0:Int),((0:Int),(0:Int))))))) fun y =>
 (letV (run (enear_l0_7_step x) ([],(y,((y.length:Int),(0:Int))))) fun r =>
 (letV (sortZ r) fun y_1 =>
 (letV (compZ y_1) fun y_2 =>
 (y_2,x.1)))))
def enear_pre (x : ((List (I2 × (List Int))) × (((List I3) × ((List I2) × ((List I3) × (List I9)))) × Int))) : Prop :=
 ((((0:Int) ≤ x.2.2) ∧ (x.2.2 < (x.2.1.2.2.2.length:Int))) ∧
 (((Int.toNat x.2.2) < (List.length x.2.1.2.2.2)) ∧
 (((Int.toNat x.2.2) < (List.length x.2.1.2.2.2)) ∧
 ((epairs_pre (List.getD x.2.1.2.2.2 (Int.toNat x.2.2) (((0:Int),((0:Int),(0:Int))),(((0:Int),((0:Int),(0:Int))),((0:Int),((0:Int),(0:Int))))))) ∧
 letP (epairs (List.getD x.2.1.2.2.2 (Int.toNat x.2.2) (((0:Int),((0:Int),(0:Int))),(((0:Int),((0:Int),(0:Int))),((0:Int),((0:Int),(0:Int))))))) fun y =>
 (Term (enear_l0_7_step x) (enear_l0_7_pre x) ([],(y,((y.length:Int),(0:Int)))) ∧
 letP (run (enear_l0_7_step x) ([],(y,((y.length:Int),(0:Int))))) fun r =>
 (((List.length r) < 1099511627776) ∧
 (letP (sortZ r) fun y_1 =>
 ((List.length y_1) < 1099511627776))))))))
def enear_t (x : ((List (I2 × (List Int))) × (((List I3) × ((List I2) × ((List I3) × (List I9)))) × Int))) : Tr ((List Int) × (List (I2 × (List Int)))) true :=
 (.oI2 x.2.2 x.2.1.2.2.2
 (.fn epairs_S (gT x.2.1.2.2.2 x.2.2 zz9) fun y =>
 (LoopD.lp (enear_l0_7 x) (enear_l0_7_t x) ([],(y,((nL y),z0))) fun r =>
 (.od ((List.length r) < 1099511627776)
 (.lt (sortZ r) fun y_1 =>
 (.od ((List.length y_1) < 1099511627776)
 (.lt (compZ y_1) fun y_2 =>
 (.pn 0 6
 (.ret (y_2,x.1))))))))))
abbrev enear_S : FnL := ⟨(LPar.mk true yy2 yi (.pair (.agg (Ty.prod (Ty.sl yy3) (Ty.prod (Ty.sl yy2) (Ty.prod (Ty.sl yy3) (Ty.sl yy9))))) (.one yi))),(.one (Ty.sl yi)),enear_pre,enear⟩
theorem enear_ok : SpecOk Try.prog 55 (fnSpecL enear_S) := SpecOk.trL enear_S enear_t (fn := Try.f55) tt_ok sp_slcomp_ok mixed (by kernel_rfl) (ItsOk.nil _ _) (fun x => (LpsOk.tr tt_ok (SpecsOk.ctxI sp_slcomp_ok (ItsOk.nil _ _)) mixed 0 (enear_l0_7 x) (enear_l0_7_t x) (LpsOk.tr tt_ok (SpecsOk.ctxI sp_slcomp_ok (ItsOk.nil _ _)) mixed 2 (enear_l2_7 x) (enear_l2_7_t x) LpsOk.nil (by kernel_rfl) fun g s Q => (by kernel_rfl)) (by kernel_rfl) fun g s Q => (by kernel_rfl))) (fun x => (by kernel_rfl)) fun x r0 Q => (by kernel_rfl)
def sp_enear : List (Nat × Ev.Spec) := (55,fnSpecL enear_S) :: sp_slcomp
theorem sp_enear_ok : SpecsOk Try.prog sp_enear := SpecsOk.add (fn := Try.f55) (by kernel_rfl) enear_ok sp_slcomp_ok
def enext (x : (((List I3) × ((List I2) × ((List I3) × (List I9)))) × Int)) : ((List Int) × Int) :=
 (letV (meshis x.1) fun y =>
 (if ((!y) = true) then
 ([],(1:Int)) else
 (if (x.2 < (0:Int)) then
 ([],(1:Int)) else
 (if (x.2 ≥ (x.1.2.2.2.length:Int)) then
 ([],(1:Int)) else
 (letV (etable x.1) fun y_1 =>
 (letV (enear (y_1,x)) fun y_2 =>
 (y_2.1,(0:Int))))))))
def enext_pre (x : (((List I3) × ((List I2) × ((List I3) × (List I9)))) × Int)) : Prop :=
 ((meshis_pre x.1) ∧
 letP (meshis x.1) fun y =>
 (¬ ((!y) = true) →
 (¬ (x.2 < (0:Int)) →
 (¬ (x.2 ≥ (x.1.2.2.2.length:Int)) →
 ((etable_pre x.1) ∧
 letP (etable x.1) fun y_1 =>
 (enear_pre (y_1,x)))))))
def enext_t (x : (((List I3) × ((List I2) × ((List I3) × (List I9)))) × Int)) : Tr ((List Int) × Int) true :=
 (.fn meshis_S x.1 fun y =>
 (.b01 (!y)
 (.ret ([],z1))
 (.i01 (x.2 < z0)
 (.ret ([],z1))
 (.i01 (x.2 ≥ (nL x.1.2.2.2))
 (.ret ([],z1))
 (.fnG etable_S x.1 fun y_1 =>
 (.fnL enear_S (y_1,x) fun y_2 =>
 (.ret (y_2.1,z0))))))))
abbrev enext_S : FnS := ⟨(.pair (.agg (Ty.prod (Ty.sl yy3) (Ty.prod (Ty.sl yy2) (Ty.prod (Ty.sl yy3) (Ty.sl yy9))))) (.one yi)),(.pair (.one (Ty.sl yi)) (.one yi)),enext_pre,enext⟩
theorem enext_ok : SpecOk Try.prog 41 (fnSpec enext_S) := SpecOk.tr enext_S enext_t (fn := Try.f41) tt_ok sp_enear_ok mixed (by kernel_rfl) (ItsOk.nil _ _) (fun x => LpsOk.nil) (fun x => (by kernel_rfl)) fun x Q => (by kernel_rfl)
def sp_enext : List (Nat × Ev.Spec) := (41,fnSpec enext_S) :: sp_enear
theorem sp_enext_ok : SpecsOk Try.prog sp_enext := SpecsOk.add (fn := Try.f41) (by kernel_rfl) enext_ok sp_enear_ok
def indexI_l0 (x : ((List Int) × Int)) : LoopD := ⟨[],⟨pvs 19 0 [(0,.v (.one (.full 0))),(1,.v (.one (.i .i64))),(7,.v (.one (.i .i64))),(8,.v (.one (.i .i64)))],[.row yi 0],0,none,[],[0,1,3],[2],[.i],[.i x.2,.i (x.1.length:Int),.l yi x.1]⟩,[⟨.ret,.ret,⟨pvs 19 0 [(4,.v (.one (.i .i64)))],[],0,none,[],[],[0],[.i],[]⟩⟩,⟨(.exit 0),.normal,⟨pvs 19 0 [],[],0,none,[],[],[],[],[]⟩⟩]⟩
def indexI_l0_step (x : ((List Int) × Int)) (s:Int) : Int ⊕ (Int ⊕ Unit) :=
 (if (s < (x.1.length:Int)) then
 (if ((x.2 == (List.getD x.1 (Int.toNat s) (0:Int))) = true) then
 (Sum.inr (Sum.inl s)) else
 (Sum.inl (w64 (s + (1:Int))))) else
 (Sum.inr (Sum.inr (()))))
def indexI_l0_pre (x : ((List Int) × Int)) (s:Int) : Prop :=
 ((s < (x.1.length:Int)) →
 ((((0:Int) ≤ s) ∧ (s < (x.1.length:Int))) ∧
 (((Int.toNat s) < (List.length x.1)) ∧
 ((Int.toNat s) < (List.length x.1)))))
def indexI_l0_t (x : ((List Int) × Int)) (s:Int) : Tr (Int ⊕ (Int ⊕ Unit)) true :=
 (.i10 (s < (nL x.1))
 (.oI2 s x.1
 (.b00 (x.2 == (gI x.1 s))
 (.ret (.inr (Sum.inl s)))
 (.ret (.inl (w1 s)))))
 (.ret (.inr (Sum.inr (())))))
def indexI (x : ((List Int) × Int)) : Int :=
 (letV (run (indexI_l0_step x) (0:Int)) fun r =>
 (Sum.elim (fun a =>
 a) (fun b =>
 (-1:Int)) r))
def indexI_pre (x : ((List Int) × Int)) : Prop :=
 (Term (indexI_l0_step x) (indexI_l0_pre x) (0:Int))
def indexI_t (x : ((List Int) × Int)) : Tr Int true :=
 (LoopD.lp (indexI_l0 x) (indexI_l0_t x) z0 fun r =>
 (.s00 r (fun a =>
 (.ret a)) (fun b =>
 (.ret (-1:Int)))))
abbrev indexI_S : FnS := ⟨(.pair (.one (Ty.sl yi)) (.one yi)),(.one yi),indexI_pre,indexI⟩
theorem indexI_ok : SpecOk Try.prog 54 (fnSpec indexI_S) := SpecOk.tr indexI_S indexI_t (fn := Try.f54) tt_ok sp_enext_ok mixed (by kernel_rfl) (ItsOk.nil _ _) (fun x => (LpsOk.tr tt_ok (SpecsOk.ctxI sp_enext_ok (ItsOk.nil _ _)) mixed 0 (indexI_l0 x) (indexI_l0_t x) LpsOk.nil (by kernel_rfl) fun g s Q => (by kernel_rfl))) (fun x => (by kernel_rfl)) fun x Q => (by kernel_rfl)
def sp_indexI : List (Nat × Ev.Spec) := (54,fnSpec indexI_S) :: sp_enext
theorem sp_indexI_ok : SpecsOk Try.prog sp_indexI := SpecsOk.add (fn := Try.f54) (by kernel_rfl) indexI_ok sp_enext_ok
def containsI (x : ((List Int) × Int)) : Bool :=
 (letV (indexI x) fun y =>
 (decide (y ≥ (0:Int))))
def containsI_pre (x : ((List Int) × Int)) : Prop :=
 (indexI_pre x)
def containsI_t (x : ((List Int) × Int)) : Tr Bool true :=
 (.fn indexI_S x fun y =>
 (.ret (decide (y ≥ z0))))
abbrev containsI_S : FnS := ⟨(.pair (.one (Ty.sl yi)) (.one yi)),(.one Ty.bool),containsI_pre,containsI⟩
theorem containsI_ok : SpecOk Try.prog 39 (fnSpec containsI_S) := SpecOk.tr containsI_S containsI_t (fn := Try.f39) tt_ok sp_indexI_ok mixed (by kernel_rfl) (ItsOk.nil _ _) (fun x => LpsOk.nil) (fun x => (by kernel_rfl)) fun x Q => (by kernel_rfl)
def sp_containsI : List (Nat × Ev.Spec) := (39,fnSpec containsI_S) :: sp_indexI
theorem sp_containsI_ok : SpecsOk Try.prog sp_containsI := SpecsOk.add (fn := Try.f39) (by kernel_rfl) containsI_ok sp_indexI_ok
end Go.Proofs.Ytkbmjhabfjgoiaa
