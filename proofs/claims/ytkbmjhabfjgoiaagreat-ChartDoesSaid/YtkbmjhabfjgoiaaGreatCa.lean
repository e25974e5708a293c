/- Models of functions of layer 14: neighbours. -/
import Derived.Test.YtkbmjhabfjgoiaaGreatSh
noncomputable section
set_option linter.unusedSectionVars false
set_option linter.unusedVariables false
set_option linter.unusedSimpArgs false
namespace Go.Proofs.YtkbmjhabfjgoiaaGreat
open Go Go.Ev Go.Proofs
def sp_slsort : List (Nat × Ev.Spec) := (95,sortSpec) :: sp_etable
theorem sp_slsort_ok : SpecsOk Tryz.prog sp_slsort := SpecsOk.add (fn := Tryz.f95) (by kernel_rfl) slsort_ok sp_etable_ok
def sp_slcomp : List (Nat × Ev.Spec) := (96,compSpec) :: sp_slsort
theorem sp_slcomp_ok : SpecsOk Tryz.prog sp_slcomp := SpecsOk.add (fn := Tryz.f96) (by kernel_rfl) slcomp_ok sp_slsort_ok
def enear_l2_7 (x : ((List (I2 × (List Int))) × (((List I3) × ((List I2) × ((List I3) × (List I9)))) × Int))) : LoopD := ⟨[.env],⟨pvs 44 0 [(0,.v (.one (.mp 0))),(2,.v (.one (.i .i64))),(7,.v (.one (.full 7))),(17,.v (.one (.full 8))),(18,.v (.one (.i .i64))),(19,.v (.one (.i .i64))),(25,.v (.one (.full 9))),(26,.v (.one (.i .i64))),(27,.v (.one (.i .i64)))],[.grp Bool.true yy2 yi 1,.set 0,.row yy3 0,.row yy2 0,.row yy3 0,.row yy9 0,.pin 6,.row yi 2,.row yy2 2,.gv 0 1 yy2 yi],7,none,[10],[0,5,6,7,8,9],[11,12,1,2,13,14,3,4],[(.l yi),(.l yy2),.i,.i,(.tv yy2),(.l yi),.i,.i],[.i x.2.2,.l (.prod yy2 (.sl yi)) x.1,.l yy3 x.2.1.1,.l yy2 x.2.1.2.1,.l yy3 x.2.1.2.2.1,.l yy9 x.2.1.2.2.2]⟩,[⟨(.exit 2),.normal,⟨pvs 44 0 [(0,.v (.one (.mp 0))),(2,.v (.one (.i .i64))),(7,.v (.one (.full 7))),(17,.v (.one (.full 8))),(18,.v (.one (.i .i64))),(19,.v (.one (.i .i64)))],[.grp Bool.true yy2 yi 1,.set 0,.row yy3 0,.row yy2 0,.row yy3 0,.row yy9 0,.pin 6,.row yi 2,.row yy2 2],7,none,[8],[0,3,4,5,6,7],[9,10,1,2],[(.l yi),(.l yy2),.i,.i],[.i x.2.2,.l (.prod yy2 (.sl yi)) x.1,.l yy3 x.2.1.1,.l yy2 x.2.1.2.1,.l yy3 x.2.1.2.2.1,.l yy9 x.2.1.2.2.2]⟩⟩]⟩
def enear_l2_7_step (x : ((List (I2 × (List Int))) × (((List I3) × ((List I2) × ((List I3) × (List I9)))) × Int))) (s : ((List Int) × ((List I2) × (Int × (Int × (I2 × ((List Int) × I2))))))) : ((List Int) × ((List I2) × (Int × (Int × (I2 × ((List Int) × I2)))))) ⊕ ((List Int) × ((List I2) × I2)) :=
 (if (s.2.2.2.2.2.2.2 < s.2.2.2.2.2.2.1) then
 (if (((List.getD s.2.2.2.2.2.1 (Int.toNat s.2.2.2.2.2.2.2) (0:Int)) != x.2.2) = true) then
 (Sum.inl ((s.1 ++ [(List.getD s.2.2.2.2.2.1 (Int.toNat s.2.2.2.2.2.2.2) (0:Int))]),(s.2.1,(s.2.2.1,(s.2.2.2.1,(s.2.2.2.2.1,(s.2.2.2.2.2.1,(s.2.2.2.2.2.2.1,(w64 (s.2.2.2.2.2.2.2 + (1:Int))))))))))) else
 (Sum.inl (s.1,(s.2.1,(s.2.2.1,(s.2.2.2.1,(s.2.2.2.2.1,(s.2.2.2.2.2.1,(s.2.2.2.2.2.2.1,(w64 (s.2.2.2.2.2.2.2 + (1:Int)))))))))))) else
 (Sum.inr ((s.1,(s.2.1,(s.2.2.1,s.2.2.2.1))))))
def enear_l2_7_pre (x : ((List (I2 × (List Int))) × (((List I3) × ((List I2) × ((List I3) × (List I9)))) × Int))) (s : ((List Int) × ((List I2) × (Int × (Int × (I2 × ((List Int) × I2))))))) : Prop :=
 ((s.2.2.2.2.2.2.2 < s.2.2.2.2.2.2.1) →
 ((((0:Int) ≤ s.2.2.2.2.2.2.2) ∧ (s.2.2.2.2.2.2.2 < (s.2.2.2.2.2.1.length:Int))) ∧
 (((Int.toNat s.2.2.2.2.2.2.2) < (List.length s.2.2.2.2.2.1)) ∧
 (((Int.toNat s.2.2.2.2.2.2.2) < (List.length s.2.2.2.2.2.1)) ∧
 ((((List.getD s.2.2.2.2.2.1 (Int.toNat s.2.2.2.2.2.2.2) (0:Int)) != x.2.2) = true) →
 (((List.length s.1) + 1) < 1099511627776))))))
def enear_l2_7_t (x : ((List (I2 × (List Int))) × (((List I3) × ((List I2) × ((List I3) × (List I9)))) × Int))) (s : ((List Int) × ((List I2) × (Int × (Int × (I2 × ((List Int) × I2))))))) : Tr (((List Int) × ((List I2) × (Int × (Int × (I2 × ((List Int) × I2)))))) ⊕ ((List Int) × ((List I2) × I2))) true :=
 (.i10 (s.2.2.2.2.2.2.2 < s.2.2.2.2.2.2.1)
 (.oI2 s.2.2.2.2.2.2.2 s.2.2.2.2.2.1
 (.b10 ((gI s.2.2.2.2.2.1 s.2.2.2.2.2.2.2) != x.2.2)
 (.od (((List.length s.1) + 1) < 1099511627776)
 (.ret (.inl ((s.1 ++ [(gI s.2.2.2.2.2.1 s.2.2.2.2.2.2.2)]),(s.2.1,(s.2.2.1,(s.2.2.2.1,(s.2.2.2.2.1,(s.2.2.2.2.2.1,(s.2.2.2.2.2.2.1,(w1 s.2.2.2.2.2.2.2)))))))))))
 (.ret (.inl (s.1,(s.2.1,(s.2.2.1,(s.2.2.2.1,(s.2.2.2.2.1,(s.2.2.2.2.2.1,(s.2.2.2.2.2.2.1,(w1 s.2.2.2.2.2.2.2))))))))))))
 (.ret (.inr ((s.1,(s.2.1,(s.2.2.1,s.2.2.2.1)))))))
def enear_l0_7 (x : ((List (I2 × (List Int))) × (((List I3) × ((List I2) × ((List I3) × (List I9)))) × Int))) : LoopD := ⟨[.env],⟨pvs 44 0 [(0,.v (.one (.mp 0))),(2,.v (.one (.i .i64))),(7,.v (.one (.full 7))),(17,.v (.one (.full 8))),(18,.v (.one (.i .i64))),(19,.v (.one (.i .i64)))],[.grp Bool.true yy2 yi 1,.set 0,.row yy3 0,.row yy2 0,.row yy3 0,.row yy9 0,.pin 6,.row yi 2,.row yy2 2],7,none,[8],[0,3,4,5,6,7],[9,10,1,2],[(.l yi),(.l yy2),.i,.i],[.i x.2.2,.l (.prod yy2 (.sl yi)) x.1,.l yy3 x.2.1.1,.l yy2 x.2.1.2.1,.l yy3 x.2.1.2.2.1,.l yy9 x.2.1.2.2.2]⟩,[⟨(.exit 0),.normal,⟨pvs 44 0 [(7,.v (.one (.full 7)))],[.grp Bool.true yy2 yi 1,.set 0,.row yy3 0,.row yy2 0,.row yy3 0,.row yy9 0,.pin 6,.row yi 2],7,none,[5],[0,1,2,3,4],[6],[(.l yi)],[.l (.prod yy2 (.sl yi)) x.1,.l yy3 x.2.1.1,.l yy2 x.2.1.2.1,.l yy3 x.2.1.2.2.1,.l yy9 x.2.1.2.2.2]⟩⟩]⟩
def enear_l0_7_step (x : ((List (I2 × (List Int))) × (((List I3) × ((List I2) × ((List I3) × (List I9)))) × Int))) (s : ((List Int) × ((List I2) × I2))) : ((List Int) × ((List I2) × I2)) ⊕ (List Int) :=
 (if (s.2.2.2 < s.2.2.1) then
 (letV (lookD (k := yy2) x.1 (List.getD s.2.1 (Int.toNat s.2.2.2) ((0:Int),(0:Int))) []) fun y =>
 (letV (run (enear_l2_7_step x) (s.1,(s.2.1,(s.2.2.1,(s.2.2.2,((List.getD s.2.1 (Int.toNat s.2.2.2) ((0:Int),(0:Int))),(y,((y.length:Int),(0:Int))))))))) fun r =>
 (Sum.inl (r.1,(r.2.1,(r.2.2.1,(w64 (r.2.2.2 + (1:Int))))))))) else
 (Sum.inr (s.1)))
def enear_l0_7_pre (x : ((List (I2 × (List Int))) × (((List I3) × ((List I2) × ((List I3) × (List I9)))) × Int))) (s : ((List Int) × ((List I2) × I2))) : Prop :=
 ((s.2.2.2 < s.2.2.1) →
 ((((0:Int) ≤ s.2.2.2) ∧ (s.2.2.2 < (s.2.1.length:Int))) ∧
 (((Int.toNat s.2.2.2) < (List.length s.2.1)) ∧
 (((Int.toNat s.2.2.2) < (List.length s.2.1)) ∧
 (letP (lookD (k := yy2) x.1 (List.getD s.2.1 (Int.toNat s.2.2.2) ((0:Int),(0:Int))) []) fun y =>
 (Term (enear_l2_7_step x) (enear_l2_7_pre x) (s.1,(s.2.1,(s.2.2.1,(s.2.2.2,((List.getD s.2.1 (Int.toNat s.2.2.2) ((0:Int),(0:Int))),(y,((y.length:Int),(0:Int))))))))))))))
def enear_l0_7_t (x : ((List (I2 × (List Int))) × (((List I3) × ((List I2) × ((List I3) × (List I9)))) × Int))) (s : ((List Int) × ((List I2) × I2))) : Tr (((List Int) × ((List I2) × I2)) ⊕ (List Int)) true :=
 (.i10 (s.2.2.2 < s.2.2.1)
 (.oI2 s.2.2.2 s.2.1
 (.fact (KeyE tt 127 yy2) key_127
 (.lt (lookD (k := yy2) x.1 (gT s.2.1 s.2.2.2 zz2) []) fun y =>
 (LoopD.lp (enear_l2_7 x) (enear_l2_7_t x) (s.1,(s.2.1,(s.2.2.1,(s.2.2.2,((gT s.2.1 s.2.2.2 zz2),(y,((nL y),z0))))))) fun r =>
 (.ret (.inl (r.1,(r.2.1,(r.2.2.1,(w1 r.2.2.2))))))))))
 (.ret (.inr (s.1))))
def enear (x : ((List (I2 × (List Int))) × (((List I3) × ((List I2) × ((List I3) × (List I9)))) × Int))) : ((List Int) × (List (I2 × (List Int)))) :=
 (letV (epairs (List.getD x.2.1.2.2.2 (Int.toNat x.2.2) (((0:Int),((0:Int),(0:Int))),(((0:Int),((0:Int),(0:Int))),((0:Int),((0:Int),(0:Int))))))) fun y =>
 (letV (run (enear_l0_7_step x) ([],(y,((y.length:Int),(0:Int))))) fun r =>
 (letV (sortZ r) fun y_1 =>
 (letV (compZ y_1) fun y_2 =>
 (y_2,x.1)))))
def enear_pre (x : ((List (I2 × (List Int))) × (((List I3) × ((List I2) × ((List I3) × (List I9)))) × Int))) : Prop :=
 ((((0:Int) ≤ x.2.2) ∧ (x.2.2 < (x.2.1.2.2.2.length:Int))) ∧
 (((Int.toNat x.2.2) < (List.length x.2.1.2.2.2)) ∧
 (((Int.toNat x.2.2) < (List.length x.2.1.2.2.2)) ∧
 ((epairs_pre (List.getD x.2.1.2.2.2 (Int.toNat x.2.2) (((0:Int),((0:Int),(0:Int))),(((0:Int),((0:Int),(0:Int))),((0:Int),((0:Int),(0:Int))))))) ∧
 letP (epairs (List.getD x.2.1.2.2.2 (Int.toNat x.2.2) (((0:Int),((0:Int),(0:Int))),(((0:Int),((0:Int),(0:Int))),((0:Int),((0:Int),(0:Int))))))) fun y =>
 (Term (enear_l0_7_step x) (enear_l0_7_pre x) ([],(y,((y.length:Int),(0:Int)))) ∧
 letP (run (enear_l0_7_step x) ([],(y,((y.length:Int),(0:Int))))) fun r =>
 (((List.length r) < 1099511627776) ∧
 (letP (sortZ r) fun y_1 =>
 ((List.length y_1) < 1099511627776))))))))
def enear_t (x : ((List (I2 × (List Int))) × (((List I3) × ((List I2) × ((List I3) × (List I9)))) × Int))) : Tr ((List Int) × (List (I2 × (List Int)))) true :=
 (.oI2 x.2.2 x.2.1.2.2.2
 (.fn epairs_S (gT x.2.1.2.2.2 x.2.2 zz9) fun y =>
 (LoopD.lp (enear_l0_7 x) (enear_l0_7_t x) ([],(y,((nL y),z0))) fun r =>
 (.od ((List.length r) < 1099511627776)
 (.lt (sortZ r) fun y_1 =>
 (.od ((List.length y_1) < 1099511627776)
 (.lt (compZ y_1) fun y_2 =>
 (.pn 0 6
 (.ret (y_2,x.1))))))))))
abbrev enear_S : FnL := ⟨(LPar.mk true yy2 yi (.pair (.agg (Ty.prod (Ty.sl yy3) (Ty.prod (Ty.sl yy2) (Ty.prod (Ty.sl yy3) (Ty.sl yy9))))) (.one yi))),(.one (Ty.sl yi)),enear_pre,enear⟩
theorem enear_ok : SpecOk Tryz.prog 81 (fnSpecL enear_S) := SpecOk.trL enear_S enear_t (fn := Tryz.f81) tt_ok sp_slcomp_ok mixed (by kernel_rfl) (ItsOk.nil _ _) (fun x => (LpsOk.tr tt_ok (SpecsOk.ctxI sp_slcomp_ok (ItsOk.nil _ _)) mixed 0 (enear_l0_7 x) (enear_l0_7_t x) (LpsOk.tr tt_ok (SpecsOk.ctxI sp_slcomp_ok (ItsOk.nil _ _)) mixed 2 (enear_l2_7 x) (enear_l2_7_t x) LpsOk.nil (by kernel_rfl) fun g s Q => (by kernel_rfl)) (by kernel_rfl) fun g s Q => (by kernel_rfl))) (fun x => (by kernel_rfl)) fun x r0 Q => (by kernel_rfl)
def sp_enear : List (Nat × Ev.Spec) := (81,fnSpecL enear_S) :: sp_slcomp
theorem sp_enear_ok : SpecsOk Tryz.prog sp_enear := SpecsOk.add (fn := Tryz.f81) (by kernel_rfl) enear_ok sp_slcomp_ok
def enext (x : (((List I3) × ((List I2) × ((List I3) × (List I9)))) × Int)) : ((List Int) × Int) :=
 (letV (meshis x.1) fun y =>
 (if ((!y) = true) then
 ([],(1:Int)) else
 (if (x.2 < (0:Int)) then
 ([],(1:Int)) else
 (if (x.2 ≥ (x.1.2.2.2.length:Int)) then
 ([],(1:Int)) else
 (letV (etable x.1) fun y_1 =>
 (letV (enear (y_1,x)) fun y_2 =>
 (y_2.1,(0:Int))))))))
def enext_pre (x : (((List I3) × ((List I2) × ((List I3) × (List I9)))) × Int)) : Prop :=
 ((meshis_pre x.1) ∧
 letP (meshis x.1) fun y =>
 (¬ ((!y) = true) →
 (¬ (x.2 < (0:Int)) →
 (¬ (x.2 ≥ (x.1.2.2.2.length:Int)) →
 ((etable_pre x.1) ∧
 letP (etable x.1) fun y_1 =>
 (enear_pre (y_1,x)))))))
def enext_t (x : (((List I3) × ((List I2) × ((List I3) × (List I9)))) × Int)) : Tr ((List Int) × Int) true :=
 (.fn meshis_S x.1 fun y =>
 (.b01 (!y)
 (.ret ([],z1))
 (.i01 (x.2 < z0)
 (.ret ([],z1))
 (.i01 (x.2 ≥ (nL x.1.2.2.2))
 (.ret ([],z1))
 (.fnG etable_S x.1 fun y_1 =>
 (.fnL enear_S (y_1,x) fun y_2 =>
 (.ret (y_2.1,z0))))))))
abbrev enext_S : FnS := ⟨(.pair (.agg (Ty.prod (Ty.sl yy3) (Ty.prod (Ty.sl yy2) (Ty.prod (Ty.sl yy3) (Ty.sl yy9))))) (.one yi)),(.pair (.one (Ty.sl yi)) (.one yi)),enext_pre,enext⟩
theorem enext_ok : SpecOk Tryz.prog 58 (fnSpec enext_S) := SpecOk.tr enext_S enext_t (fn := Tryz.f58) tt_ok sp_enear_ok mixed (by kernel_rfl) (ItsOk.nil _ _) (fun x => LpsOk.nil) (fun x => (by kernel_rfl)) fun x Q => (by kernel_rfl)
def sp_enext : List (Nat × Ev.Spec) := (58,fnSpec enext_S) :: sp_enear
theorem sp_enext_ok : SpecsOk Tryz.prog sp_enext := SpecsOk.add (fn := Tryz.f58) (by kernel_rfl) enext_ok sp_enear_ok
def indexI_l0 (x : ((List Int) × Int)) : LoopD := ⟨[],⟨pvs 19 0 [(0,.v (.one (.full 0))),(1,.v (.one (.i .i64))),(7,.v (.one (.i .i64))),(8,.v (.one (.i .i64)))],[.row yi 0],0,none,[],[0,1,3],[2],[.i],[.i x.2,.i (x.1.length:Int),.l yi x.1]⟩,[⟨.ret,.ret,⟨pvs 19 0 [(4,.v (.one (.i .i64)))],[],0,none,[],[],[0],[.i],[]⟩⟩,⟨(.exit 0),.normal,⟨pvs 19 0 [],[],0,none,[],[],[],[],[]⟩⟩]⟩
def indexI_l0_step (x : ((List Int) × Int)) (s:Int) : Int ⊕ (Int ⊕ Unit) :=
 (if (s < (x.1.length:Int)) then
 (if ((x.2 == (List.getD x.1 (Int.toNat s) (0:Int))) = true) then
 (Sum.inr (Sum.inl s)) else
 (Sum.inl (w64 (s + (1:Int))))) else
 (Sum.inr (Sum.inr (()))))
def indexI_l0_pre (x : ((List Int) × Int)) (s:Int) : Prop :=
 ((s < (x.1.length:Int)) →
 ((((0:Int) ≤ s) ∧ (s < (x.1.length:Int))) ∧
 (((Int.toNat s) < (List.length x.1)) ∧
 ((Int.toNat s) < (List.length x.1)))))
def indexI_l0_t (x : ((List Int) × Int)) (s:Int) : Tr (Int ⊕ (Int ⊕ Unit)) true :=
 (.i10 (s < (nL x.1))
 (.oI2 s x.1
 (.b00 (x.2 == (gI x.1 s))
 (.ret (.inr (Sum.inl s)))
 (.ret (.inl (w1 s)))))
 (.ret (.inr (Sum.inr (())))))
def indexI (x : ((List Int) × Int)) : Int :=
 (letV (run (indexI_l0_step x) (0:Int)) fun r =>
 (Sum.elim (fun a =>
 a) (fun b =>
 (-1:Int)) r))
def indexI_pre (x : ((List Int) × Int)) : Prop :=
 (Term (indexI_l0_step x) (indexI_l0_pre x) (0:Int))
def indexI_t (x : ((List Int) × Int)) : Tr Int true :=
 (LoopD.lp (indexI_l0 x) (indexI_l0_t x) z0 fun r =>
 (.s00 r (fun a =>
 (.ret a)) (fun b =>
 (.ret (-1:Int)))))
abbrev indexI_S : FnS := ⟨(.pair (.one (Ty.sl yi)) (.one yi)),(.one yi),indexI_pre,indexI⟩
theorem indexI_ok : SpecOk Tryz.prog 79 (fnSpec indexI_S) := SpecOk.tr indexI_S indexI_t (fn := Tryz.f79) tt_ok sp_enext_ok mixed (by kernel_rfl) (ItsOk.nil _ _) (fun x => (LpsOk.tr tt_ok (SpecsOk.ctxI sp_enext_ok (ItsOk.nil _ _)) mixed 0 (indexI_l0 x) (indexI_l0_t x) LpsOk.nil (by kernel_rfl) fun g s Q => (by kernel_rfl))) (fun x => (by kernel_rfl)) fun x Q => (by kernel_rfl)
def sp_indexI : List (Nat × Ev.Spec) := (79,fnSpec indexI_S) :: sp_enext
theorem sp_indexI_ok : SpecsOk Tryz.prog sp_indexI := SpecsOk.add (fn := Tryz.f79) (by kernel_rfl) indexI_ok sp_enext_ok
def containsI (x : ((List Int) × Int)) : Bool :=
 (letV (indexI x) fun y =>
 (decide (y ≥ (0:Int))))
def containsI_pre (x : ((List Int) × Int)) : Prop :=
 (indexI_pre x)
def containsI_t (x : ((List Int) × Int)) : Tr Bool true :=
 (.fn indexI_S x fun y =>
 (.ret (decide (y ≥ z0))))
abbrev containsI_S : FnS := ⟨(.pair (.one (Ty.sl yi)) (.one yi)),(.one Ty.bool),containsI_pre,containsI⟩
theorem containsI_ok : SpecOk Tryz.prog 55 (fnSpec containsI_S) := SpecOk.tr containsI_S containsI_t (fn := Tryz.f55) tt_ok sp_indexI_ok mixed (by kernel_rfl) (ItsOk.nil _ _) (fun x => LpsOk.nil) (fun x => (by kernel_rfl)) fun x Q => (by kernel_rfl)
def sp_containsI : List (Nat × Ev.Spec) := (55,fnSpec containsI_S) :: sp_indexI
theorem sp_containsI_ok : SpecsOk Tryz.prog sp_containsI := SpecsOk.add (fn := Tryz.f55) (by kernel_rfl) containsI_ok sp_indexI_ok
end Go.Proofs.YtkbmjhabfjgoiaaGreat

namespace Go.Proofs.YtkbmjhabfjgoiaaGreat
open Go Go.Ev Go.Proofs
abbrev vpiece : VPar := .pair (.rp (.prod (.sl yy3) (.prod (.sl yy2) (.prod (.sl yy3) (.sl yy9))))) (.ty (.prod yy2 (.sl yi)))
def plooks (x : ((((List I3) × ((List I2) × ((List I3) × (List I9)))) × (I2 × (List Int))) × Int)) : Bool :=
 (letV (bway (x.1.1,x.2)) fun y =>
 (if (y.2 = true) then
 ((y.1.1 == x.1.2.1.1) && ((y.1.2 == x.1.2.1.2) && true)) else
 false))
def plooks_pre (x : ((((List I3) × ((List I2) × ((List I3) × (List I9)))) × (I2 × (List Int))) × Int)) : Prop :=
 (bway_pre (x.1.1,x.2))
def plooks_t (x : ((((List I3) × ((List I2) × ((List I3) × (List I9)))) × (I2 × (List Int))) × Int)) : Tr Bool true :=
 (.fn bway_S (x.1.1,x.2) fun y =>
 (.b00 y.2
 (.ret ((y.1.1 == x.1.2.1.1) && ((y.1.2 == x.1.2.1.2) && true)))
 (.ret false)))
abbrev plooks_S : FnQ := ⟨(.pair (.var vpiece) (.arg (.one yi))),(.one Ty.bool),plooks_pre,plooks⟩
theorem plooks_ok : SpecOk Tryz.prog 37 (fnSpecQ plooks_S) := SpecOk.trQ plooks_S plooks_t (fn := Tryz.f37) tt_ok sp_containsI_ok mixed (by kernel_rfl) (ItsOk.nil _ _) (fun x => LpsOk.nil) (fun x => (by kernel_rfl)) fun x Q => (by kernel_rfl)
def sp_plooks : List (Nat × Ev.Spec) := (37,fnSpecQ plooks_S) :: sp_containsI
theorem sp_plooks_ok : SpecsOk Tryz.prog sp_plooks := SpecsOk.add (fn := Tryz.f37) (by kernel_rfl) plooks_ok sp_containsI_ok
def pover (x : (Int × (I6 × (((List I3) × ((List I2) × ((List I3) × (List I9)))) × (I2 × (List Int)))))) : Bool :=
 (letV (bshadow (x.2.2.1,(x.1,x.2.2.2.1.1))) fun y =>
 (letV (moverlap (x.2.1,y)) fun y_1 =>
 y_1.1))
def pover_pre (x : (Int × (I6 × (((List I3) × ((List I2) × ((List I3) × (List I9)))) × (I2 × (List Int)))))) : Prop :=
 ((bshadow_pre (x.2.2.1,(x.1,x.2.2.2.1.1))) ∧
 letP (bshadow (x.2.2.1,(x.1,x.2.2.2.1.1))) fun y =>
 (moverlap_pre (x.2.1,y)))
def pover_t (x : (Int × (I6 × (((List I3) × ((List I2) × ((List I3) × (List I9)))) × (I2 × (List Int)))))) : Tr Bool true :=
 (.fn bshadow_S (x.2.2.1,(x.1,x.2.2.2.1.1)) fun y =>
 (.fn moverlap_S (x.2.1,y) fun y_1 =>
 (.ret y_1.1)))
abbrev pover_S : FnQ := ⟨(.pair (.arg (.one yi)) (.pair (.arg (.ptr yy6)) (.var (.ref vpiece)))),(.one Ty.bool),pover_pre,pover⟩
theorem pover_ok : SpecOk Tryz.prog 56 (fnSpecQ pover_S) := SpecOk.trQ pover_S pover_t (fn := Tryz.f56) tt_ok sp_plooks_ok mixed (by kernel_rfl) (ItsOk.nil _ _) (fun x => LpsOk.nil) (fun x => (by kernel_rfl)) fun x Q => (by kernel_rfl)
def sp_pover : List (Nat × Ev.Spec) := (56,fnSpecQ pover_S) :: sp_plooks
theorem sp_pover_ok : SpecsOk Tryz.prog sp_pover := SpecsOk.add (fn := Tryz.f56) (by kernel_rfl) pover_ok sp_plooks_ok
def indexO_l0 (x : ((List Int) × (I6 × (((List I3) × ((List I2) × ((List I3) × (List I9)))) × (I2 × (List Int)))))) : LoopD := ⟨[],⟨pvs 19 0 [(0,.v (.one (.full 0))),(1,.v (.one (.clo 56 0 [.elem 1,.elem 2]))),(7,.v (.one (.i .i64))),(8,.v (.one (.i .i64)))],[.row yi 0,.row yy6 0,.rc [.eptr 3 0],.rc [.eptr 4 0,.i .i64,.i .i64,.full 5],.row (Ty.prod (Ty.sl yy3) (Ty.prod (Ty.sl yy2) (Ty.prod (Ty.sl yy3) (Ty.sl yy9)))) 0,.row yi 0],0,none,[],[0,1,2,4,5,6,7,8,9,10,11],[3],[.i],[.n 0,.n 0,.i (x.1.length:Int),.l yi x.1,.l yy6 [x.2.1],.n 0,.n 0,.i x.2.2.2.1.1,.i x.2.2.2.1.2,.l (Ty.prod (Ty.sl yy3) (Ty.prod (Ty.sl yy2) (Ty.prod (Ty.sl yy3) (Ty.sl yy9)))) [x.2.2.1],.l yi x.2.2.2.2]⟩,[⟨.ret,.ret,⟨pvs 19 0 [(4,.v (.one (.i .i64)))],[],0,none,[],[],[0],[.i],[]⟩⟩,⟨(.exit 0),.normal,⟨pvs 19 0 [],[],0,none,[],[],[],[],[]⟩⟩]⟩
def indexO_l0_step (x : ((List Int) × (I6 × (((List I3) × ((List I2) × ((List I3) × (List I9)))) × (I2 × (List Int)))))) (s:Int) : Int ⊕ (Int ⊕ Unit) :=
 (if (s < (x.1.length:Int)) then
 (letV (pover ((List.getD x.1 (Int.toNat s) (0:Int)),x.2)) fun y =>
 (if (y = true) then
 (Sum.inr (Sum.inl s)) else
 (Sum.inl (w64 (s + (1:Int)))))) else
 (Sum.inr (Sum.inr (()))))
def indexO_l0_pre (x : ((List Int) × (I6 × (((List I3) × ((List I2) × ((List I3) × (List I9)))) × (I2 × (List Int)))))) (s:Int) : Prop :=
 ((s < (x.1.length:Int)) →
 ((((0:Int) ≤ s) ∧ (s < (x.1.length:Int))) ∧
 (((Int.toNat s) < (List.length x.1)) ∧
 (((Int.toNat s) < (List.length x.1)) ∧
 (pover_pre ((List.getD x.1 (Int.toNat s) (0:Int)),x.2))))))
def indexO_l0_t (x : ((List Int) × (I6 × (((List I3) × ((List I2) × ((List I3) × (List I9)))) × (I2 × (List Int)))))) (s:Int) : Tr (Int ⊕ (Int ⊕ Unit)) true :=
 (.i10 (s < (nL x.1))
 (.oI2 s x.1
 (.fnQ pover_S ((gI x.1 s),x.2) fun y =>
 (.b00 y
 (.ret (.inr (Sum.inl s)))
 (.ret (.inl (w1 s))))))
 (.ret (.inr (Sum.inr (())))))
def indexO (x : ((List Int) × (I6 × (((List I3) × ((List I2) × ((List I3) × (List I9)))) × (I2 × (List Int)))))) : Int :=
 (letV (run (indexO_l0_step x) (0:Int)) fun r =>
 (Sum.elim (fun a =>
 a) (fun b =>
 (-1:Int)) r))
def indexO_pre (x : ((List Int) × (I6 × (((List I3) × ((List I2) × ((List I3) × (List I9)))) × (I2 × (List Int)))))) : Prop :=
 (Term (indexO_l0_step x) (indexO_l0_pre x) (0:Int))
def indexO_t (x : ((List Int) × (I6 × (((List I3) × ((List I2) × ((List I3) × (List I9)))) × (I2 × (List Int)))))) : Tr Int true :=
 (LoopD.lp (indexO_l0 x) (indexO_l0_t x) z0 fun r =>
 (.s00 r (fun a =>
 (.ret a)) (fun b =>
 (.ret (-1:Int)))))
abbrev indexO_S : FnQ := ⟨(.pair (.arg (.one (Ty.sl yi))) (.clo 56 (.pair (.arg (.ptr yy6)) (.var (.ref vpiece))))),(.one yi),indexO_pre,indexO⟩
theorem indexO_ok : SpecOk Tryz.prog 30 (fnSpecQ indexO_S) := SpecOk.trQ indexO_S indexO_t (fn := Tryz.f30) tt_ok sp_pover_ok mixed (by kernel_rfl) (ItsOk.nil _ _) (fun x => (LpsOk.tr tt_ok (SpecsOk.ctxI sp_pover_ok (ItsOk.nil _ _)) mixed 0 (indexO_l0 x) (indexO_l0_t x) LpsOk.nil (by kernel_rfl) fun g s Q => (by kernel_rfl))) (fun x => (by kernel_rfl)) fun x Q => (by kernel_rfl)
def sp_indexO : List (Nat × Ev.Spec) := (30,fnSpecQ indexO_S) :: sp_pover
theorem sp_indexO_ok : SpecsOk Tryz.prog sp_indexO := SpecsOk.add (fn := Tryz.f30) (by kernel_rfl) indexO_ok sp_pover_ok
def containsO (x : ((List Int) × (I6 × (((List I3) × ((List I2) × ((List I3) × (List I9)))) × (I2 × (List Int)))))) : Bool :=
 (letV (indexO x) fun y =>
 (decide (y ≥ (0:Int))))
def containsO_pre (x : ((List Int) × (I6 × (((List I3) × ((List I2) × ((List I3) × (List I9)))) × (I2 × (List Int)))))) : Prop :=
 (indexO_pre x)
def containsO_t (x : ((List Int) × (I6 × (((List I3) × ((List I2) × ((List I3) × (List I9)))) × (I2 × (List Int)))))) : Tr Bool true :=
 (.fnQ indexO_S x fun y =>
 (.ret (decide (y ≥ z0))))
abbrev containsO_S : FnQ := ⟨(.pair (.arg (.one (Ty.sl yi))) (.clo 56 (.pair (.arg (.ptr yy6)) (.var (.ref vpiece))))),(.one Ty.bool),containsO_pre,containsO⟩
theorem containsO_ok : SpecOk Tryz.prog 35 (fnSpecQ containsO_S) := SpecOk.trQ containsO_S containsO_t (fn := Tryz.f35) tt_ok sp_indexO_ok mixed (by kernel_rfl) (ItsOk.nil _ _) (fun x => LpsOk.nil) (fun x => (by kernel_rfl)) fun x Q => (by kernel_rfl)
def sp_containsO : List (Nat × Ev.Spec) := (35,fnSpecQ containsO_S) :: sp_indexO
theorem sp_containsO_ok : SpecsOk Tryz.prog sp_containsO := SpecsOk.add (fn := Tryz.f35) (by kernel_rfl) containsO_ok sp_indexO_ok
def pnear (x : (Int × (((List I3) × ((List I2) × ((List I3) × (List I9)))) × (I2 × (List Int))))) : Bool :=
 (letV (containsI (x.2.2.2,x.1)) fun y =>
 y)
def pnear_pre (x : (Int × (((List I3) × ((List I2) × ((List I3) × (List I9)))) × (I2 × (List Int))))) : Prop :=
 (containsI_pre (x.2.2.2,x.1))
def pnear_t (x : (Int × (((List I3) × ((List I2) × ((List I3) × (List I9)))) × (I2 × (List Int))))) : Tr Bool true :=
 (.fn containsI_S (x.2.2.2,x.1) fun y =>
 (.ret y))
abbrev pnear_S : FnQ := ⟨(.pair (.arg (.one yi)) (.var (.ref vpiece))),(.one Ty.bool),pnear_pre,pnear⟩
theorem pnear_ok : SpecOk Tryz.prog 59 (fnSpecQ pnear_S) := SpecOk.trQ pnear_S pnear_t (fn := Tryz.f59) tt_ok sp_containsO_ok mixed (by kernel_rfl) (ItsOk.nil _ _) (fun x => LpsOk.nil) (fun x => (by kernel_rfl)) fun x Q => (by kernel_rfl)
def sp_pnear : List (Nat × Ev.Spec) := (59,fnSpecQ pnear_S) :: sp_containsO
theorem sp_pnear_ok : SpecsOk Tryz.prog sp_pnear := SpecsOk.add (fn := Tryz.f59) (by kernel_rfl) pnear_ok sp_containsO_ok
def indexP_l0 (x : ((List Int) × (((List I3) × ((List I2) × ((List I3) × (List I9)))) × (I2 × (List Int))))) : LoopD := ⟨[],⟨pvs 19 0 [(0,.v (.one (.full 0))),(1,.v (.one (.clo 59 0 [.elem 1]))),(7,.v (.one (.i .i64))),(8,.v (.one (.i .i64)))],[.row yi 0,.rc [.eptr 2 0],.rc [.eptr 3 0,.i .i64,.i .i64,.full 4],.row (Ty.prod (Ty.sl yy3) (Ty.prod (Ty.sl yy2) (Ty.prod (Ty.sl yy3) (Ty.sl yy9)))) 0,.row yi 0],0,none,[],[0,1,3,4,5,6,7,8,9],[2],[.i],[.n 0,.i (x.1.length:Int),.l yi x.1,.n 0,.n 0,.i x.2.2.1.1,.i x.2.2.1.2,.l (Ty.prod (Ty.sl yy3) (Ty.prod (Ty.sl yy2) (Ty.prod (Ty.sl yy3) (Ty.sl yy9)))) [x.2.1],.l yi x.2.2.2]⟩,[⟨.ret,.ret,⟨pvs 19 0 [(4,.v (.one (.i .i64)))],[],0,none,[],[],[0],[.i],[]⟩⟩,⟨(.exit 0),.normal,⟨pvs 19 0 [],[],0,none,[],[],[],[],[]⟩⟩]⟩
def indexP_l0_step (x : ((List Int) × (((List I3) × ((List I2) × ((List I3) × (List I9)))) × (I2 × (List Int))))) (s:Int) : Int ⊕ (Int ⊕ Unit) :=
 (if (s < (x.1.length:Int)) then
 (letV (pnear ((List.getD x.1 (Int.toNat s) (0:Int)),x.2)) fun y =>
 (if (y = true) then
 (Sum.inr (Sum.inl s)) else
 (Sum.inl (w64 (s + (1:Int)))))) else
 (Sum.inr (Sum.inr (()))))
def indexP_l0_pre (x : ((List Int) × (((List I3) × ((List I2) × ((List I3) × (List I9)))) × (I2 × (List Int))))) (s:Int) : Prop :=
 ((s < (x.1.length:Int)) →
 ((((0:Int) ≤ s) ∧ (s < (x.1.length:Int))) ∧
 (((Int.toNat s) < (List.length x.1)) ∧
 (((Int.toNat s) < (List.length x.1)) ∧
 (pnear_pre ((List.getD x.1 (Int.toNat s) (0:Int)),x.2))))))
def indexP_l0_t (x : ((List Int) × (((List I3) × ((List I2) × ((List I3) × (List I9)))) × (I2 × (List Int))))) (s:Int) : Tr (Int ⊕ (Int ⊕ Unit)) true :=
 (.i10 (s < (nL x.1))
 (.oI2 s x.1
 (.fnQ pnear_S ((gI x.1 s),x.2) fun y =>
 (.b00 y
 (.ret (.inr (Sum.inl s)))
 (.ret (.inl (w1 s))))))
 (.ret (.inr (Sum.inr (())))))
def indexP (x : ((List Int) × (((List I3) × ((List I2) × ((List I3) × (List I9)))) × (I2 × (List Int))))) : Int :=
 (letV (run (indexP_l0_step x) (0:Int)) fun r =>
 (Sum.elim (fun a =>
 a) (fun b =>
 (-1:Int)) r))
def indexP_pre (x : ((List Int) × (((List I3) × ((List I2) × ((List I3) × (List I9)))) × (I2 × (List Int))))) : Prop :=
 (Term (indexP_l0_step x) (indexP_l0_pre x) (0:Int))
def indexP_t (x : ((List Int) × (((List I3) × ((List I2) × ((List I3) × (List I9)))) × (I2 × (List Int))))) : Tr Int true :=
 (LoopD.lp (indexP_l0 x) (indexP_l0_t x) z0 fun r =>
 (.s00 r (fun a =>
 (.ret a)) (fun b =>
 (.ret (-1:Int)))))
abbrev indexP_S : FnQ := ⟨(.pair (.arg (.one (Ty.sl yi))) (.clo 59 (.var (.ref vpiece)))),(.one yi),indexP_pre,indexP⟩
theorem indexP_ok : SpecOk Tryz.prog 30 (fnSpecQ indexP_S) := SpecOk.trQ indexP_S indexP_t (fn := Tryz.f30) tt_ok sp_pnear_ok mixed (by kernel_rfl) (ItsOk.nil _ _) (fun x => (LpsOk.tr tt_ok (SpecsOk.ctxI sp_pnear_ok (ItsOk.nil _ _)) mixed 0 (indexP_l0 x) (indexP_l0_t x) LpsOk.nil (by kernel_rfl) fun g s Q => (by kernel_rfl))) (fun x => (by kernel_rfl)) fun x Q => (by kernel_rfl)
def sp_indexP : List (Nat × Ev.Spec) := (30,altSpecQ indexP_S.p (fnSpecQ indexP_S) (fnSpecQ indexO_S)) :: sp_pnear
theorem sp_indexP_ok : SpecsOk Tryz.prog sp_indexP := SpecsOk.add (fn := Tryz.f30) (by kernel_rfl) (altSpecQ_ok indexP_ok (indexO_ok)) sp_pnear_ok
def containsP (x : ((List Int) × (((List I3) × ((List I2) × ((List I3) × (List I9)))) × (I2 × (List Int))))) : Bool :=
 (letV (indexP x) fun y =>
 (decide (y ≥ (0:Int))))
def containsP_pre (x : ((List Int) × (((List I3) × ((List I2) × ((List I3) × (List I9)))) × (I2 × (List Int))))) : Prop :=
 (indexP_pre x)
def containsP_t (x : ((List Int) × (((List I3) × ((List I2) × ((List I3) × (List I9)))) × (I2 × (List Int))))) : Tr Bool true :=
 (.fnQ indexP_S x fun y =>
 (.ret (decide (y ≥ z0))))
abbrev containsP_S : FnQ := ⟨(.pair (.arg (.one (Ty.sl yi))) (.clo 59 (.var (.ref vpiece)))),(.one Ty.bool),containsP_pre,containsP⟩
theorem containsP_ok : SpecOk Tryz.prog 35 (fnSpecQ containsP_S) := SpecOk.trQ containsP_S containsP_t (fn := Tryz.f35) tt_ok sp_indexP_ok mixed (by kernel_rfl) (ItsOk.nil _ _) (fun x => LpsOk.nil) (fun x => (by kernel_rfl)) fun x Q => (by kernel_rfl)
def sp_containsP : List (Nat × Ev.Spec) := (35,altSpecQ containsP_S.p (fnSpecQ containsP_S) (fnSpecQ containsO_S)) :: sp_indexP
theorem sp_containsP_ok : SpecsOk Tryz.prog sp_containsP := SpecsOk.add (fn := Tryz.f35) (by kernel_rfl) (altSpecQ_ok containsP_ok (containsO_ok)) sp_indexP_ok
def pfits (x : ((((List I3) × ((List I2) × ((List I3) × (List I9)))) × (I2 × (List Int))) × Int)) : Bool :=
 (letV (plooks x) fun y =>
 (if ((!y) = true) then
 false else
 (letV (containsI (x.1.2.2,x.2)) fun y_1 =>
 (if (y_1 = true) then
 false else
 (letV (bshadow (x.1.1,(x.2,x.1.2.1.1))) fun y_2 =>
 (letV (containsO (x.1.2.2,(y_2,x.1))) fun y_3 =>
 (if (y_3 = true) then
 false else
 (letV (enext (x.1.1,x.2)) fun y_4 =>
 (if (((x.1.2.2.length:Int) == (0:Int)) = true) then
 true else
 (letV (containsP (y_4.1,x.1)) fun y_5 =>
 y_5))))))))))
def pfits_pre (x : ((((List I3) × ((List I2) × ((List I3) × (List I9)))) × (I2 × (List Int))) × Int)) : Prop :=
 ((plooks_pre x) ∧
 letP (plooks x) fun y =>
 (¬ ((!y) = true) →
 ((containsI_pre (x.1.2.2,x.2)) ∧
 letP (containsI (x.1.2.2,x.2)) fun y_1 =>
 (¬ (y_1 = true) →
 ((bshadow_pre (x.1.1,(x.2,x.1.2.1.1))) ∧
 letP (bshadow (x.1.1,(x.2,x.1.2.1.1))) fun y_2 =>
 ((containsO_pre (x.1.2.2,(y_2,x.1))) ∧
 letP (containsO (x.1.2.2,(y_2,x.1))) fun y_3 =>
 (¬ (y_3 = true) →
 ((enext_pre (x.1.1,x.2)) ∧
 letP (enext (x.1.1,x.2)) fun y_4 =>
 (¬ (((x.1.2.2.length:Int) == (0:Int)) = true) →
 (containsP_pre (y_4.1,x.1)))))))))))
def pfits_t (x : ((((List I3) × ((List I2) × ((List I3) × (List I9)))) × (I2 × (List Int))) × Int)) : Tr Bool true :=
 (.fnQ plooks_S x fun y =>
 (.b01 (!y)
 (.ret false)
 (.fn containsI_S (x.1.2.2,x.2) fun y_1 =>
 (.b01 y_1
 (.ret false)
 (.fn bshadow_S (x.1.1,(x.2,x.1.2.1.1)) fun y_2 =>
 (.fnQ containsO_S (x.1.2.2,(y_2,x.1)) fun y_3 =>
 (.b01 y_3
 (.ret false)
 (.fn enext_S (x.1.1,x.2) fun y_4 =>
 (.b01 ((nL x.1.2.2) == z0)
 (.ret true)
 (.fnQ containsP_S (y_4.1,x.1) fun y_5 =>
 (.ret y_5)))))))))))
abbrev pfits_S : FnQ := ⟨(.pair (.var vpiece) (.arg (.one yi))),(.one Ty.bool),pfits_pre,pfits⟩
theorem pfits_ok : SpecOk Tryz.prog 31 (fnSpecQ pfits_S) := SpecOk.trQ pfits_S pfits_t (fn := Tryz.f31) tt_ok sp_containsP_ok mixed (by kernel_rfl) (ItsOk.nil _ _) (fun x => LpsOk.nil) (fun x => (by kernel_rfl)) fun x Q => (by kernel_rfl)
def sp_pfits : List (Nat × Ev.Spec) := (31,fnSpecQ pfits_S) :: sp_containsP
theorem sp_pfits_ok : SpecsOk Tryz.prog sp_pfits := SpecsOk.add (fn := Tryz.f31) (by kernel_rfl) pfits_ok sp_containsP_ok
end Go.Proofs.YtkbmjhabfjgoiaaGreat
