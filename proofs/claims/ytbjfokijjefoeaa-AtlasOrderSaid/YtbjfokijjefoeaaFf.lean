/- Models of functions of layer 16: patches. -/
import Derived.Test.YtbjfokijjefoeaaFe
namespace Go.Proofs.Ytbjfokijjefoeaa
open Go Go.Ev Go.Proofs
set_option linter.unusedVariables false
def sp_lay1 : List (Nat × Ev.Spec) := (78,fnSpec moverlap_S) :: sp_turnedM
theorem sp_lay1_ok : SpecsOk Try.prog sp_lay1 := SpecsOk.add (fn := Try.f78) (by kernel_rfl) moverlap_ok sp_turnedM_ok
def sp_lay2 : List (Nat × Ev.Spec) := (54,fnSpec fapart_S) :: sp_lay1
theorem sp_lay2_ok : SpecsOk Try.prog sp_lay2 := SpecsOk.add (fn := Try.f54) (by kernel_rfl) fapart_ok sp_lay1_ok
def sp_lay3 : List (Nat × Ev.Spec) := (52,fnSpec fbox_S) :: sp_lay2
theorem sp_lay3_ok : SpecsOk Try.prog sp_lay3 := SpecsOk.add (fn := Try.f52) (by kernel_rfl) fbox_ok sp_lay2_ok
noncomputable def fis (x : ((List Int) × ((List I6) × I2))) : Bool :=
 (if ((((List.length x.1):Nat):Int) > (500:Int)) then
 false else
 (if (((((List.length x.2.1):Nat):Int) != (((List.length x.1):Nat):Int)) = true) then
 false else
 (letV (containsT (x.2.1,false)) fun y =>
 (if (y = true) then
 false else
 (letV (fbox x.2.1) fun y_1 =>
 (if ((y_1.2.2 != (0:Int)) = true) then
 false else
 (if ((!((y_1.1.1 == (0:Int)) && ((y_1.1.2 == (0:Int)) && true))) = true) then
 false else
 (letV (fsizes y_1.2.1) fun y_2 =>
 (if ((x.2.2.1 == y_2.1) = true) then
 (if ((x.2.2.2 == y_2.2) = true) then
 (letV (fapart x.2.1) fun y_3 =>
 y_3) else
 false) else
 false)))))))))
noncomputable def fis_pre (x : ((List Int) × ((List I6) × I2))) : Prop :=
 (¬ ((((List.length x.1):Nat):Int) > (500:Int)) →
 (¬ (((((List.length x.2.1):Nat):Int) != (((List.length x.1):Nat):Int)) = true) →
 ((containsT_pre (x.2.1,false)) ∧
 letP (containsT (x.2.1,false)) fun y =>
 (¬ (y = true) →
 ((fbox_pre x.2.1) ∧
 letP (fbox x.2.1) fun y_1 =>
 (¬ ((y_1.2.2 != (0:Int)) = true) →
 (¬ ((!((y_1.1.1 == (0:Int)) && ((y_1.1.2 == (0:Int)) && true))) = true) →
 (letP (fsizes y_1.2.1) fun y_2 =>
 (((x.2.2.1 == y_2.1) = true) →
 (((x.2.2.2 == y_2.2) = true) →
 (fapart_pre x.2.1)))))))))))
noncomputable def fis_t (x : ((List Int) × ((List I6) × I2))) : Tr Bool true :=
 (.i01 ((nL x.1) > (500:Int))
 (.ret false)
 (.b01 ((nL x.2.1) != (nL x.1))
 (.ret false)
 (.fn containsT_S (x.2.1,false) fun y =>
 (.b01 y
 (.ret false)
 (.fn fbox_S x.2.1 fun y_1 =>
 (.b01 (y_1.2.2 != z0)
 (.ret false)
 (.b01 (!((y_1.1.1 == z0) && ((y_1.1.2 == z0) && true)))
 (.ret false)
 (.fn0 fsizes_S y_1.2.1 trivial fun y_2 =>
 (.b10 (x.2.2.1 == y_2.1)
 (.b10 (x.2.2.2 == y_2.2)
 (.fn fapart_S x.2.1 fun y_3 =>
 (.ret y_3))
 (.ret false))
 (.ret false))))))))))
noncomputable abbrev fis_S : FnS := ⟨(.agg (Ty.prod (Ty.sl yi) (Ty.prod (Ty.sl yy6) yy2))),(.one Ty.bool),fis_pre,fis⟩
theorem fis_ok : SpecOk Try.prog 30 (fnSpec fis_S) := SpecOk.tr fis_S fis_t (fn := Try.f30) tt_ok sp_lay3_ok mixed (by kernel_rfl) (ItsOk.nil _ _) (fun x => LpsOk.nil) (fun x => (by kernel_rfl)) fun x Q => (by kernel_rfl)
def sp_fis : List (Nat × Ev.Spec) := (30,fnSpec fis_S) :: sp_lay3
theorem sp_fis_ok : SpecsOk Try.prog sp_fis := SpecsOk.add (fn := Try.f30) (by kernel_rfl) fis_ok sp_lay3_ok
noncomputable def fmove (x : (((List Int) × ((List I6) × I2)) × I2)) : ((List I6) × Int) :=
 (letV (fis x.1) fun y =>
 (if ((!y) = true) then
 ([],(1:Int)) else
 (if ((minI x.2.1 x.2.2) < (0:Int)) then
 ([],(5:Int)) else
 (if ((maxI x.2.1 x.2.2) > (65536:Int)) then
 ([],(5:Int)) else
 (letV (turnedM (x.1.2.1,x.2)) fun y_1 =>
 (y_1,(0:Int)))))))
noncomputable def fmove_pre (x : (((List Int) × ((List I6) × I2)) × I2)) : Prop :=
 ((fis_pre x.1) ∧
 letP (fis x.1) fun y =>
 (¬ ((!y) = true) →
 (¬ ((minI x.2.1 x.2.2) < (0:Int)) →
 (¬ ((maxI x.2.1 x.2.2) > (65536:Int)) →
 (turnedM_pre (x.1.2.1,x.2))))))
noncomputable def fmove_t (x : (((List Int) × ((List I6) × I2)) × I2)) : Tr ((List I6) × Int) true :=
 (.fn fis_S x.1 fun y =>
 (.b01 (!y)
 (.ret ([],z1))
 (.i01 ((minI x.2.1 x.2.2) < z0)
 (.ret ([],(5:Int)))
 (.i01 ((maxI x.2.1 x.2.2) > (65536:Int))
 (.ret ([],(5:Int)))
 (.fn turnedM_S (x.1.2.1,x.2) fun y_1 =>
 (.ret (y_1,z0)))))))
noncomputable abbrev fmove_S : FnS := ⟨(.pair (.agg (Ty.prod (Ty.sl yi) (Ty.prod (Ty.sl yy6) yy2))) (.agg yy2)),(.pair (.one (Ty.sl yy6)) (.one yi)),fmove_pre,fmove⟩
theorem fmove_ok : SpecOk Try.prog 26 (fnSpec fmove_S) := SpecOk.tr fmove_S fmove_t (fn := Try.f26) tt_ok sp_fis_ok mixed (by kernel_rfl) (ItsOk.nil _ _) (fun x => LpsOk.nil) (fun x => (by kernel_rfl)) fun x Q => (by kernel_rfl)
def sp_fmove : List (Nat × Ev.Spec) := (26,fnSpec fmove_S) :: sp_fis
theorem sp_fmove_ok : SpecsOk Try.prog sp_fmove := SpecsOk.add (fn := Try.f26) (by kernel_rfl) fmove_ok sp_fis_ok
end Go.Proofs.Ytbjfokijjefoeaa
