/- What sorting is by: the models (of this seat's program). -/
import Derived.Test.YtbjfokijjefoeaaEvT
import Derived.Test.YtbjfokijjefoeaaTt
namespace Go.Proofs.Ytbjfokijjefoeaa
open Go Go.Ev Go.Proofs
set_option linter.unusedVariables false
noncomputable def isNaN (x:Int) : Bool :=
 (x != x)
noncomputable def isNaN_pre (_:Int) : Prop := True
noncomputable def isNaN_t (x:Int) : Tr Bool false :=
 (.ret (x != x))
noncomputable abbrev isNaN_S : FnS := ⟨(.one yi),(.one Ty.bool),isNaN_pre,isNaN⟩
theorem isNaN_ok : SpecOk Try.prog 72 (fnSpec isNaN_S) := SpecOk.tr isNaN_S isNaN_t (fn := Try.f72) tt_ok (SpecsOk.nil _) mixed (by kernel_rfl) (ItsOk.nil _ _) (fun x => LpsOk.nil) (fun x => (by kernel_rfl)) fun x Q => (by kernel_rfl)
def sp_isNaN : List (Nat × Ev.Spec) := (72,fnSpec isNaN_S) :: []
theorem sp_isNaN_ok : SpecsOk Try.prog sp_isNaN := SpecsOk.add (fn := Try.f72) (by kernel_rfl) isNaN_ok (SpecsOk.nil _)
noncomputable def compare (x : I2) : Int :=
 (letV (isNaN x.1) fun y =>
 (letV (isNaN x.2) fun y_1 =>
 (if (y = true) then
 (if (y_1 = true) then
 (0:Int) else
 (-1:Int)) else
 (if (y_1 = true) then
 (1:Int) else
 (if (x.1 < x.2) then
 (-1:Int) else
 (if (x.1 > x.2) then
 (1:Int) else
 (0:Int)))))))
noncomputable def compare_pre (_ : I2) : Prop := True
noncomputable def compare_t (x : I2) : Tr Int false :=
 (.fn0 isNaN_S x.1 trivial fun y =>
 (.fn0 isNaN_S x.2 trivial fun y_1 =>
 (.b00 y
 (.b00 y_1
 (.ret z0)
 (.ret (-1:Int)))
 (.b00 y_1
 (.ret z1)
 (.i00 (x.1 < x.2)
 (.ret (-1:Int))
 (.i00 (x.1 > x.2)
 (.ret z1)
 (.ret z0)))))))
noncomputable abbrev compare_S : FnS := ⟨(.pair (.one yi) (.one yi)),(.one yi),compare_pre,compare⟩
theorem compare_ok : SpecOk Try.prog 48 (fnSpec compare_S) := SpecOk.tr compare_S compare_t (fn := Try.f48) tt_ok sp_isNaN_ok mixed (by kernel_rfl) (ItsOk.nil _ _) (fun x => LpsOk.nil) (fun x => (by kernel_rfl)) fun x Q => (by kernel_rfl)
def sp_compare : List (Nat × Ev.Spec) := (48,fnSpec compare_S) :: sp_isNaN
theorem sp_compare_ok : SpecsOk Try.prog sp_compare := SpecsOk.add (fn := Try.f48) (by kernel_rfl) compare_ok sp_isNaN_ok
noncomputable def cmpOr_l0 (x : (List Int)) : LoopD := ⟨[],⟨pvs 18 0 [(3,.v (.one (.i .i64))),(6,.v (.one (.full 0))),(7,.v (.one (.i .i64))),(8,.v (.one (.i .i64)))],[.row yi 0],0,none,[],[0,1,3],[2],[.i],[.i (0:Int),.i (((List.length x):Nat):Int),.l yi x]⟩,[⟨.ret,.ret,⟨pvs 18 0 [(2,.v (.one (.i .i64)))],[],0,none,[],[],[0],[.i],[]⟩⟩,⟨(.exit 0),.normal,⟨pvs 18 0 [(3,.v (.one (.i .i64)))],[],0,none,[],[0],[],[],[.i (0:Int)]⟩⟩]⟩
noncomputable def cmpOr_l0_step (x : (List Int)) (s:Int) : Int ⊕ (Int ⊕ Unit) :=
 (if (s < (((List.length x):Nat):Int)) then
 (if (((List.getD x (Int.toNat s) (0:Int)) != (0:Int)) = true) then
 (Sum.inr (Sum.inl (List.getD x (Int.toNat s) (0:Int)))) else
 (Sum.inl (w64 (s + (1:Int))))) else
 (Sum.inr (Sum.inr (()))))
noncomputable def cmpOr_l0_pre (x : (List Int)) (s:Int) : Prop :=
 ((s < (((List.length x):Nat):Int)) →
 ((((0:Int) ≤ s) ∧ (s < (((List.length x):Nat):Int))) ∧
 (((Int.toNat s) < (List.length x)) ∧
 ((Int.toNat s) < (List.length x)))))
noncomputable def cmpOr_l0_t (x : (List Int)) (s:Int) : Tr (Int ⊕ (Int ⊕ Unit)) true :=
 (.i10 (s < (nL x))
 (.oR s (nL x)
 (.od ((tN s) < (List.length x))
 (.od ((tN s) < (List.length x))
 (.b00 ((gI x s) != z0)
 (.ret (.inr (Sum.inl (gI x s))))
 (.ret (.inl (w1 s)))))))
 (.ret (.inr (Sum.inr (())))))
noncomputable def cmpOr (x : (List Int)) : Int :=
 (letV (run (cmpOr_l0_step x) (0:Int)) fun r =>
 (Sum.elim (fun a =>
 a) (fun b =>
 (0:Int)) r))
noncomputable def cmpOr_pre (x : (List Int)) : Prop :=
 (Term (cmpOr_l0_step x) (cmpOr_l0_pre x) (0:Int))
noncomputable def cmpOr_t (x : (List Int)) : Tr Int true :=
 (LoopD.lp (cmpOr_l0 x) (cmpOr_l0_t x) z0 fun r =>
 (.s00 r (fun a =>
 (.ret a)) (fun b =>
 (.ret z0))))
noncomputable abbrev cmpOr_S : FnS := ⟨(.one (Ty.sl yi)),(.one yi),cmpOr_pre,cmpOr⟩
theorem cmpOr_ok : SpecOk Try.prog 47 (fnSpec cmpOr_S) := SpecOk.tr cmpOr_S cmpOr_t (fn := Try.f47) tt_ok sp_compare_ok mixed (by kernel_rfl) (ItsOk.nil _ _) (fun x => (LpsOk.tr tt_ok (SpecsOk.ctxI sp_compare_ok (ItsOk.nil _ _)) mixed 0 (cmpOr_l0 x) (cmpOr_l0_t x) LpsOk.nil (by kernel_rfl) fun g s Q => (by kernel_rfl))) (fun x => (by kernel_rfl)) fun x Q => (by kernel_rfl)
def sp_cmpOr : List (Nat × Ev.Spec) := (47,fnSpec cmpOr_S) :: sp_compare
theorem sp_cmpOr_ok : SpecsOk Try.prog sp_cmpOr := SpecsOk.add (fn := Try.f47) (by kernel_rfl) cmpOr_ok sp_compare_ok
noncomputable def byM (x : ((List ((List Int) × ((List I6) × I2))) × I2)) : Int :=
 (letV (compare ((List.getD x.1 (Int.toNat x.2.2) ([],([],((0:Int),(0:Int))))).2.2.2,(List.getD x.1 (Int.toNat x.2.1) ([],([],((0:Int),(0:Int))))).2.2.2)) fun y =>
 (letV (compare ((List.getD x.1 (Int.toNat x.2.2) ([],([],((0:Int),(0:Int))))).2.2.1,(List.getD x.1 (Int.toNat x.2.1) ([],([],((0:Int),(0:Int))))).2.2.1)) fun y_1 =>
 (letV (compare x.2) fun y_2 =>
 (letV (cmpOr [y,y_1,y_2]) fun y_3 =>
 y_3))))
noncomputable def byM_pre (x : ((List ((List Int) × ((List I6) × I2))) × I2)) : Prop :=
 ((((0:Int) ≤ x.2.1) ∧ (x.2.1 < (((List.length x.1):Nat):Int))) ∧
 (((Int.toNat x.2.1) < (List.length x.1)) ∧
 (((Int.toNat x.2.1) < (List.length x.1)) ∧
 ((((0:Int) ≤ x.2.2) ∧ (x.2.2 < (((List.length x.1):Nat):Int))) ∧
 (((Int.toNat x.2.2) < (List.length x.1)) ∧
 (((Int.toNat x.2.2) < (List.length x.1)) ∧
 (letP (compare ((List.getD x.1 (Int.toNat x.2.2) ([],([],((0:Int),(0:Int))))).2.2.2,(List.getD x.1 (Int.toNat x.2.1) ([],([],((0:Int),(0:Int))))).2.2.2)) fun y =>
 (letP (compare ((List.getD x.1 (Int.toNat x.2.2) ([],([],((0:Int),(0:Int))))).2.2.1,(List.getD x.1 (Int.toNat x.2.1) ([],([],((0:Int),(0:Int))))).2.2.1)) fun y_1 =>
 (letP (compare x.2) fun y_2 =>
 (cmpOr_pre [y,y_1,y_2]))))))))))
noncomputable def byM_t (x : ((List ((List Int) × ((List I6) × I2))) × I2)) : Tr Int true :=
 (.oR x.2.1 (nL x.1)
 (.od ((tN x.2.1) < (List.length x.1))
 (.od ((tN x.2.1) < (List.length x.1))
 (.oR x.2.2 (nL x.1)
 (.od ((tN x.2.2) < (List.length x.1))
 (.od ((tN x.2.2) < (List.length x.1))
 (.fn0 compare_S ((gT x.1 x.2.2 ([],([],zz2))).2.2.2,(gT x.1 x.2.1 ([],([],zz2))).2.2.2) trivial fun y =>
 (.fn0 compare_S ((gT x.1 x.2.2 ([],([],zz2))).2.2.1,(gT x.1 x.2.1 ([],([],zz2))).2.2.1) trivial fun y_1 =>
 (.fn0 compare_S x.2 trivial fun y_2 =>
 (.fn cmpOr_S [y,y_1,y_2] fun y_3 =>
 (.ret y_3)))))))))))
noncomputable abbrev byM_S : FnS := ⟨(.pair (.one (Ty.sl (Ty.prod (Ty.sl yi) (Ty.prod (Ty.sl yy6) yy2)))) (.pair (.one yi) (.one yi))),(.one yi),byM_pre,byM⟩
theorem byM_ok : SpecOk Try.prog 29 (fnSpec byM_S) := SpecOk.tr byM_S byM_t (fn := Try.f29) tt_ok sp_cmpOr_ok mixed (by kernel_rfl) (ItsOk.nil _ _) (fun x => LpsOk.nil) (fun x => (by kernel_rfl)) fun x Q => (by kernel_rfl)
def sp_byM : List (Nat × Ev.Spec) := (29,fnSpec byM_S) :: sp_cmpOr
theorem sp_byM_ok : SpecsOk Try.prog sp_byM := SpecsOk.add (fn := Try.f29) (by kernel_rfl) byM_ok sp_cmpOr_ok
abbrev cmpP : Par := .mv 29 false (.sl (.prod (.sl (.int .i64)) (.prod (.sl (.prod (.prod (.int .i64) (.int .i64)) (.prod (.prod (.int .i64) (.int .i64)) (.prod (.int .i64) (.int .i64))))) (.prod (.int .i64) (.int .i64)))))
abbrev RT : Type := List ((List Int) × ((List I6) × I2))
end Go.Proofs.Ytbjfokijjefoeaa
