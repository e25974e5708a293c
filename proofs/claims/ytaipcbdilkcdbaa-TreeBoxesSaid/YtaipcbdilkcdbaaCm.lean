/- What sorting is by: the models (of this seat's program). -/
import Derived.Test.YtaipcbdilkcdbaaEvT
import Derived.Test.YtaipcbdilkcdbaaTt
noncomputable section
set_option linter.unusedSectionVars false
set_option linter.unusedVariables false
set_option linter.unusedSimpArgs false
namespace Go.Proofs.Ytaipcbdilkcdbaa
open Go Go.Ev Go.Proofs
def isNaN (x:Int) : Bool :=
 (x != x)
def isNaN_pre (_:Int) : Prop := True
def isNaN_t (x:Int) : Tr Bool false :=
 (.ret (x != x))
abbrev isNaN_S : FnS := ⟨(.one yi),(.one Ty.bool),isNaN_pre,isNaN⟩
theorem isNaN_ok : SpecOk Try.prog 55 (fnSpec isNaN_S) := SpecOk.tr isNaN_S isNaN_t (fn := Try.f55) tt_ok (SpecsOk.nil _) mixed (by kernel_rfl) (ItsOk.nil _ _) (fun x => LpsOk.nil) (fun x => (by kernel_rfl)) fun x Q => (by kernel_rfl)
def sp_isNaN : List (Nat × Ev.Spec) := (55,fnSpec isNaN_S) :: []
theorem sp_isNaN_ok : SpecsOk Try.prog sp_isNaN := SpecsOk.add (fn := Try.f55) (by kernel_rfl) isNaN_ok (SpecsOk.nil _)
def compare (x : I2) : Int :=
 (letV (isNaN x.1) fun y =>
 (letV (isNaN x.2) fun y_1 =>
 (if (y = true) then
 (if (y_1 = true) then
 (0:Int) else
 (-1:Int)) else
 (if (y_1 = true) then
 (1:Int) else
 (if (x.1 < x.2) then
 (-1:Int) else
 (if (x.1 > x.2) then
 (1:Int) else
 (0:Int)))))))
def compare_pre (_ : I2) : Prop := True
def compare_t (x : I2) : Tr Int false :=
 (.fn0 isNaN_S x.1 trivial fun y =>
 (.fn0 isNaN_S x.2 trivial fun y_1 =>
 (.b00 y
 (.b00 y_1
 (.ret z0)
 (.ret (-1:Int)))
 (.b00 y_1
 (.ret z1)
 (.i00 (x.1 < x.2)
 (.ret (-1:Int))
 (.i00 (x.1 > x.2)
 (.ret z1)
 (.ret z0)))))))
abbrev compare_S : FnS := ⟨(.pair (.one yi) (.one yi)),(.one yi),compare_pre,compare⟩
theorem compare_ok : SpecOk Try.prog 49 (fnSpec compare_S) := SpecOk.tr compare_S compare_t (fn := Try.f49) tt_ok sp_isNaN_ok mixed (by kernel_rfl) (ItsOk.nil _ _) (fun x => LpsOk.nil) (fun x => (by kernel_rfl)) fun x Q => (by kernel_rfl)
def sp_compare : List (Nat × Ev.Spec) := (49,fnSpec compare_S) :: sp_isNaN
theorem sp_compare_ok : SpecsOk Try.prog sp_compare := SpecsOk.add (fn := Try.f49) (by kernel_rfl) compare_ok sp_isNaN_ok
def cmpOr_l0 (x : (List Int)) : LoopD := ⟨[],⟨pvs 18 0 [(3,.v (.one (.i .i64))),(6,.v (.one (.full 0))),(7,.v (.one (.i .i64))),(8,.v (.one (.i .i64)))],[.row yi 0],0,none,[],[0,1,3],[2],[.i],[.i (0:Int),.i (x.length:Int),.l yi x]⟩,[⟨.ret,.ret,⟨pvs 18 0 [(2,.v (.one (.i .i64)))],[],0,none,[],[],[0],[.i],[]⟩⟩,⟨(.exit 0),.normal,⟨pvs 18 0 [(3,.v (.one (.i .i64)))],[],0,none,[],[0],[],[],[.i (0:Int)]⟩⟩]⟩
def cmpOr_l0_step (x : (List Int)) (s:Int) : Int ⊕ (Int ⊕ Unit) :=
 (if (s < (x.length:Int)) then
 (if (((List.getD x (Int.toNat s) (0:Int)) != (0:Int)) = true) then
 (Sum.inr (Sum.inl (List.getD x (Int.toNat s) (0:Int)))) else
 (Sum.inl (w64 (s + (1:Int))))) else
 (Sum.inr (Sum.inr (()))))
def cmpOr_l0_pre (x : (List Int)) (s:Int) : Prop :=
 ((s < (x.length:Int)) →
 ((((0:Int) ≤ s) ∧ (s < (x.length:Int))) ∧
 (((Int.toNat s) < (List.length x)) ∧
 ((Int.toNat s) < (List.length x)))))
def cmpOr_l0_t (x : (List Int)) (s:Int) : Tr (Int ⊕ (Int ⊕ Unit)) true :=
 (.i10 (s < (nL x))
 (.oI2 s x
 (.b00 ((gI x s) != z0)
 (.ret (.inr (Sum.inl (gI x s))))
 (.ret (.inl (w1 s)))))
 (.ret (.inr (Sum.inr (())))))
def cmpOr (x : (List Int)) : Int :=
 (letV (run (cmpOr_l0_step x) (0:Int)) fun r =>
 (Sum.elim (fun a =>
 a) (fun b =>
 (0:Int)) r))
def cmpOr_pre (x : (List Int)) : Prop :=
 (Term (cmpOr_l0_step x) (cmpOr_l0_pre x) (0:Int))
def cmpOr_t (x : (List Int)) : Tr Int true :=
 (LoopD.lp (cmpOr_l0 x) (cmpOr_l0_t x) z0 fun r =>
 (.s00 r (fun a =>
 (.ret a)) (fun b =>
 (.ret z0))))
abbrev cmpOr_S : FnS := ⟨(.one (Ty.sl yi)),(.one yi),cmpOr_pre,cmpOr⟩
theorem cmpOr_ok : SpecOk Try.prog 48 (fnSpec cmpOr_S) := SpecOk.tr cmpOr_S cmpOr_t (fn := Try.f48) tt_ok sp_compare_ok mixed (by kernel_rfl) (ItsOk.nil _ _) (fun x => (LpsOk.tr tt_ok (SpecsOk.ctxI sp_compare_ok (ItsOk.nil _ _)) mixed 0 (cmpOr_l0 x) (cmpOr_l0_t x) LpsOk.nil (by kernel_rfl) fun g s Q => (by kernel_rfl))) (fun x => (by kernel_rfl)) fun x Q => (by kernel_rfl)
def sp_cmpOr : List (Nat × Ev.Spec) := (48,fnSpec cmpOr_S) :: sp_compare
theorem sp_cmpOr_ok : SpecsOk Try.prog sp_cmpOr := SpecsOk.add (fn := Try.f48) (by kernel_rfl) cmpOr_ok sp_compare_ok
def middle (x : (((List I9) × Int) × Int)) : Int :=
 (w64 ((w64 ((w64 ((0:Int) + (List.getD [(List.getD x.1.1 (Int.toNat x.2) (((0:Int),((0:Int),(0:Int))),(((0:Int),((0:Int),(0:Int))),((0:Int),((0:Int),(0:Int)))))).1.1,(List.getD x.1.1 (Int.toNat x.2) (((0:Int),((0:Int),(0:Int))),(((0:Int),((0:Int),(0:Int))),((0:Int),((0:Int),(0:Int)))))).1.2.1,(List.getD x.1.1 (Int.toNat x.2) (((0:Int),((0:Int),(0:Int))),(((0:Int),((0:Int),(0:Int))),((0:Int),((0:Int),(0:Int)))))).1.2.2] ((Int.toNat x.1.2) * 1) (0:Int)))) + (List.getD [(List.getD x.1.1 (Int.toNat x.2) (((0:Int),((0:Int),(0:Int))),(((0:Int),((0:Int),(0:Int))),((0:Int),((0:Int),(0:Int)))))).2.1.1,(List.getD x.1.1 (Int.toNat x.2) (((0:Int),((0:Int),(0:Int))),(((0:Int),((0:Int),(0:Int))),((0:Int),((0:Int),(0:Int)))))).2.1.2.1,(List.getD x.1.1 (Int.toNat x.2) (((0:Int),((0:Int),(0:Int))),(((0:Int),((0:Int),(0:Int))),((0:Int),((0:Int),(0:Int)))))).2.1.2.2] ((Int.toNat x.1.2) * 1) (0:Int)))) + (List.getD [(List.getD x.1.1 (Int.toNat x.2) (((0:Int),((0:Int),(0:Int))),(((0:Int),((0:Int),(0:Int))),((0:Int),((0:Int),(0:Int)))))).2.2.1,(List.getD x.1.1 (Int.toNat x.2) (((0:Int),((0:Int),(0:Int))),(((0:Int),((0:Int),(0:Int))),((0:Int),((0:Int),(0:Int)))))).2.2.2.1,(List.getD x.1.1 (Int.toNat x.2) (((0:Int),((0:Int),(0:Int))),(((0:Int),((0:Int),(0:Int))),((0:Int),((0:Int),(0:Int)))))).2.2.2.2] ((Int.toNat x.1.2) * 1) (0:Int))))
def middle_pre (x : (((List I9) × Int) × Int)) : Prop :=
 ((((0:Int) ≤ x.2) ∧ (x.2 < (x.1.1.length:Int))) ∧
 (((Int.toNat x.2) < (List.length x.1.1)) ∧
 (((Int.toNat x.2) < (List.length x.1.1)) ∧
 ((((0:Int) ≤ x.1.2) ∧ (x.1.2 < (3:Int))) ∧
 ((((0:Int) ≤ x.1.2) ∧ (x.1.2 < (3:Int))) ∧
 (((0:Int) ≤ x.1.2) ∧ (x.1.2 < (3:Int))))))))
def middle_t (x : (((List I9) × Int) × Int)) : Tr Int true :=
 (.oI2 x.2 x.1.1
 (.oR x.1.2 (3:Int)
 (.oR x.1.2 (3:Int)
 (.oR x.1.2 (3:Int)
 (.ret (w64 ((w64 ((w64 (z0 + (List.getD [(gT x.1.1 x.2 zz9).1.1,(gT x.1.1 x.2 zz9).1.2.1,(gT x.1.1 x.2 zz9).1.2.2] ((tN x.1.2) * 1) z0))) + (List.getD [(gT x.1.1 x.2 zz9).2.1.1,(gT x.1.1 x.2 zz9).2.1.2.1,(gT x.1.1 x.2 zz9).2.1.2.2] ((tN x.1.2) * 1) z0))) + (List.getD [(gT x.1.1 x.2 zz9).2.2.1,(gT x.1.1 x.2 zz9).2.2.2.1,(gT x.1.1 x.2 zz9).2.2.2.2] ((tN x.1.2) * 1) z0))))))))
abbrev middle_S : FnS := ⟨(.pair (.agg (Ty.prod (Ty.sl yy9) yi)) (.one yi)),(.one yi),middle_pre,middle⟩
theorem middle_ok : SpecOk Try.prog 50 (fnSpec middle_S) := SpecOk.tr middle_S middle_t (fn := Try.f50) tt_ok sp_cmpOr_ok mixed (by kernel_rfl) (ItsOk.nil _ _) (fun x => (LpsOk.unrollT tt_ok (SpecsOk.ctxI sp_cmpOr_ok (ItsOk.nil _ _)) mixed 0 4 LpsOk.nil (by kernel_rfl))) (fun x => (by kernel_rfl)) fun x Q => (by kernel_rfl)
def sp_middle : List (Nat × Ev.Spec) := (50,fnSpec middle_S) :: sp_cmpOr
theorem sp_middle_ok : SpecsOk Try.prog sp_middle := SpecsOk.add (fn := Try.f50) (by kernel_rfl) middle_ok sp_cmpOr_ok
def byM (x : (((List I9) × Int) × I2)) : Int :=
 (letV (middle (x.1,x.2.1)) fun y =>
 (letV (middle (x.1,x.2.2)) fun y_1 =>
 (letV (compare (y,y_1)) fun y_2 =>
 (letV (compare x.2) fun y_3 =>
 (letV (cmpOr [y_2,y_3]) fun y_4 =>
 y_4)))))
def byM_pre (x : (((List I9) × Int) × I2)) : Prop :=
 ((middle_pre (x.1,x.2.1)) ∧
 letP (middle (x.1,x.2.1)) fun y =>
 ((middle_pre (x.1,x.2.2)) ∧
 letP (middle (x.1,x.2.2)) fun y_1 =>
 (letP (compare (y,y_1)) fun y_2 =>
 (letP (compare x.2) fun y_3 =>
 (cmpOr_pre [y_2,y_3])))))
def byM_t (x : (((List I9) × Int) × I2)) : Tr Int true :=
 (.fn middle_S (x.1,x.2.1) fun y =>
 (.fn middle_S (x.1,x.2.2) fun y_1 =>
 (.fn0 compare_S (y,y_1) trivial fun y_2 =>
 (.fn0 compare_S x.2 trivial fun y_3 =>
 (.fn cmpOr_S [y_2,y_3] fun y_4 =>
 (.ret y_4))))))
abbrev byM_S : FnS := ⟨(.pair (.agg (Ty.prod (Ty.sl yy9) yi)) (.pair (.one yi) (.one yi))),(.one yi),byM_pre,byM⟩
theorem byM_ok : SpecOk Try.prog 37 (fnSpec byM_S) := SpecOk.tr byM_S byM_t (fn := Try.f37) tt_ok sp_middle_ok mixed (by kernel_rfl) (ItsOk.nil _ _) (fun x => LpsOk.nil) (fun x => (by kernel_rfl)) fun x Q => (by kernel_rfl)
def sp_byM : List (Nat × Ev.Spec) := (37,fnSpec byM_S) :: sp_middle
theorem sp_byM_ok : SpecsOk Try.prog sp_byM := SpecsOk.add (fn := Try.f37) (by kernel_rfl) byM_ok sp_middle_ok
abbrev cmpP : Par := .mv 37 true (.prod (.sl (.prod (.prod (.int .i64) (.prod (.int .i64) (.int .i64))) (.prod (.prod (.int .i64) (.prod (.int .i64) (.int .i64))) (.prod (.int .i64) (.prod (.int .i64) (.int .i64)))))) (.int .i64))
abbrev RT : Type := List I9 × Int
end Go.Proofs.Ytaipcbdilkcdbaa
