/- Models of functions of layer 17. -/
import Derived.Test.YtbjfokijjefoeaaEvT
import Derived.Test.YtbjfokijjefoeaaTt
namespace Go.Proofs.Ytbjfokijjefoeaa
open Go Go.Ev Go.Proofs
set_option linter.unusedVariables false
noncomputable def swithin_l0 (x : (List Int)) : LoopD := ⟨[],⟨pvs 18 0 [(5,.v (.one (.full 0))),(6,.v (.one (.i .i64))),(7,.v (.one (.i .i64)))],[.row yi 0],0,none,[],[0,2],[1],[.i],[.i (((List.length x):Nat):Int),.l yi x]⟩,[⟨.ret,.ret,⟨pvs 18 0 [(2,.v (.one (.b)))],[],0,none,[],[0],[],[],[.b false]⟩⟩,⟨(.exit 0),.normal,⟨pvs 18 0 [],[],0,none,[],[],[],[],[]⟩⟩]⟩
noncomputable def swithin_l0_step (x : (List Int)) (s:Int) : Int ⊕ (Unit ⊕ Unit) :=
 (if (s < (((List.length x):Nat):Int)) then
 (if ((List.getD x (Int.toNat s) (0:Int)) < (1:Int)) then
 (Sum.inr (Sum.inl ())) else
 (if ((List.getD x (Int.toNat s) (0:Int)) > (256:Int)) then
 (Sum.inr (Sum.inl ())) else
 (Sum.inl (w64 (s + (1:Int)))))) else
 (Sum.inr (Sum.inr (()))))
noncomputable def swithin_l0_pre (x : (List Int)) (s:Int) : Prop :=
 ((s < (((List.length x):Nat):Int)) →
 ((((0:Int) ≤ s) ∧ (s < (((List.length x):Nat):Int))) ∧
 (((Int.toNat s) < (List.length x)) ∧
 ((Int.toNat s) < (List.length x)))))
noncomputable def swithin_l0_t (x : (List Int)) (s:Int) : Tr (Int ⊕ (Unit ⊕ Unit)) true :=
 (.i10 (s < (nL x))
 (.oR s (nL x)
 (.od ((tN s) < (List.length x))
 (.od ((tN s) < (List.length x))
 (.i00 ((gI x s) < z1)
 (.ret (.inr (Sum.inl ())))
 (.i00 ((gI x s) > (256:Int))
 (.ret (.inr (Sum.inl ())))
 (.ret (.inl (w1 s))))))))
 (.ret (.inr (Sum.inr (())))))
noncomputable def swithin (x : (List Int)) : Bool :=
 (letV (run (swithin_l0_step x) (0:Int)) fun r =>
 (Sum.elim (fun a =>
 false) (fun b =>
 true) r))
noncomputable def swithin_pre (x : (List Int)) : Prop :=
 (Term (swithin_l0_step x) (swithin_l0_pre x) (0:Int))
noncomputable def swithin_t (x : (List Int)) : Tr Bool true :=
 (LoopD.lp (swithin_l0 x) (swithin_l0_t x) z0 fun r =>
 (.s00 r (fun a =>
 (.ret false)) (fun b =>
 (.ret true))))
noncomputable abbrev swithin_S : FnS := ⟨(.one (Ty.sl yi)),(.one Ty.bool),swithin_pre,swithin⟩
theorem swithin_ok : SpecOk Try.prog 32 (fnSpec swithin_S) := SpecOk.tr swithin_S swithin_t (fn := Try.f32) tt_ok (SpecsOk.nil _) mixed (by kernel_rfl) (ItsOk.nil _ _) (fun x => (LpsOk.tr tt_ok (SpecsOk.ctxI (SpecsOk.nil _) (ItsOk.nil _ _)) mixed 0 (swithin_l0 x) (swithin_l0_t x) LpsOk.nil (by kernel_rfl) fun g s Q => (by kernel_rfl))) (fun x => (by kernel_rfl)) fun x Q => (by kernel_rfl)
def sp_swithin : List (Nat × Ev.Spec) := (32,fnSpec swithin_S) :: []
theorem sp_swithin_ok : SpecsOk Try.prog sp_swithin := SpecsOk.add (fn := Try.f32) (by kernel_rfl) swithin_ok (SpecsOk.nil _)
noncomputable def maxM_l0 (x : (List Int)) : LoopD := ⟨[],⟨pvs 25 0 [(0,.v (.one (.full 0))),(3,.v (.one (.i .i64))),(4,.v (.one (.i .i64)))],[.row yi 0],0,none,[],[2],[0,1],[.i,.i],[.l yi x]⟩,[⟨(.exit 0),.normal,⟨pvs 25 0 [(3,.v (.one (.i .i64)))],[],0,none,[],[],[0],[.i],[]⟩⟩]⟩
noncomputable def maxM_l0_step (x : (List Int)) (s : I2) : I2 ⊕ Int :=
 (if (s.2 < (((List.length x):Nat):Int)) then
 (Sum.inl ((maxI s.1 (List.getD x (Int.toNat s.2) (0:Int))),(w64 (s.2 + (1:Int))))) else
 (Sum.inr (s.1)))
noncomputable def maxM_l0_pre (x : (List Int)) (s : I2) : Prop :=
 ((s.2 < (((List.length x):Nat):Int)) →
 ((((0:Int) ≤ s.2) ∧ (s.2 < (((List.length x):Nat):Int))) ∧
 (((Int.toNat s.2) < (List.length x)) ∧
 ((Int.toNat s.2) < (List.length x)))))
noncomputable def maxM_l0_t (x : (List Int)) (s : I2) : Tr (I2 ⊕ Int) true :=
 (.i10 (s.2 < (nL x))
 (.oR s.2 (nL x)
 (.od ((tN s.2) < (List.length x))
 (.od ((tN s.2) < (List.length x))
 (.ret (.inl ((maxI s.1 (gI x s.2)),(w1 s.2)))))))
 (.ret (.inr (s.1))))
noncomputable def maxM (x : (List Int)) : Int :=
 (if ((((List.length x):Nat):Int) < (1:Int)) then
 default else
 (letV (run (maxM_l0_step x) ((List.getD x 0 (0:Int)),(1:Int))) fun r =>
 r))
noncomputable def maxM_pre (x : (List Int)) : Prop :=
 ((((((List.length x):Nat):Int) < (1:Int)) →
 False) ∧
 (¬ ((((List.length x):Nat):Int) < (1:Int)) →
 (((0:Int) < (((List.length x):Nat):Int)) ∧
 ((0 < (List.length x)) ∧
 ((0 < (List.length x)) ∧
 (Term (maxM_l0_step x) (maxM_l0_pre x) ((List.getD x 0 (0:Int)),(1:Int))))))))
noncomputable def maxM_t (x : (List Int)) : Tr Int true :=
 (.i11 ((nL x) < z1)
 (.og false False False.elim (.ret default))
 (.og (true && (decide (z0 < (nL x)))) (z0 < (nL x)) (fun h => (and_t rfl (decide_eq_true h)))
 (.od (0 < (List.length x))
 (.od (0 < (List.length x))
 (LoopD.lp (maxM_l0 x) (maxM_l0_t x) ((List.getD x 0 z0),z1) fun r =>
 (.ret r))))))
noncomputable abbrev maxM_S : FnS := ⟨(.one (Ty.sl yi)),(.one yi),maxM_pre,maxM⟩
theorem maxM_ok : SpecOk Try.prog 56 (fnSpec maxM_S) := SpecOk.tr maxM_S maxM_t (fn := Try.f56) tt_ok sp_swithin_ok mixed (by kernel_rfl) (ItsOk.nil _ _) (fun x => (LpsOk.tr tt_ok (SpecsOk.ctxI sp_swithin_ok (ItsOk.nil _ _)) mixed 0 (maxM_l0 x) (maxM_l0_t x) LpsOk.nil (by kernel_rfl) fun g s Q => (by kernel_rfl))) (fun x => (by kernel_rfl)) fun x Q => (by kernel_rfl)
def sp_maxM : List (Nat × Ev.Spec) := (56,fnSpec maxM_S) :: sp_swithin
theorem sp_maxM_ok : SpecsOk Try.prog sp_maxM := SpecsOk.add (fn := Try.f56) (by kernel_rfl) maxM_ok sp_swithin_ok
noncomputable def sfind_l0 (x : ((List Int) × I3)) : LoopD := ⟨[],⟨pvs 55 0 [(0,.v (.one (.full 0))),(1,.v (.one (.i .i64))),(2,.v (.one (.i .i64))),(3,.v (.one (.i .i64))),(11,.v (.one (.i .i64))),(12,.v (.one (.i .i64))),(13,.v (.one (.b))),(21,.v (.one (.i .i64))),(22,.v (.one (.i .i64)))],[.row yi 0],0,none,[],[0,1,2,6,8],[3,4,5,7],[.i,.i,.b,.i],[.i x.2.1,.i x.2.2.1,.i x.2.2.2,.i (maxI (w64 ((w64 ((((List.length x.1):Nat):Int) - x.2.1)) + (1:Int))) (0:Int)),.l yi x.1]⟩,[⟨(.exit 0),.normal,⟨pvs 55 0 [(11,.v (.one (.i .i64))),(12,.v (.one (.i .i64))),(13,.v (.one (.b)))],[],0,none,[],[],[0,1,2],[.i,.i,.b],[]⟩⟩]⟩
noncomputable def sfind_l0_step (x : ((List Int) × I3)) (s : (Int × (Int × (Bool × Int)))) : (Int × (Int × (Bool × Int))) ⊕ (Int × (Int × Bool)) :=
 (if (s.2.2.2 < (maxI (w64 ((w64 ((((List.length x.1):Nat):Int) - x.2.1)) + (1:Int))) (0:Int))) then
 (letV (maxM (List.take ((Int.toNat (w64 (s.2.2.2 + x.2.1))) - (Int.toNat s.2.2.2)) (List.drop (Int.toNat s.2.2.2) x.1))) fun y =>
 (if ((w64 (y + x.2.2.1)) ≤ x.2.2.2) then
 (if ((!s.2.2.1) = true) then
 (Sum.inl (s.2.2.2,(y,(true,(w64 (s.2.2.2 + (1:Int))))))) else
 (if (y < s.2.1) then
 (Sum.inl (s.2.2.2,(y,(true,(w64 (s.2.2.2 + (1:Int))))))) else
 (Sum.inl (s.1,(s.2.1,(s.2.2.1,(w64 (s.2.2.2 + (1:Int))))))))) else
 (Sum.inl (s.1,(s.2.1,(s.2.2.1,(w64 (s.2.2.2 + (1:Int))))))))) else
 (Sum.inr ((s.1,(s.2.1,s.2.2.1)))))
noncomputable def sfind_l0_pre (x : ((List Int) × I3)) (s : (Int × (Int × (Bool × Int)))) : Prop :=
 ((s.2.2.2 < (maxI (w64 ((w64 ((((List.length x.1):Nat):Int) - x.2.1)) + (1:Int))) (0:Int))) →
 ((((0:Int) ≤ (w64 (s.2.2.2 + x.2.1))) ∧ ((w64 (s.2.2.2 + x.2.1)) ≤ (((List.length x.1):Nat):Int))) ∧
 ((((0:Int) ≤ (w64 (s.2.2.2 + x.2.1))) ∧ ((w64 (s.2.2.2 + x.2.1)) ≤ (((Int.toNat (w64 (s.2.2.2 + x.2.1))):Nat):Int))) ∧
 ((((0:Int) ≤ s.2.2.2) ∧ (s.2.2.2 ≤ (((Int.toNat (w64 (s.2.2.2 + x.2.1))):Nat):Int))) ∧
 (maxM_pre (List.take ((Int.toNat (w64 (s.2.2.2 + x.2.1))) - (Int.toNat s.2.2.2)) (List.drop (Int.toNat s.2.2.2) x.1)))))))
noncomputable def sfind_l0_t (x : ((List Int) × I3)) (s : (Int × (Int × (Bool × Int)))) : Tr ((Int × (Int × (Bool × Int))) ⊕ (Int × (Int × Bool))) true :=
 (.i10 (s.2.2.2 < (maxI (w1 (w64 ((nL x.1) - x.2.1))) z0))
 (.og ((decide (z0 ≤ (w64 (s.2.2.2 + x.2.1)))) && (decide ((w64 (s.2.2.2 + x.2.1)) ≤ (nL x.1)))) ((z0 ≤ (w64 (s.2.2.2 + x.2.1))) ∧ ((w64 (s.2.2.2 + x.2.1)) ≤ (nL x.1))) (fun h => (and_t (decide_eq_true h.1) (decide_eq_true h.2)))
 (.og ((decide (z0 ≤ (w64 (s.2.2.2 + x.2.1)))) && (decide ((w64 (s.2.2.2 + x.2.1)) ≤ (((tN (w64 (s.2.2.2 + x.2.1))):Nat):Int)))) ((z0 ≤ (w64 (s.2.2.2 + x.2.1))) ∧ ((w64 (s.2.2.2 + x.2.1)) ≤ (((tN (w64 (s.2.2.2 + x.2.1))):Nat):Int))) (fun h => (and_t (decide_eq_true h.1) (decide_eq_true h.2)))
 (.og ((decide (z0 ≤ s.2.2.2)) && (decide (s.2.2.2 ≤ (((tN (w64 (s.2.2.2 + x.2.1))):Nat):Int)))) ((z0 ≤ s.2.2.2) ∧ (s.2.2.2 ≤ (((tN (w64 (s.2.2.2 + x.2.1))):Nat):Int))) (fun h => (and_t (decide_eq_true h.1) (decide_eq_true h.2)))
 (.fn maxM_S (List.take ((tN (w64 (s.2.2.2 + x.2.1))) - (tN s.2.2.2)) (List.drop (tN s.2.2.2) x.1)) fun y =>
 (.i00 ((w64 (y + x.2.2.1)) ≤ x.2.2.2)
 (.b00 (!s.2.2.1)
 (.ret (.inl (s.2.2.2,(y,(true,(w1 s.2.2.2))))))
 (.i00 (y < s.2.1)
 (.ret (.inl (s.2.2.2,(y,(true,(w1 s.2.2.2))))))
 (.ret (.inl (s.1,(s.2.1,(s.2.2.1,(w1 s.2.2.2))))))))
 (.ret (.inl (s.1,(s.2.1,(s.2.2.1,(w1 s.2.2.2)))))))))))
 (.ret (.inr ((s.1,(s.2.1,s.2.2.1))))))
noncomputable def sfind (x : ((List Int) × I3)) : (Int × (Int × Bool)) :=
 (letV (run (sfind_l0_step x) ((0:Int),((0:Int),(false,(0:Int))))) fun r =>
 r)
noncomputable def sfind_pre (x : ((List Int) × I3)) : Prop :=
 (Term (sfind_l0_step x) (sfind_l0_pre x) ((0:Int),((0:Int),(false,(0:Int)))))
noncomputable def sfind_t (x : ((List Int) × I3)) : Tr (Int × (Int × Bool)) true :=
 (LoopD.lp (sfind_l0 x) (sfind_l0_t x) (z0,(z0,(false,z0))) fun r =>
 (.ret r))
noncomputable abbrev sfind_S : FnS := ⟨(.pair (.one (Ty.sl yi)) (.pair (.one yi) (.pair (.one yi) (.one yi)))),(.pair (.one yi) (.pair (.one yi) (.one Ty.bool))),sfind_pre,sfind⟩
theorem sfind_ok : SpecOk Try.prog 34 (fnSpec sfind_S) := SpecOk.tr sfind_S sfind_t (fn := Try.f34) tt_ok sp_maxM_ok mixed (by kernel_rfl) (ItsOk.nil _ _) (fun x => (LpsOk.tr tt_ok (SpecsOk.ctxI sp_maxM_ok (ItsOk.nil _ _)) mixed 0 (sfind_l0 x) (sfind_l0_t x) LpsOk.nil (by kernel_rfl) fun g s Q => (by kernel_rfl))) (fun x => (by kernel_rfl)) fun x Q => (by kernel_rfl)
def sp_sfind : List (Nat × Ev.Spec) := (34,fnSpec sfind_S) :: sp_maxM
theorem sp_sfind_ok : SpecsOk Try.prog sp_sfind := SpecsOk.add (fn := Try.f34) (by kernel_rfl) sfind_ok sp_maxM_ok
noncomputable def srise_l0_2 (x : ((List Int) × I3)) : LoopD := ⟨[.env],⟨pvs 20 0 [(0,.v (.one (.full 0))),(1,.v (.one (.i .i64))),(3,.v (.one (.i .i64))),(9,.v (.one (.i .i64))),(10,.v (.one (.i .i64)))],[.row yi 1,.pin 1],2,none,[5],[0,1,2],[4,3],[(.l yi),.i],[.i x.2.1,.i x.2.2.2,.i x.2.2.1]⟩,[⟨(.exit 0),.normal,⟨pvs 20 0 [],[.row yi 1,.pin 1],2,none,[1],[],[0],[(.l yi)],[]⟩⟩]⟩
noncomputable def srise_l0_2_step (x : ((List Int) × I3)) (s : ((List Int) × Int)) : ((List Int) × Int) ⊕ (List Int) :=
 (if (s.2 < x.2.2.1) then
 (letV (List.set s.1 (Int.toNat (w64 (x.2.1 + s.2))) x.2.2.2) fun y =>
 (Sum.inl (y,(w64 (s.2 + (1:Int)))))) else
 (Sum.inr (s.1)))
noncomputable def srise_l0_2_pre (x : ((List Int) × I3)) (s : ((List Int) × Int)) : Prop :=
 ((s.2 < x.2.2.1) →
 ((((0:Int) ≤ (w64 (x.2.1 + s.2))) ∧ ((w64 (x.2.1 + s.2)) < (((List.length s.1):Nat):Int))) ∧
 (((Int.toNat (w64 (x.2.1 + s.2))) < (List.length s.1)) ∧
 ((Int.toNat (w64 (x.2.1 + s.2))) < (List.length s.1)))))
noncomputable def srise_l0_2_t (x : ((List Int) × I3)) (s : ((List Int) × Int)) : Tr (((List Int) × Int) ⊕ (List Int)) true :=
 (.i10 (s.2 < x.2.2.1)
 (.oR (w64 (x.2.1 + s.2)) (nL s.1)
 (.od ((tN (w64 (x.2.1 + s.2))) < (List.length s.1))
 (.od ((tN (w64 (x.2.1 + s.2))) < (List.length s.1))
 (.lt (List.set s.1 (tN (w64 (x.2.1 + s.2))) x.2.2.2) fun y =>
 (.ret (.inl (y,(w1 s.2))))))))
 (.ret (.inr (s.1))))
noncomputable def srise (x : ((List Int) × I3)) : (Bool × ((List Int) × (Bool × (Bool × Bool)))) :=
 (letV (run (srise_l0_2_step x) (x.1,(0:Int))) fun r =>
 (false,(r,(false,(false,false)))))
noncomputable def srise_pre (x : ((List Int) × I3)) : Prop :=
 (Term (srise_l0_2_step x) (srise_l0_2_pre x) (x.1,(0:Int)) ∧
 letP (run (srise_l0_2_step x) (x.1,(0:Int))) fun r =>
 ((List.length r) = (List.length x.1)))
noncomputable def srise_t (x : ((List Int) × I3)) : Tr (Bool × ((List Int) × (Bool × (Bool × Bool)))) true :=
 (LoopD.lp (srise_l0_2 x) (srise_l0_2_t x) (x.1,z0) fun r =>
 (.pn 0 1
 (.og ((decide ((List.length r) = (List.length x.1))) && true) ((List.length r) = (List.length x.1)) (fun h => (and_t (decide_eq_true h) rfl))
 (.ret (false,(r,(false,(false,false))))))))
noncomputable abbrev srise_S : FnW := ⟨(.pair (.row yi) (.pair (.val (.one yi)) (.pair (.val (.one yi)) (.val (.one yi))))),.none,srise_pre,srise⟩
theorem srise_ok : SpecOk Try.prog 35 (fnSpecW srise_S) := SpecOk.trW srise_S srise_t (fn := Try.f35) tt_ok sp_sfind_ok mixed (by kernel_rfl) (ItsOk.nil _ _) (fun x => (LpsOk.tr tt_ok (SpecsOk.ctxI sp_sfind_ok (ItsOk.nil _ _)) mixed 0 (srise_l0_2 x) (srise_l0_2_t x) LpsOk.nil (by kernel_rfl) fun g s Q => (by kernel_rfl))) (fun x => (by kernel_rfl)) fun x r0 Q => (by kernel_rfl)
def sp_srise : List (Nat × Ev.Spec) := (35,fnSpecW srise_S) :: sp_sfind
theorem sp_srise_ok : SpecsOk Try.prog sp_srise := SpecsOk.add (fn := Try.f35) (by kernel_rfl) srise_ok sp_sfind_ok
noncomputable def poddc (x : I2) : Bool :=
 (letV (swithin [x.1,x.2]) fun y =>
 (!y))
noncomputable def poddc_pre (x : I2) : Prop :=
 (swithin_pre [x.1,x.2])
noncomputable def poddc_t (x : I2) : Tr Bool true :=
 (.fn swithin_S [x.1,x.2] fun y =>
 (.ret (!y)))
noncomputable abbrev poddc_S : FnS := ⟨(.agg yy2),(.one Ty.bool),poddc_pre,poddc⟩
theorem poddc_ok : SpecOk Try.prog 31 (fnSpec poddc_S) := SpecOk.tr poddc_S poddc_t (fn := Try.f31) tt_ok sp_srise_ok mixed (by kernel_rfl) (ItsOk.nil _ _) (fun x => LpsOk.nil) (fun x => (by kernel_rfl)) fun x Q => (by kernel_rfl)
def sp_poddc : List (Nat × Ev.Spec) := (31,fnSpec poddc_S) :: sp_srise
theorem sp_poddc_ok : SpecsOk Try.prog sp_poddc := SpecsOk.add (fn := Try.f31) (by kernel_rfl) poddc_ok sp_srise_ok
noncomputable def indexP_l0 (x : ((List I2) × Bool)) : LoopD := ⟨[],⟨pvs 19 0 [(0,.v (.one (.full 0))),(1,.v (.one (.clo 31 0 []))),(7,.v (.one (.i .i64))),(8,.v (.one (.i .i64)))],[.row yy2 0],0,none,[],[0,2],[1],[.i],[.i (((List.length x.1):Nat):Int),.l yy2 x.1]⟩,[⟨.ret,.ret,⟨pvs 19 0 [(4,.v (.one (.i .i64)))],[],0,none,[],[],[0],[.i],[]⟩⟩,⟨(.exit 0),.normal,⟨pvs 19 0 [],[],0,none,[],[],[],[],[]⟩⟩]⟩
noncomputable def indexP_l0_step (x : ((List I2) × Bool)) (s:Int) : Int ⊕ (Int ⊕ Unit) :=
 (if (s < (((List.length x.1):Nat):Int)) then
 (letV (poddc (List.getD x.1 (Int.toNat s) ((0:Int),(0:Int)))) fun y =>
 (if (y = true) then
 (Sum.inr (Sum.inl s)) else
 (Sum.inl (w64 (s + (1:Int)))))) else
 (Sum.inr (Sum.inr (()))))
noncomputable def indexP_l0_pre (x : ((List I2) × Bool)) (s:Int) : Prop :=
 ((s < (((List.length x.1):Nat):Int)) →
 ((((0:Int) ≤ s) ∧ (s < (((List.length x.1):Nat):Int))) ∧
 (((Int.toNat s) < (List.length x.1)) ∧
 (((Int.toNat s) < (List.length x.1)) ∧
 (poddc_pre (List.getD x.1 (Int.toNat s) ((0:Int),(0:Int))))))))
noncomputable def indexP_l0_t (x : ((List I2) × Bool)) (s:Int) : Tr (Int ⊕ (Int ⊕ Unit)) true :=
 (.i10 (s < (nL x.1))
 (.oR s (nL x.1)
 (.od ((tN s) < (List.length x.1))
 (.od ((tN s) < (List.length x.1))
 (.fn poddc_S (gT x.1 s zz2) fun y =>
 (.b00 y
 (.ret (.inr (Sum.inl s)))
 (.ret (.inl (w1 s))))))))
 (.ret (.inr (Sum.inr (())))))
noncomputable def indexP (x : ((List I2) × Bool)) : Int :=
 (letV (run (indexP_l0_step x) (0:Int)) fun r =>
 (Sum.elim (fun a =>
 a) (fun b =>
 (-1:Int)) r))
noncomputable def indexP_pre (x : ((List I2) × Bool)) : Prop :=
 (Term (indexP_l0_step x) (indexP_l0_pre x) (0:Int))
noncomputable def indexP_t (x : ((List I2) × Bool)) : Tr Int true :=
 (LoopD.lp (indexP_l0 x) (indexP_l0_t x) z0 fun r =>
 (.s00 r (fun a =>
 (.ret a)) (fun b =>
 (.ret (-1:Int)))))
noncomputable abbrev indexP_S : FnS := ⟨(.pair (.one (Ty.sl yy2)) (.clo 31 .none)),(.one yi),indexP_pre,indexP⟩
theorem indexP_ok : SpecOk Try.prog 55 (fnSpec indexP_S) := SpecOk.tr indexP_S indexP_t (fn := Try.f55) tt_ok sp_poddc_ok mixed (by kernel_rfl) (ItsOk.nil _ _) (fun x => (LpsOk.tr tt_ok (SpecsOk.ctxI sp_poddc_ok (ItsOk.nil _ _)) mixed 0 (indexP_l0 x) (indexP_l0_t x) LpsOk.nil (by kernel_rfl) fun g s Q => (by kernel_rfl))) (fun x => (by kernel_rfl)) fun x Q => (by kernel_rfl)
def sp_indexP : List (Nat × Ev.Spec) := (55,fnSpec indexP_S) :: sp_poddc
theorem sp_indexP_ok : SpecsOk Try.prog sp_indexP := SpecsOk.add (fn := Try.f55) (by kernel_rfl) indexP_ok sp_poddc_ok
noncomputable def containsP (x : ((List I2) × Bool)) : Bool :=
 (letV (indexP (x.1,false)) fun y =>
 (decide (y ≥ (0:Int))))
noncomputable def containsP_pre (x : ((List I2) × Bool)) : Prop :=
 (indexP_pre (x.1,false))
noncomputable def containsP_t (x : ((List I2) × Bool)) : Tr Bool true :=
 (.fn indexP_S (x.1,false) fun y =>
 (.ret (decide (y ≥ z0))))
noncomputable abbrev containsP_S : FnS := ⟨(.pair (.one (Ty.sl yy2)) (.clo 31 .none)),(.one Ty.bool),containsP_pre,containsP⟩
theorem containsP_ok : SpecOk Try.prog 33 (fnSpec containsP_S) := SpecOk.tr containsP_S containsP_t (fn := Try.f33) tt_ok sp_indexP_ok mixed (by kernel_rfl) (ItsOk.nil _ _) (fun x => LpsOk.nil) (fun x => (by kernel_rfl)) fun x Q => (by kernel_rfl)
def sp_containsP : List (Nat × Ev.Spec) := (33,fnSpec containsP_S) :: sp_indexP
theorem sp_containsP_ok : SpecsOk Try.prog sp_containsP := SpecsOk.add (fn := Try.f33) (by kernel_rfl) containsP_ok sp_indexP_ok
noncomputable def pack_l0 (x : (Int × (Int × (List I2)))) : LoopD := ⟨[],⟨pvs 68 0 [(1,.v (.one (.i .i64))),(9,.v (.one (.full 0))),(10,.v (.one (.full 1))),(28,.v (.one (.full 2))),(29,.v (.one (.i .i64))),(30,.v (.one (.i .i64)))],[.row yi 2,.row (Ty.prod yi yy3) 2,.row yy2 0],0,none,[],[0,1,5],[3,4,2],[(.l yi),(.l (Ty.prod yi yy3)),.i],[.i x.2.1,.i (((List.length x.2.2):Nat):Int),.l yy2 x.2.2]⟩,[⟨.ret,.ret,⟨pvs 68 0 [(6,.v (.one (.raw))),(7,.v (.one (.i .i64)))],[],0,none,[],[0,1],[],[],[.v (.slice none 0 0),.i (9:Int)]⟩⟩,⟨(.exit 0),.normal,⟨pvs 68 0 [(10,.v (.one (.full 0)))],[.row (Ty.prod yi yy3) 2],0,none,[],[],[0],[(.l (Ty.prod yi yy3))],[]⟩⟩]⟩
noncomputable def pack_l0_step (x : (Int × (Int × (List I2)))) (s : ((List Int) × ((List (Int × I3)) × Int))) : ((List Int) × ((List (Int × I3)) × Int)) ⊕ (Unit ⊕ (List (Int × I3))) :=
 (if (s.2.2 < (((List.length x.2.2):Nat):Int)) then
 (letV (sfind (s.1,((List.getD x.2.2 (Int.toNat s.2.2) ((0:Int),(0:Int))).1,((List.getD x.2.2 (Int.toNat s.2.2) ((0:Int),(0:Int))).2,x.2.1)))) fun y =>
 (if ((!y.2.2) = true) then
 (Sum.inr (Sum.inl ())) else
 (letV (srise (s.1,(y.1,((List.getD x.2.2 (Int.toNat s.2.2) ((0:Int),(0:Int))).1,(w64 (y.2.1 + (List.getD x.2.2 (Int.toNat s.2.2) ((0:Int),(0:Int))).2)))))) fun y_1 =>
 (Sum.inl (y_1.2.1,((s.2.1 ++ [(y.1,(y.2.1,(List.getD x.2.2 (Int.toNat s.2.2) ((0:Int),(0:Int)))))]),(w64 (s.2.2 + (1:Int))))))))) else
 (Sum.inr (Sum.inr (s.2.1))))
noncomputable def pack_l0_pre (x : (Int × (Int × (List I2)))) (s : ((List Int) × ((List (Int × I3)) × Int))) : Prop :=
 ((s.2.2 < (((List.length x.2.2):Nat):Int)) →
 ((((0:Int) ≤ s.2.2) ∧ (s.2.2 < (((List.length x.2.2):Nat):Int))) ∧
 (((Int.toNat s.2.2) < (List.length x.2.2)) ∧
 (((Int.toNat s.2.2) < (List.length x.2.2)) ∧
 ((sfind_pre (s.1,((List.getD x.2.2 (Int.toNat s.2.2) ((0:Int),(0:Int))).1,((List.getD x.2.2 (Int.toNat s.2.2) ((0:Int),(0:Int))).2,x.2.1)))) ∧
 letP (sfind (s.1,((List.getD x.2.2 (Int.toNat s.2.2) ((0:Int),(0:Int))).1,((List.getD x.2.2 (Int.toNat s.2.2) ((0:Int),(0:Int))).2,x.2.1)))) fun y =>
 (¬ ((!y.2.2) = true) →
 ((srise_pre (s.1,(y.1,((List.getD x.2.2 (Int.toNat s.2.2) ((0:Int),(0:Int))).1,(w64 (y.2.1 + (List.getD x.2.2 (Int.toNat s.2.2) ((0:Int),(0:Int))).2)))))) ∧
 letP (srise (s.1,(y.1,((List.getD x.2.2 (Int.toNat s.2.2) ((0:Int),(0:Int))).1,(w64 (y.2.1 + (List.getD x.2.2 (Int.toNat s.2.2) ((0:Int),(0:Int))).2)))))) fun y_1 =>
 (((List.length s.2.1) + 1) < 1099511627776))))))))
noncomputable def pack_l0_t (x : (Int × (Int × (List I2)))) (s : ((List Int) × ((List (Int × I3)) × Int))) : Tr (((List Int) × ((List (Int × I3)) × Int)) ⊕ (Unit ⊕ (List (Int × I3)))) true :=
 (.i10 (s.2.2 < (nL x.2.2))
 (.oR s.2.2 (nL x.2.2)
 (.od ((tN s.2.2) < (List.length x.2.2))
 (.od ((tN s.2.2) < (List.length x.2.2))
 (.fn sfind_S (s.1,((gT x.2.2 s.2.2 zz2).1,((gT x.2.2 s.2.2 zz2).2,x.2.1))) fun y =>
 (.b01 (!y.2.2)
 (.ret (.inr (Sum.inl ())))
 (.fnW srise_S (s.1,(y.1,((gT x.2.2 s.2.2 zz2).1,(w64 (y.2.1 + (gT x.2.2 s.2.2 zz2).2))))) fun y_1 =>
 (.od (((List.length s.2.1) + 1) < 1099511627776)
 (.ret (.inl (y_1.2.1,((s.2.1 ++ [(y.1,(y.2.1,(gT x.2.2 s.2.2 zz2)))]),(w1 s.2.2))))))))))))
 (.ret (.inr (Sum.inr (s.2.1)))))
noncomputable def pack (x : (Int × (Int × (List I2)))) : ((List (Int × I3)) × Int) :=
 (letV (swithin [x.1,x.2.1]) fun y =>
 (if ((!y) = true) then
 ([],(1:Int)) else
 (letV (containsP (x.2.2,false)) fun y_1 =>
 (if (y_1 = true) then
 ([],(1:Int)) else
 (letV (run (pack_l0_step x) ((List.replicate (Int.toNat x.1) (0:Int)),([],(0:Int)))) fun r =>
 (Sum.elim (fun a =>
 ([],(9:Int))) (fun b =>
 (b,(0:Int))) r))))))
noncomputable def pack_pre (x : (Int × (Int × (List I2)))) : Prop :=
 ((swithin_pre [x.1,x.2.1]) ∧
 letP (swithin [x.1,x.2.1]) fun y =>
 (¬ ((!y) = true) →
 ((containsP_pre (x.2.2,false)) ∧
 letP (containsP (x.2.2,false)) fun y_1 =>
 (¬ (y_1 = true) →
 (((((0:Int) ≤ x.1) ∧ (x.1 ≤ x.1)) ∧ ((Int.toNat x.1) < 1099511627776)) ∧
 (Term (pack_l0_step x) (pack_l0_pre x) ((List.replicate (Int.toNat x.1) (0:Int)),([],(0:Int)))))))))
noncomputable def pack_t (x : (Int × (Int × (List I2)))) : Tr ((List (Int × I3)) × Int) true :=
 (.fn swithin_S [x.1,x.2.1] fun y =>
 (.b01 (!y)
 (.ret ([],z1))
 (.fn containsP_S (x.2.2,false) fun y_1 =>
 (.b01 y_1
 (.ret ([],z1))
 (.og (((decide (z0 ≤ x.1)) && (decide (x.1 ≤ x.1))) && (decide ((tN x.1) < 1099511627776))) (((z0 ≤ x.1) ∧ (x.1 ≤ x.1)) ∧ ((tN x.1) < 1099511627776)) (fun h => (and_t (and_t (decide_eq_true h.1.1) (decide_eq_true h.1.2)) (decide_eq_true h.2)))
 (LoopD.lp (pack_l0 x) (pack_l0_t x) ((List.replicate (tN x.1) z0),([],z0)) fun r =>
 (.s00 r (fun a =>
 (.ret ([],(9:Int)))) (fun b =>
 (.ret (b,z0))))))))))
noncomputable abbrev pack_S : FnS := ⟨(.pair (.one yi) (.pair (.one yi) (.one (Ty.sl yy2)))),(.pair (.one (Ty.sl (Ty.prod yi yy3))) (.one yi)),pack_pre,pack⟩
theorem pack_ok : SpecOk Try.prog 19 (fnSpec pack_S) := SpecOk.tr pack_S pack_t (fn := Try.f19) tt_ok sp_containsP_ok mixed (by kernel_rfl) (ItsOk.nil _ _) (fun x => (LpsOk.tr tt_ok (SpecsOk.ctxI sp_containsP_ok (ItsOk.nil _ _)) mixed 0 (pack_l0 x) (pack_l0_t x) LpsOk.nil (by kernel_rfl) fun g s Q => (by kernel_rfl))) (fun x => (by kernel_rfl)) fun x Q => (by kernel_rfl)
def sp_pack : List (Nat × Ev.Spec) := (19,fnSpec pack_S) :: sp_containsP
theorem sp_pack_ok : SpecsOk Try.prog sp_pack := SpecsOk.add (fn := Try.f19) (by kernel_rfl) pack_ok sp_containsP_ok
noncomputable def behind (x : I3) : Bool :=
 (if (x.2.2 ≥ x.1) then
 (decide ((IntKind.wrap IntKind.u64 ((IntKind.wrap IntKind.u64 x.2.2) - (IntKind.wrap IntKind.u64 x.1))) ≥ (IntKind.wrap IntKind.u64 x.2.1))) else
 false)
noncomputable def behind_pre (_ : I3) : Prop := True
noncomputable def behind_t (x : I3) : Tr Bool false :=
 (.i00 (x.2.2 ≥ x.1)
 (.ret (decide ((IntKind.wrap IntKind.u64 ((IntKind.wrap IntKind.u64 x.2.2) - (IntKind.wrap IntKind.u64 x.1))) ≥ (IntKind.wrap IntKind.u64 x.2.1))))
 (.ret false))
noncomputable abbrev behind_S : FnS := ⟨(.pair (.one yi) (.pair (.one yi) (.one yi))),(.one Ty.bool),behind_pre,behind⟩
theorem behind_ok : SpecOk Try.prog 59 (fnSpec behind_S) := SpecOk.tr behind_S behind_t (fn := Try.f59) tt_ok sp_pack_ok mixed (by kernel_rfl) (ItsOk.nil _ _) (fun x => LpsOk.nil) (fun x => (by kernel_rfl)) fun x Q => (by kernel_rfl)
def sp_behind : List (Nat × Ev.Spec) := (59,fnSpec behind_S) :: sp_pack
theorem sp_behind_ok : SpecsOk Try.prog sp_behind := SpecsOk.add (fn := Try.f59) (by kernel_rfl) behind_ok sp_pack_ok
noncomputable def sfree (x : (Int × I3)) : Bool :=
 (if (x.2.1 ≤ (0:Int)) then
 true else
 (if (x.2.2.2 ≤ (0:Int)) then
 true else
 (letV (behind (x.1,(x.2.1,x.2.2.1))) fun y =>
 (if (y = true) then
 true else
 (letV (behind (x.2.2.1,(x.2.2.2,x.1))) fun y_1 =>
 y_1)))))
noncomputable def sfree_pre (_ : (Int × I3)) : Prop := True
noncomputable def sfree_t (x : (Int × I3)) : Tr Bool false :=
 (.i00 (x.2.1 ≤ z0)
 (.ret true)
 (.i00 (x.2.2.2 ≤ z0)
 (.ret true)
 (.fn0 behind_S (x.1,(x.2.1,x.2.2.1)) trivial fun y =>
 (.b00 y
 (.ret true)
 (.fn0 behind_S (x.2.2.1,(x.2.2.2,x.1)) trivial fun y_1 =>
 (.ret y_1))))))
noncomputable abbrev sfree_S : FnS := ⟨(.pair (.one yi) (.pair (.one yi) (.pair (.one yi) (.one yi)))),(.one Ty.bool),sfree_pre,sfree⟩
theorem sfree_ok : SpecOk Try.prog 58 (fnSpec sfree_S) := SpecOk.tr sfree_S sfree_t (fn := Try.f58) tt_ok sp_behind_ok mixed (by kernel_rfl) (ItsOk.nil _ _) (fun x => LpsOk.nil) (fun x => (by kernel_rfl)) fun x Q => (by kernel_rfl)
def sp_sfree : List (Nat × Ev.Spec) := (58,fnSpec sfree_S) :: sp_behind
theorem sp_sfree_ok : SpecsOk Try.prog sp_sfree := SpecsOk.add (fn := Try.f58) (by kernel_rfl) sfree_ok sp_behind_ok
noncomputable def sapart (x : ((Int × I3) × (Int × I3))) : Bool :=
 (letV (sfree (x.1.1,(x.1.2.2.1,(x.2.1,x.2.2.2.1)))) fun y =>
 (if (y = true) then
 true else
 (letV (sfree (x.1.2.1,(x.1.2.2.2,(x.2.2.1,x.2.2.2.2)))) fun y_1 =>
 y_1)))
noncomputable def sapart_pre (_ : ((Int × I3) × (Int × I3))) : Prop := True
noncomputable def sapart_t (x : ((Int × I3) × (Int × I3))) : Tr Bool false :=
 (.fn0 sfree_S (x.1.1,(x.1.2.2.1,(x.2.1,x.2.2.2.1))) trivial fun y =>
 (.b00 y
 (.ret true)
 (.fn0 sfree_S (x.1.2.1,(x.1.2.2.2,(x.2.2.1,x.2.2.2.2))) trivial fun y_1 =>
 (.ret y_1))))
noncomputable abbrev sapart_S : FnS := ⟨(.pair (.agg (Ty.prod yi yy3)) (.agg (Ty.prod yi yy3))),(.one Ty.bool),sapart_pre,sapart⟩
theorem sapart_ok : SpecOk Try.prog 41 (fnSpec sapart_S) := SpecOk.tr sapart_S sapart_t (fn := Try.f41) tt_ok sp_sfree_ok mixed (by kernel_rfl) (ItsOk.nil _ _) (fun x => LpsOk.nil) (fun x => (by kernel_rfl)) fun x Q => (by kernel_rfl)
def sp_sapart : List (Nat × Ev.Spec) := (41,fnSpec sapart_S) :: sp_sfree
theorem sp_sapart_ok : SpecsOk Try.prog sp_sapart := SpecsOk.add (fn := Try.f41) (by kernel_rfl) sapart_ok sp_sfree_ok
noncomputable def nota (x : ((Int × I3) × (Int × I3))) : Bool :=
 (letV (sapart x) fun y =>
 (!y))
noncomputable def nota_pre (_ : ((Int × I3) × (Int × I3))) : Prop := True
noncomputable def nota_t (x : ((Int × I3) × (Int × I3))) : Tr Bool false :=
 (.fn0 sapart_S x trivial fun y =>
 (.ret (!y)))
noncomputable abbrev nota_S : FnS := ⟨(.pair (.agg (Ty.prod yi yy3)) (.ptr (.prod (.int .i64) (.prod (.int .i64) (.prod (.int .i64) (.int .i64)))))),(.one Ty.bool),nota_pre,nota⟩
theorem nota_ok : SpecOk Try.prog 40 (fnSpec nota_S) := SpecOk.tr nota_S nota_t (fn := Try.f40) tt_ok sp_sapart_ok mixed (by kernel_rfl) (ItsOk.nil _ _) (fun x => LpsOk.nil) (fun x => (by kernel_rfl)) fun x Q => (by kernel_rfl)
def sp_nota : List (Nat × Ev.Spec) := (40,fnSpec nota_S) :: sp_sapart
theorem sp_nota_ok : SpecsOk Try.prog sp_nota := SpecsOk.add (fn := Try.f40) (by kernel_rfl) nota_ok sp_sapart_ok
noncomputable def indexR_l0 (x : ((List (Int × I3)) × (Int × I3))) : LoopD := ⟨[],⟨pvs 19 0 [(0,.v (.one (.full 0))),(1,.v (.one (.clo 40 0 [.elem 1]))),(7,.v (.one (.i .i64))),(8,.v (.one (.i .i64)))],[.row (Ty.prod yi yy3) 0,.row (Ty.prod yi yy3) 0],0,none,[],[0,1,3,4],[2],[.i],[.n 0,.i (((List.length x.1):Nat):Int),.l (Ty.prod yi yy3) x.1,.l (Ty.prod yi yy3) [x.2]]⟩,[⟨.ret,.ret,⟨pvs 19 0 [(4,.v (.one (.i .i64)))],[],0,none,[],[],[0],[.i],[]⟩⟩,⟨(.exit 0),.normal,⟨pvs 19 0 [],[],0,none,[],[],[],[],[]⟩⟩]⟩
noncomputable def indexR_l0_step (x : ((List (Int × I3)) × (Int × I3))) (s:Int) : Int ⊕ (Int ⊕ Unit) :=
 (if (s < (((List.length x.1):Nat):Int)) then
 (letV (nota ((List.getD x.1 (Int.toNat s) ((0:Int),((0:Int),((0:Int),(0:Int))))),x.2)) fun y =>
 (if (y = true) then
 (Sum.inr (Sum.inl s)) else
 (Sum.inl (w64 (s + (1:Int)))))) else
 (Sum.inr (Sum.inr (()))))
noncomputable def indexR_l0_pre (x : ((List (Int × I3)) × (Int × I3))) (s:Int) : Prop :=
 ((s < (((List.length x.1):Nat):Int)) →
 ((((0:Int) ≤ s) ∧ (s < (((List.length x.1):Nat):Int))) ∧
 (((Int.toNat s) < (List.length x.1)) ∧
 ((Int.toNat s) < (List.length x.1)))))
noncomputable def indexR_l0_t (x : ((List (Int × I3)) × (Int × I3))) (s:Int) : Tr (Int ⊕ (Int ⊕ Unit)) true :=
 (.i10 (s < (nL x.1))
 (.oR s (nL x.1)
 (.od ((tN s) < (List.length x.1))
 (.od ((tN s) < (List.length x.1))
 (.fn0 nota_S ((gT x.1 s (z0,zz3)),x.2) trivial fun y =>
 (.b00 y
 (.ret (.inr (Sum.inl s)))
 (.ret (.inl (w1 s))))))))
 (.ret (.inr (Sum.inr (())))))
noncomputable def indexR (x : ((List (Int × I3)) × (Int × I3))) : Int :=
 (letV (run (indexR_l0_step x) (0:Int)) fun r =>
 (Sum.elim (fun a =>
 a) (fun b =>
 (-1:Int)) r))
noncomputable def indexR_pre (x : ((List (Int × I3)) × (Int × I3))) : Prop :=
 (Term (indexR_l0_step x) (indexR_l0_pre x) (0:Int))
noncomputable def indexR_t (x : ((List (Int × I3)) × (Int × I3))) : Tr Int true :=
 (LoopD.lp (indexR_l0 x) (indexR_l0_t x) z0 fun r =>
 (.s00 r (fun a =>
 (.ret a)) (fun b =>
 (.ret (-1:Int)))))
noncomputable abbrev indexR_S : FnS := ⟨(.pair (.one (Ty.sl (Ty.prod yi yy3))) (.clo 40 (.ptr (.prod (.int .i64) (.prod (.int .i64) (.prod (.int .i64) (.int .i64))))))),(.one yi),indexR_pre,indexR⟩
theorem indexR_ok : SpecOk Try.prog 57 (fnSpec indexR_S) := SpecOk.tr indexR_S indexR_t (fn := Try.f57) tt_ok sp_nota_ok mixed (by kernel_rfl) (ItsOk.nil _ _) (fun x => (LpsOk.tr tt_ok (SpecsOk.ctxI sp_nota_ok (ItsOk.nil _ _)) mixed 0 (indexR_l0 x) (indexR_l0_t x) LpsOk.nil (by kernel_rfl) fun g s Q => (by kernel_rfl))) (fun x => (by kernel_rfl)) fun x Q => (by kernel_rfl)
def sp_indexR : List (Nat × Ev.Spec) := (57,fnSpec indexR_S) :: sp_nota
theorem sp_indexR_ok : SpecsOk Try.prog sp_indexR := SpecsOk.add (fn := Try.f57) (by kernel_rfl) indexR_ok sp_nota_ok
noncomputable def containsR (x : ((List (Int × I3)) × (Int × I3))) : Bool :=
 (letV (indexR x) fun y =>
 (decide (y ≥ (0:Int))))
noncomputable def containsR_pre (x : ((List (Int × I3)) × (Int × I3))) : Prop :=
 (indexR_pre x)
noncomputable def containsR_t (x : ((List (Int × I3)) × (Int × I3))) : Tr Bool true :=
 (.fn indexR_S x fun y =>
 (.ret (decide (y ≥ z0))))
noncomputable abbrev containsR_S : FnS := ⟨(.pair (.one (Ty.sl (Ty.prod yi yy3))) (.clo 40 (.ptr (.prod (.int .i64) (.prod (.int .i64) (.prod (.int .i64) (.int .i64))))))),(.one Ty.bool),containsR_pre,containsR⟩
theorem containsR_ok : SpecOk Try.prog 39 (fnSpec containsR_S) := SpecOk.tr containsR_S containsR_t (fn := Try.f39) tt_ok sp_indexR_ok mixed (by kernel_rfl) (ItsOk.nil _ _) (fun x => LpsOk.nil) (fun x => (by kernel_rfl)) fun x Q => (by kernel_rfl)
def sp_containsR : List (Nat × Ev.Spec) := (39,fnSpec containsR_S) :: sp_indexR
theorem sp_containsR_ok : SpecsOk Try.prog sp_containsR := SpecsOk.add (fn := Try.f39) (by kernel_rfl) containsR_ok sp_indexR_ok
noncomputable def shis_l0 (x : (Int × (Int × (List (Int × I3))))) : LoopD := ⟨[],⟨pvs 66 0 [(0,.v (.one (.i .i64))),(1,.v (.one (.i .i64))),(2,.v (.one (.full 0))),(9,.v (.one (.full 0))),(10,.v (.one (.i .i64))),(11,.v (.one (.i .i64)))],[.row (Ty.prod yi yy3) 0],0,none,[],[0,1,2,4],[3],[.i],[.i x.1,.i x.2.1,.i (((List.length x.2.2):Nat):Int),.l (Ty.prod yi yy3) x.2.2]⟩,[⟨.ret,.ret,⟨pvs 66 0 [(6,.v (.one (.b)))],[],0,none,[],[0],[],[],[.b false]⟩⟩,⟨(.exit 0),.normal,⟨pvs 66 0 [],[],0,none,[],[],[],[],[]⟩⟩]⟩
noncomputable def shis_l0_step (x : (Int × (Int × (List (Int × I3))))) (s:Int) : Int ⊕ (Unit ⊕ Unit) :=
 (if (s < (((List.length x.2.2):Nat):Int)) then
 (if ((minI (List.getD x.2.2 (Int.toNat s) ((0:Int),((0:Int),((0:Int),(0:Int))))).2.2.1 (List.getD x.2.2 (Int.toNat s) ((0:Int),((0:Int),((0:Int),(0:Int))))).2.2.2) < (1:Int)) then
 (Sum.inr (Sum.inl ())) else
 (if ((minI (List.getD x.2.2 (Int.toNat s) ((0:Int),((0:Int),((0:Int),(0:Int))))).1 (List.getD x.2.2 (Int.toNat s) ((0:Int),((0:Int),((0:Int),(0:Int))))).2.1) < (0:Int)) then
 (Sum.inr (Sum.inl ())) else
 (if ((List.getD x.2.2 (Int.toNat s) ((0:Int),((0:Int),((0:Int),(0:Int))))).2.2.1 > x.1) then
 (Sum.inr (Sum.inl ())) else
 (if ((List.getD x.2.2 (Int.toNat s) ((0:Int),((0:Int),((0:Int),(0:Int))))).2.2.2 > x.2.1) then
 (Sum.inr (Sum.inl ())) else
 (if ((List.getD x.2.2 (Int.toNat s) ((0:Int),((0:Int),((0:Int),(0:Int))))).1 > (w64 (x.1 - (List.getD x.2.2 (Int.toNat s) ((0:Int),((0:Int),((0:Int),(0:Int))))).2.2.1))) then
 (Sum.inr (Sum.inl ())) else
 (if ((List.getD x.2.2 (Int.toNat s) ((0:Int),((0:Int),((0:Int),(0:Int))))).2.1 > (w64 (x.2.1 - (List.getD x.2.2 (Int.toNat s) ((0:Int),((0:Int),((0:Int),(0:Int))))).2.2.2))) then
 (Sum.inr (Sum.inl ())) else
 (letV (containsR ((List.take (Int.toNat s) x.2.2),(List.getD x.2.2 (Int.toNat s) ((0:Int),((0:Int),((0:Int),(0:Int))))))) fun y =>
 (if (y = true) then
 (Sum.inr (Sum.inl ())) else
 (Sum.inl (w64 (s + (1:Int)))))))))))) else
 (Sum.inr (Sum.inr (()))))
noncomputable def shis_l0_pre (x : (Int × (Int × (List (Int × I3))))) (s:Int) : Prop :=
 ((s < (((List.length x.2.2):Nat):Int)) →
 ((((0:Int) ≤ s) ∧ (s < (((List.length x.2.2):Nat):Int))) ∧
 (((Int.toNat s) < (List.length x.2.2)) ∧
 (((Int.toNat s) < (List.length x.2.2)) ∧
 (¬ ((minI (List.getD x.2.2 (Int.toNat s) ((0:Int),((0:Int),((0:Int),(0:Int))))).2.2.1 (List.getD x.2.2 (Int.toNat s) ((0:Int),((0:Int),((0:Int),(0:Int))))).2.2.2) < (1:Int)) →
 (¬ ((minI (List.getD x.2.2 (Int.toNat s) ((0:Int),((0:Int),((0:Int),(0:Int))))).1 (List.getD x.2.2 (Int.toNat s) ((0:Int),((0:Int),((0:Int),(0:Int))))).2.1) < (0:Int)) →
 (¬ ((List.getD x.2.2 (Int.toNat s) ((0:Int),((0:Int),((0:Int),(0:Int))))).2.2.1 > x.1) →
 (¬ ((List.getD x.2.2 (Int.toNat s) ((0:Int),((0:Int),((0:Int),(0:Int))))).2.2.2 > x.2.1) →
 (¬ ((List.getD x.2.2 (Int.toNat s) ((0:Int),((0:Int),((0:Int),(0:Int))))).1 > (w64 (x.1 - (List.getD x.2.2 (Int.toNat s) ((0:Int),((0:Int),((0:Int),(0:Int))))).2.2.1))) →
 (¬ ((List.getD x.2.2 (Int.toNat s) ((0:Int),((0:Int),((0:Int),(0:Int))))).2.1 > (w64 (x.2.1 - (List.getD x.2.2 (Int.toNat s) ((0:Int),((0:Int),((0:Int),(0:Int))))).2.2.2))) →
 ((((0:Int) ≤ s) ∧ (s ≤ (((List.length x.2.2):Nat):Int))) ∧
 (containsR_pre ((List.take (Int.toNat s) x.2.2),(List.getD x.2.2 (Int.toNat s) ((0:Int),((0:Int),((0:Int),(0:Int))))))))))))))))))
noncomputable def shis_l0_t (x : (Int × (Int × (List (Int × I3))))) (s:Int) : Tr (Int ⊕ (Unit ⊕ Unit)) true :=
 (.i10 (s < (nL x.2.2))
 (.oR s (nL x.2.2)
 (.od ((tN s) < (List.length x.2.2))
 (.od ((tN s) < (List.length x.2.2))
 (.i01 ((minI (gT x.2.2 s (z0,zz3)).2.2.1 (gT x.2.2 s (z0,zz3)).2.2.2) < z1)
 (.ret (.inr (Sum.inl ())))
 (.i01 ((minI (gT x.2.2 s (z0,zz3)).1 (gT x.2.2 s (z0,zz3)).2.1) < z0)
 (.ret (.inr (Sum.inl ())))
 (.i01 ((gT x.2.2 s (z0,zz3)).2.2.1 > x.1)
 (.ret (.inr (Sum.inl ())))
 (.i01 ((gT x.2.2 s (z0,zz3)).2.2.2 > x.2.1)
 (.ret (.inr (Sum.inl ())))
 (.i01 ((gT x.2.2 s (z0,zz3)).1 > (w64 (x.1 - (gT x.2.2 s (z0,zz3)).2.2.1)))
 (.ret (.inr (Sum.inl ())))
 (.i01 ((gT x.2.2 s (z0,zz3)).2.1 > (w64 (x.2.1 - (gT x.2.2 s (z0,zz3)).2.2.2)))
 (.ret (.inr (Sum.inl ())))
 (.og ((decide (z0 ≤ s)) && (decide (s ≤ (nL x.2.2)))) ((z0 ≤ s) ∧ (s ≤ (nL x.2.2))) (fun h => (and_t (decide_eq_true h.1) (decide_eq_true h.2)))
 (.fn containsR_S ((List.take (tN s) x.2.2),(gT x.2.2 s (z0,zz3))) fun y =>
 (.b00 y
 (.ret (.inr (Sum.inl ())))
 (.ret (.inl (w1 s)))))))))))))))
 (.ret (.inr (Sum.inr (())))))
noncomputable def shis (x : (Int × (Int × (List (Int × I3))))) : Bool :=
 (letV (run (shis_l0_step x) (0:Int)) fun r =>
 (Sum.elim (fun a =>
 false) (fun b =>
 true) r))
noncomputable def shis_pre (x : (Int × (Int × (List (Int × I3))))) : Prop :=
 (Term (shis_l0_step x) (shis_l0_pre x) (0:Int))
noncomputable def shis_t (x : (Int × (Int × (List (Int × I3))))) : Tr Bool true :=
 (LoopD.lp (shis_l0 x) (shis_l0_t x) z0 fun r =>
 (.s00 r (fun a =>
 (.ret false)) (fun b =>
 (.ret true))))
noncomputable abbrev shis_S : FnS := ⟨(.pair (.one yi) (.pair (.one yi) (.one (Ty.sl (Ty.prod yi yy3))))),(.one Ty.bool),shis_pre,shis⟩
theorem shis_ok : SpecOk Try.prog 24 (fnSpec shis_S) := SpecOk.tr shis_S shis_t (fn := Try.f24) tt_ok sp_containsR_ok mixed (by kernel_rfl) (ItsOk.nil _ _) (fun x => (LpsOk.tr tt_ok (SpecsOk.ctxI sp_containsR_ok (ItsOk.nil _ _)) mixed 0 (shis_l0 x) (shis_l0_t x) LpsOk.nil (by kernel_rfl) fun g s Q => (by kernel_rfl))) (fun x => (by kernel_rfl)) fun x Q => (by kernel_rfl)
def sp_shis : List (Nat × Ev.Spec) := (24,fnSpec shis_S) :: sp_containsR
theorem sp_shis_ok : SpecsOk Try.prog sp_shis := SpecsOk.add (fn := Try.f24) (by kernel_rfl) shis_ok sp_containsR_ok
end Go.Proofs.Ytbjfokijjefoeaa
