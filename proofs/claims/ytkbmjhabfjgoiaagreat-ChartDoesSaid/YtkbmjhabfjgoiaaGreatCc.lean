/- Models of law 15's functions. -/
import Derived.Test.YtkbmjhabfjgoiaaGreatCb
noncomputable section
set_option linter.unusedSectionVars false
set_option linter.unusedVariables false
set_option linter.unusedSimpArgs false
namespace Go.Proofs.YtkbmjhabfjgoiaaGreat
open Go Go.Ev Go.Proofs
def three (x : I3) : I9 :=
 ((x.1,((-1:Int),(-1:Int))),((x.2.1,((-1:Int),(-1:Int))),(x.2.2,((-1:Int),(-1:Int)))))
def three_pre (_ : I3) : Prop := True
def three_t (x : I3) : Tr I9 false :=
 (.ret ((x.1,((-1:Int),(-1:Int))),((x.2.1,((-1:Int),(-1:Int))),(x.2.2,((-1:Int),(-1:Int))))))
abbrev three_S : FnS := ⟨(.pair (.one yi) (.pair (.one yi) (.one yi))),(.agg yy9),three_pre,three⟩
theorem three_ok : SpecOk Tryz.prog 47 (fnSpec three_S) := SpecOk.tr three_S three_t (fn := Tryz.f47) tt_ok sp_cis_ok mixed (by kernel_rfl) (ItsOk.nil _ _) (fun x => LpsOk.nil) (fun x => (by kernel_rfl)) fun x Q => (by kernel_rfl)
def sp_three : List (Nat × Ev.Spec) := (47,fnSpec three_S) :: sp_cis
theorem sp_three_ok : SpecsOk Tryz.prog sp_three := SpecsOk.add (fn := Tryz.f47) (by kernel_rfl) three_ok sp_cis_ok
def charted (x : Bool) : Bool :=
 (letV (three ((0:Int),((1:Int),(2:Int)))) fun y =>
 (letV (three ((0:Int),((2:Int),(3:Int)))) fun y_1 =>
 (letV (cgrow ([((0:Int),((0:Int),(0:Int))),((9:Int),((0:Int),(0:Int))),((9:Int),((9:Int),(0:Int))),((0:Int),((9:Int),(0:Int))),((9:Int),((0:Int),(9:Int)))],([],([],[y,y_1])))) fun y_2 =>
 (letV (three ((0:Int),((1:Int),(2:Int)))) fun y_3 =>
 (letV (three ((0:Int),((1:Int),(3:Int)))) fun y_4 =>
 (letV (cgrow ([((0:Int),((0:Int),(0:Int))),((9:Int),((0:Int),(0:Int))),((9:Int),((9:Int),(0:Int))),((0:Int),((0:Int),(9:Int)))],([],([],[y_3,y_4])))) fun y_5 =>
 (letV (facing (([((0:Int),((0:Int),(0:Int))),((9:Int),((0:Int),(0:Int))),((9:Int),((9:Int),(0:Int))),((0:Int),((9:Int),(0:Int))),((9:Int),((0:Int),(9:Int)))],([],([],[y,y_1]))),(0:Int))) fun y_6 =>
 (letV (cgrow ([((4097:Int),((0:Int),(0:Int)))],([],([],[])))) fun y_7 =>
 (letV (shadow (([((0:Int),((0:Int),(0:Int))),((9:Int),((0:Int),(0:Int))),((9:Int),((9:Int),(0:Int))),((0:Int),((9:Int),(0:Int))),((9:Int),((0:Int),(9:Int)))],([],([],[y,y_1]))),((1:Int),(2:Int)))) fun y_8 =>
 (if ((y_2.2 == (0:Int)) = true) then
 (if (((y_2.1.length:Int) == (1:Int)) = true) then
 (if ((((List.getD y_2.1 0 ((0:Int),((0:Int),[]))).2.2.length:Int) == (2:Int)) = true) then
 (if ((y_5.2 == y_2.2) = true) then
 (if (((y_5.1.length:Int) == (2:Int)) = true) then
 (if (y_6.2.2 = true) then
 (if ((y_6.1 == (2:Int)) = true) then
 (if ((y_6.2.1 == (1:Int)) = true) then
 (if ((y_7.2 == (1:Int)) = true) then
 (if ((y_8.2 == y_2.2) = true) then
 (if ((((y_8.1.1.1 == (0:Int)) && ((y_8.1.1.2 == (0:Int)) && true)) && (((y_8.1.2.1.1 == (9:Int)) && ((y_8.1.2.1.2 == (9:Int)) && true)) && (((y_8.1.2.2.1 == (0:Int)) && ((y_8.1.2.2.2 == (9:Int)) && true)) && true))) = true) then
 (letV (cis (([((0:Int),((0:Int),(0:Int))),((9:Int),((0:Int),(0:Int))),((9:Int),((9:Int),(0:Int))),((0:Int),((9:Int),(0:Int))),((9:Int),((0:Int),(9:Int)))],([],([],[y,y_1]))),y_2.1)) fun y_9 =>
 (if (y_9 = true) then
 (letV (cis (([((0:Int),((0:Int),(0:Int))),((9:Int),((0:Int),(0:Int))),((9:Int),((9:Int),(0:Int))),((0:Int),((9:Int),(0:Int))),((9:Int),((0:Int),(9:Int)))],([],([],[y,y_1]))),[])) fun y_10 =>
 (if ((!y_10) = true) then
 (letV (tame ([((0:Int),((0:Int),(0:Int))),((9:Int),((0:Int),(0:Int))),((9:Int),((9:Int),(0:Int))),((0:Int),((9:Int),(0:Int))),((9:Int),((0:Int),(9:Int)))],([],([],[y,y_1])))) fun y_11 =>
 y_11) else
 false)) else
 false)) else
 false) else
 false) else
 false) else
 false) else
 false) else
 false) else
 false) else
 false) else
 false) else
 false) else
 false))))))))))
def charted_pre (x : Bool) : Prop :=
 (letP (three ((0:Int),((1:Int),(2:Int)))) fun y =>
 (letP (three ((0:Int),((2:Int),(3:Int)))) fun y_1 =>
 ((cgrow_pre ([((0:Int),((0:Int),(0:Int))),((9:Int),((0:Int),(0:Int))),((9:Int),((9:Int),(0:Int))),((0:Int),((9:Int),(0:Int))),((9:Int),((0:Int),(9:Int)))],([],([],[y,y_1])))) ∧
 letP (cgrow ([((0:Int),((0:Int),(0:Int))),((9:Int),((0:Int),(0:Int))),((9:Int),((9:Int),(0:Int))),((0:Int),((9:Int),(0:Int))),((9:Int),((0:Int),(9:Int)))],([],([],[y,y_1])))) fun y_2 =>
 (letP (three ((0:Int),((1:Int),(2:Int)))) fun y_3 =>
 (letP (three ((0:Int),((1:Int),(3:Int)))) fun y_4 =>
 ((cgrow_pre ([((0:Int),((0:Int),(0:Int))),((9:Int),((0:Int),(0:Int))),((9:Int),((9:Int),(0:Int))),((0:Int),((0:Int),(9:Int)))],([],([],[y_3,y_4])))) ∧
 letP (cgrow ([((0:Int),((0:Int),(0:Int))),((9:Int),((0:Int),(0:Int))),((9:Int),((9:Int),(0:Int))),((0:Int),((0:Int),(9:Int)))],([],([],[y_3,y_4])))) fun y_5 =>
 ((facing_pre (([((0:Int),((0:Int),(0:Int))),((9:Int),((0:Int),(0:Int))),((9:Int),((9:Int),(0:Int))),((0:Int),((9:Int),(0:Int))),((9:Int),((0:Int),(9:Int)))],([],([],[y,y_1]))),(0:Int))) ∧
 letP (facing (([((0:Int),((0:Int),(0:Int))),((9:Int),((0:Int),(0:Int))),((9:Int),((9:Int),(0:Int))),((0:Int),((9:Int),(0:Int))),((9:Int),((0:Int),(9:Int)))],([],([],[y,y_1]))),(0:Int))) fun y_6 =>
 ((cgrow_pre ([((4097:Int),((0:Int),(0:Int)))],([],([],[])))) ∧
 letP (cgrow ([((4097:Int),((0:Int),(0:Int)))],([],([],[])))) fun y_7 =>
 ((shadow_pre (([((0:Int),((0:Int),(0:Int))),((9:Int),((0:Int),(0:Int))),((9:Int),((9:Int),(0:Int))),((0:Int),((9:Int),(0:Int))),((9:Int),((0:Int),(9:Int)))],([],([],[y,y_1]))),((1:Int),(2:Int)))) ∧
 letP (shadow (([((0:Int),((0:Int),(0:Int))),((9:Int),((0:Int),(0:Int))),((9:Int),((9:Int),(0:Int))),((0:Int),((9:Int),(0:Int))),((9:Int),((0:Int),(9:Int)))],([],([],[y,y_1]))),((1:Int),(2:Int)))) fun y_8 =>
 (((y_2.2 == (0:Int)) = true) →
 ((((y_2.1.length:Int) == (1:Int)) = true) →
 (((0:Int) < (y_2.1.length:Int)) ∧
 ((0 < (List.length y_2.1)) ∧
 ((0 < (List.length y_2.1)) ∧
 ((0 < (List.length y_2.1)) ∧
 (((((List.getD y_2.1 0 ((0:Int),((0:Int),[]))).2.2.length:Int) == (2:Int)) = true) →
 (((y_5.2 == y_2.2) = true) →
 ((((y_5.1.length:Int) == (2:Int)) = true) →
 ((y_6.2.2 = true) →
 (((y_6.1 == (2:Int)) = true) →
 (((y_6.2.1 == (1:Int)) = true) →
 (((y_7.2 == (1:Int)) = true) →
 (((y_8.2 == y_2.2) = true) →
 (((((y_8.1.1.1 == (0:Int)) && ((y_8.1.1.2 == (0:Int)) && true)) && (((y_8.1.2.1.1 == (9:Int)) && ((y_8.1.2.1.2 == (9:Int)) && true)) && (((y_8.1.2.2.1 == (0:Int)) && ((y_8.1.2.2.2 == (9:Int)) && true)) && true))) = true) →
 ((cis_pre (([((0:Int),((0:Int),(0:Int))),((9:Int),((0:Int),(0:Int))),((9:Int),((9:Int),(0:Int))),((0:Int),((9:Int),(0:Int))),((9:Int),((0:Int),(9:Int)))],([],([],[y,y_1]))),y_2.1)) ∧
 letP (cis (([((0:Int),((0:Int),(0:Int))),((9:Int),((0:Int),(0:Int))),((9:Int),((9:Int),(0:Int))),((0:Int),((9:Int),(0:Int))),((9:Int),((0:Int),(9:Int)))],([],([],[y,y_1]))),y_2.1)) fun y_9 =>
 ((y_9 = true) →
 ((cis_pre (([((0:Int),((0:Int),(0:Int))),((9:Int),((0:Int),(0:Int))),((9:Int),((9:Int),(0:Int))),((0:Int),((9:Int),(0:Int))),((9:Int),((0:Int),(9:Int)))],([],([],[y,y_1]))),[])) ∧
 letP (cis (([((0:Int),((0:Int),(0:Int))),((9:Int),((0:Int),(0:Int))),((9:Int),((9:Int),(0:Int))),((0:Int),((9:Int),(0:Int))),((9:Int),((0:Int),(9:Int)))],([],([],[y,y_1]))),[])) fun y_10 =>
 (((!y_10) = true) →
 (tame_pre ([((0:Int),((0:Int),(0:Int))),((9:Int),((0:Int),(0:Int))),((9:Int),((9:Int),(0:Int))),((0:Int),((9:Int),(0:Int))),((9:Int),((0:Int),(9:Int)))],([],([],[y,y_1]))))))))))))))))))))))))))))))))
def charted_t (x : Bool) : Tr Bool true :=
 (.fn0 three_S (z0,(z1,(2:Int))) trivial fun y =>
 (.fn0 three_S (z0,((2:Int),(3:Int))) trivial fun y_1 =>
 (.fn cgrow_S ([zz3,((9:Int),zz2),((9:Int),((9:Int),z0)),(z0,((9:Int),z0)),((9:Int),(z0,(9:Int)))],([],([],[y,y_1]))) fun y_2 =>
 (.fn0 three_S (z0,(z1,(2:Int))) trivial fun y_3 =>
 (.fn0 three_S (z0,(z1,(3:Int))) trivial fun y_4 =>
 (.fn cgrow_S ([zz3,((9:Int),zz2),((9:Int),((9:Int),z0)),(z0,(z0,(9:Int)))],([],([],[y_3,y_4]))) fun y_5 =>
 (.fn facing_S (([zz3,((9:Int),zz2),((9:Int),((9:Int),z0)),(z0,((9:Int),z0)),((9:Int),(z0,(9:Int)))],([],([],[y,y_1]))),z0) fun y_6 =>
 (.fn cgrow_S ([((4097:Int),zz2)],([],([],[]))) fun y_7 =>
 (.fn shadow_S (([zz3,((9:Int),zz2),((9:Int),((9:Int),z0)),(z0,((9:Int),z0)),((9:Int),(z0,(9:Int)))],([],([],[y,y_1]))),(z1,(2:Int))) fun y_8 =>
 (.b10 (y_2.2 == z0)
 (.b10 ((nL y_2.1) == z1)
 (.og (true && (decide (z0 < (nL y_2.1)))) (z0 < (nL y_2.1)) (fun h => (and_t rfl (decide_eq_true h)))
 (.od (0 < (List.length y_2.1))
 (.od (0 < (List.length y_2.1))
 (.od (0 < (List.length y_2.1))
 (.b10 ((nL (List.getD y_2.1 0 (z0,(z0,[]))).2.2) == (2:Int))
 (.b10 (y_5.2 == y_2.2)
 (.b10 ((nL y_5.1) == (2:Int))
 (.b10 y_6.2.2
 (.b10 (y_6.1 == (2:Int))
 (.b10 (y_6.2.1 == z1)
 (.b10 (y_7.2 == z1)
 (.b10 (y_8.2 == y_2.2)
 (.b10 (((y_8.1.1.1 == z0) && ((y_8.1.1.2 == z0) && true)) && (((y_8.1.2.1.1 == (9:Int)) && ((y_8.1.2.1.2 == (9:Int)) && true)) && (((y_8.1.2.2.1 == z0) && ((y_8.1.2.2.2 == (9:Int)) && true)) && true)))
 (.fn cis_S (([zz3,((9:Int),zz2),((9:Int),((9:Int),z0)),(z0,((9:Int),z0)),((9:Int),(z0,(9:Int)))],([],([],[y,y_1]))),y_2.1) fun y_9 =>
 (.b10 y_9
 (.fn cis_S (([zz3,((9:Int),zz2),((9:Int),((9:Int),z0)),(z0,((9:Int),z0)),((9:Int),(z0,(9:Int)))],([],([],[y,y_1]))),[]) fun y_10 =>
 (.b10 (!y_10)
 (.fn tame_S ([zz3,((9:Int),zz2),((9:Int),((9:Int),z0)),(z0,((9:Int),z0)),((9:Int),(z0,(9:Int)))],([],([],[y,y_1]))) fun y_11 =>
 (.ret y_11))
 (.ret false)))
 (.ret false)))
 (.ret false))
 (.ret false))
 (.ret false))
 (.ret false))
 (.ret false))
 (.ret false))
 (.ret false))
 (.ret false))
 (.ret false))))))
 (.ret false))
 (.ret false)))))))))))
abbrev charted_S : FnS := ⟨.none,(.one Ty.bool),charted_pre,charted⟩
theorem charted_ok : SpecOk Tryz.prog 19 (fnSpec charted_S) := SpecOk.tr charted_S charted_t (fn := Tryz.f19) tt_ok sp_three_ok mixed (by kernel_rfl) (ItsOk.nil _ _) (fun x => LpsOk.nil) (fun x => (by kernel_rfl)) fun x Q => (by kernel_rfl)
def sp_charted : List (Nat × Ev.Spec) := (19,fnSpec charted_S) :: sp_three
theorem sp_charted_ok : SpecsOk Tryz.prog sp_charted := SpecsOk.add (fn := Tryz.f19) (by kernel_rfl) charted_ok sp_three_ok
def few14 (x : ((List I3) × ((List I2) × ((List I3) × (List I9))))) : Bool :=
 (if ((x.1.length:Int) ≤ (20:Int)) then
 (if ((x.2.1.length:Int) ≤ (60:Int)) then
 (if ((x.2.2.1.length:Int) ≤ (60:Int)) then
 (decide ((x.2.2.2.length:Int) ≤ (20:Int))) else
 false) else
 false) else
 false)
def few14_pre (_ : ((List I3) × ((List I2) × ((List I3) × (List I9))))) : Prop := True
def few14_t (x : ((List I3) × ((List I2) × ((List I3) × (List I9))))) : Tr Bool false :=
 (.i00 ((nL x.1) ≤ (20:Int))
 (.i00 ((nL x.2.1) ≤ (60:Int))
 (.i00 ((nL x.2.2.1) ≤ (60:Int))
 (.ret (decide ((nL x.2.2.2) ≤ (20:Int))))
 (.ret false))
 (.ret false))
 (.ret false))
abbrev few14_S : FnS := ⟨(.agg (Ty.prod (Ty.sl yy3) (Ty.prod (Ty.sl yy2) (Ty.prod (Ty.sl yy3) (Ty.sl yy9))))),(.one Ty.bool),few14_pre,few14⟩
theorem few14_ok : SpecOk Tryz.prog 21 (fnSpec few14_S) := SpecOk.tr few14_S few14_t (fn := Tryz.f21) tt_ok sp_charted_ok mixed (by kernel_rfl) (ItsOk.nil _ _) (fun x => LpsOk.nil) (fun x => (by kernel_rfl)) fun x Q => (by kernel_rfl)
def sp_few14 : List (Nat × Ev.Spec) := (21,fnSpec few14_S) :: sp_charted
theorem sp_few14_ok : SpecsOk Tryz.prog sp_few14 := SpecsOk.add (fn := Tryz.f21) (by kernel_rfl) few14_ok sp_charted_ok
def few15_l0 (x : (((List I3) × ((List I2) × ((List I3) × (List I9)))) × (List (Int × (Int × (List Int)))))) : LoopD := ⟨[],⟨pvs 37 0 [(1,.v (.one (.full 0))),(2,.v (.one (.ptr 1 0))),(5,.v (.one (.i .i64)))],[.row (Ty.prod yi (Ty.prod yi (Ty.sl yi))) 0,.cells [.full 2,.full 3,.full 4,.full 5] 26,.row yy3 0,.row yy2 0,.row yy3 0,.row yy9 0],0,none,[],[1,2,3,4,5],[0],[.i],[.l (Ty.prod yi (Ty.prod yi (Ty.sl yi))) x.2,.l yy3 x.1.1,.l yy2 x.1.2.1,.l yy3 x.1.2.2.1,.l yy9 x.1.2.2.2]⟩,[⟨.ret,.ret,⟨pvs 37 0 [(4,.v (.one (.b)))],[],0,none,[],[0],[],[],[.b false]⟩⟩,⟨(.exit 0),.normal,⟨pvs 37 0 [(1,.v (.one (.full 0))),(2,.v (.one (.ptr 1 0)))],[.row (Ty.prod yi (Ty.prod yi (Ty.sl yi))) 0,.cells [.full 2,.full 3,.full 4,.full 5] 26,.row yy3 0,.row yy2 0,.row yy3 0,.row yy9 0],0,none,[],[0,1,2,3,4],[],[],[.l (Ty.prod yi (Ty.prod yi (Ty.sl yi))) x.2,.l yy3 x.1.1,.l yy2 x.1.2.1,.l yy3 x.1.2.2.1,.l yy9 x.1.2.2.2]⟩⟩]⟩
def few15_l0_step (x : (((List I3) × ((List I2) × ((List I3) × (List I9)))) × (List (Int × (Int × (List Int)))))) (s:Int) : Int ⊕ (Unit ⊕ Unit) :=
 (if (s < (x.2.length:Int)) then
 (if ((x.2.length:Int) ≤ (20:Int)) then
 (if (((List.getD x.2 (Int.toNat s) ((0:Int),((0:Int),[]))).2.2.length:Int) > (20:Int)) then
 (Sum.inr (Sum.inl ())) else
 (Sum.inl (w64 (s + (1:Int))))) else
 (Sum.inr (Sum.inr (())))) else
 (Sum.inr (Sum.inr (()))))
def few15_l0_pre (x : (((List I3) × ((List I2) × ((List I3) × (List I9)))) × (List (Int × (Int × (List Int)))))) (s:Int) : Prop :=
 ((s < (x.2.length:Int)) →
 (((x.2.length:Int) ≤ (20:Int)) →
 ((((0:Int) ≤ s) ∧ (s < (x.2.length:Int))) ∧
 (((Int.toNat s) < (List.length x.2)) ∧
 (((Int.toNat s) < (List.length x.2)) ∧
 ((Int.toNat s) < (List.length x.2)))))))
def few15_l0_t (x : (((List I3) × ((List I2) × ((List I3) × (List I9)))) × (List (Int × (Int × (List Int)))))) (s:Int) : Tr (Int ⊕ (Unit ⊕ Unit)) true :=
 (.i10 (s < (nL x.2))
 (.i10 ((nL x.2) ≤ (20:Int))
 (.oI3 s x.2
 (.i00 ((nL (gT x.2 s (z0,(z0,[]))).2.2) > (20:Int))
 (.ret (.inr (Sum.inl ())))
 (.ret (.inl (w1 s)))))
 (.ret (.inr (Sum.inr (())))))
 (.ret (.inr (Sum.inr (())))))
def few15 (x : (((List I3) × ((List I2) × ((List I3) × (List I9)))) × (List (Int × (Int × (List Int)))))) : Bool :=
 (letV (run (few15_l0_step x) (0:Int)) fun r =>
 (Sum.elim (fun a =>
 false) (fun b =>
 (if ((x.2.length:Int) ≤ (20:Int)) then
 (letV (few14 x.1) fun y =>
 (if (y = true) then
 (decide ((x.1.2.2.2.length:Int) ≤ (12:Int))) else
 false)) else
 false)) r))
def few15_pre (x : (((List I3) × ((List I2) × ((List I3) × (List I9)))) × (List (Int × (Int × (List Int)))))) : Prop :=
 (Term (few15_l0_step x) (few15_l0_pre x) (0:Int))
def few15_t (x : (((List I3) × ((List I2) × ((List I3) × (List I9)))) × (List (Int × (Int × (List Int)))))) : Tr Bool true :=
 (LoopD.lp (few15_l0 x) (few15_l0_t x) z0 fun r =>
 (.s00 r (fun a =>
 (.ret false)) (fun b =>
 (.i00 ((nL x.2) ≤ (20:Int))
 (.fn0 few14_S x.1 trivial fun y =>
 (.b00 y
 (.ret (decide ((nL x.1.2.2.2) ≤ (12:Int))))
 (.ret false)))
 (.ret false)))))
abbrev few15_S : FnS := ⟨(.pair (.agg (Ty.prod (Ty.sl yy3) (Ty.prod (Ty.sl yy2) (Ty.prod (Ty.sl yy3) (Ty.sl yy9))))) (.one (Ty.sl (Ty.prod yi (Ty.prod yi (Ty.sl yi)))))),(.one Ty.bool),few15_pre,few15⟩
theorem few15_ok : SpecOk Tryz.prog 4 (fnSpec few15_S) := SpecOk.tr few15_S few15_t (fn := Tryz.f4) tt_ok sp_few14_ok mixed (by kernel_rfl) (ItsOk.nil _ _) (fun x => (LpsOk.tr tt_ok (SpecsOk.ctxI sp_few14_ok (ItsOk.nil _ _)) mixed 0 (few15_l0 x) (few15_l0_t x) LpsOk.nil (by kernel_rfl) fun g s Q => (by kernel_rfl))) (fun x => (by kernel_rfl)) fun x Q => (by kernel_rfl)
def sp_few15 : List (Nat × Ev.Spec) := (4,fnSpec few15_S) :: sp_few14
theorem sp_few15_ok : SpecsOk Tryz.prog sp_few15 := SpecsOk.add (fn := Tryz.f4) (by kernel_rfl) few15_ok sp_few14_ok
def own08 (x : ((List I3) × ((List I2) × ((List I3) × (List I9))))) : ((List I3) × ((List I2) × ((List I3) × (List I9)))) :=
 (([] ++ x.1),(([] ++ x.2.1),(([] ++ x.2.2.1),([] ++ x.2.2.2))))
def own08_pre (x : ((List I3) × ((List I2) × ((List I3) × (List I9))))) : Prop :=
 (((0 + (List.length x.1)) < 1099511627776) ∧
 (((0 + (List.length x.2.1)) < 1099511627776) ∧
 (((0 + (List.length x.2.2.1)) < 1099511627776) ∧
 ((0 + (List.length x.2.2.2)) < 1099511627776))))
def own08_t (x : ((List I3) × ((List I2) × ((List I3) × (List I9))))) : Tr ((List I3) × ((List I2) × ((List I3) × (List I9)))) true :=
 (.od ((0 + (List.length x.1)) < 1099511627776)
 (.od ((0 + (List.length x.2.1)) < 1099511627776)
 (.od ((0 + (List.length x.2.2.1)) < 1099511627776)
 (.od ((0 + (List.length x.2.2.2)) < 1099511627776)
 (.ret (([] ++ x.1),(([] ++ x.2.1),(([] ++ x.2.2.1),([] ++ x.2.2.2)))))))))
abbrev own08_S : FnS := ⟨(.agg (Ty.prod (Ty.sl yy3) (Ty.prod (Ty.sl yy2) (Ty.prod (Ty.sl yy3) (Ty.sl yy9))))),(.agg (Ty.prod (Ty.sl yy3) (Ty.prod (Ty.sl yy2) (Ty.prod (Ty.sl yy3) (Ty.sl yy9))))),own08_pre,own08⟩
theorem own08_ok : SpecOk Tryz.prog 5 (fnSpec own08_S) := SpecOk.tr own08_S own08_t (fn := Tryz.f5) tt_ok sp_few15_ok mixed (by kernel_rfl) (ItsOk.nil _ _) (fun x => LpsOk.nil) (fun x => (by kernel_rfl)) fun x Q => (by kernel_rfl)
def sp_own08 : List (Nat × Ev.Spec) := (5,fnSpec own08_S) :: sp_few15
theorem sp_own08_ok : SpecsOk Tryz.prog sp_own08 := SpecsOk.add (fn := Tryz.f5) (by kernel_rfl) own08_ok sp_few15_ok
def same01_l0 (x : ((List Int) × (List Int))) : LoopD := ⟨[],⟨pvs 26 0 [(0,.v (.one (.full 0))),(1,.v (.one (.full 1))),(5,.v (.one (.i .i64)))],[.row yi 0,.row yi 0],0,none,[],[1,2],[0],[.i],[.l yi x.1,.l yi x.2]⟩,[⟨.ret,.ret,⟨pvs 26 0 [(4,.v (.one (.b)))],[],0,none,[],[0],[],[],[.b false]⟩⟩,⟨(.exit 0),.normal,⟨pvs 26 0 [],[],0,none,[],[],[],[],[]⟩⟩]⟩
def same01_l0_step (x : ((List Int) × (List Int))) (s:Int) : Int ⊕ (Unit ⊕ Unit) :=
 (if (s < (x.1.length:Int)) then
 (if (((List.getD x.1 (Int.toNat s) (0:Int)) != (List.getD x.2 (Int.toNat s) (0:Int))) = true) then
 (Sum.inr (Sum.inl ())) else
 (Sum.inl (w64 (s + (1:Int))))) else
 (Sum.inr (Sum.inr (()))))
def same01_l0_pre (x : ((List Int) × (List Int))) (s:Int) : Prop :=
 ((s < (x.1.length:Int)) →
 ((((0:Int) ≤ s) ∧ (s < (x.1.length:Int))) ∧
 (((Int.toNat s) < (List.length x.1)) ∧
 (((Int.toNat s) < (List.length x.1)) ∧
 ((((0:Int) ≤ s) ∧ (s < (x.2.length:Int))) ∧
 (((Int.toNat s) < (List.length x.2)) ∧
 ((Int.toNat s) < (List.length x.2))))))))
def same01_l0_t (x : ((List Int) × (List Int))) (s:Int) : Tr (Int ⊕ (Unit ⊕ Unit)) true :=
 (.i10 (s < (nL x.1))
 (.oI2 s x.1
 (.oI2 s x.2
 (.b00 ((gI x.1 s) != (gI x.2 s))
 (.ret (.inr (Sum.inl ())))
 (.ret (.inl (w1 s))))))
 (.ret (.inr (Sum.inr (())))))
def same01 (x : ((List Int) × (List Int))) : Bool :=
 (if (((x.1.length:Int) != (x.2.length:Int)) = true) then
 false else
 (letV (run (same01_l0_step x) (0:Int)) fun r =>
 (Sum.elim (fun a =>
 false) (fun b =>
 true) r)))
def same01_pre (x : ((List Int) × (List Int))) : Prop :=
 (¬ (((x.1.length:Int) != (x.2.length:Int)) = true) →
 (Term (same01_l0_step x) (same01_l0_pre x) (0:Int)))
def same01_t (x : ((List Int) × (List Int))) : Tr Bool true :=
 (.b01 ((nL x.1) != (nL x.2))
 (.ret false)
 (LoopD.lp (same01_l0 x) (same01_l0_t x) z0 fun r =>
 (.s00 r (fun a =>
 (.ret false)) (fun b =>
 (.ret true)))))
abbrev same01_S : FnS := ⟨(.pair (.one (Ty.sl yi)) (.one (Ty.sl yi))),(.one Ty.bool),same01_pre,same01⟩
theorem same01_ok : SpecOk Tryz.prog 34 (fnSpec same01_S) := SpecOk.tr same01_S same01_t (fn := Tryz.f34) tt_ok sp_own08_ok mixed (by kernel_rfl) (ItsOk.nil _ _) (fun x => (LpsOk.tr tt_ok (SpecsOk.ctxI sp_own08_ok (ItsOk.nil _ _)) mixed 0 (same01_l0 x) (same01_l0_t x) LpsOk.nil (by kernel_rfl) fun g s Q => (by kernel_rfl))) (fun x => (by kernel_rfl)) fun x Q => (by kernel_rfl)
def sp_same01 : List (Nat × Ev.Spec) := (34,fnSpec same01_S) :: sp_own08
theorem sp_same01_ok : SpecsOk Tryz.prog sp_same01 := SpecsOk.add (fn := Tryz.f34) (by kernel_rfl) same01_ok sp_own08_ok
def same15_l0 (x : ((List (Int × (Int × (List Int)))) × (List (Int × (Int × (List Int)))))) : LoopD := ⟨[],⟨pvs 55 0 [(0,.v (.one (.full 0))),(1,.v (.one (.full 1))),(5,.v (.one (.i .i64)))],[.row (Ty.prod yi (Ty.prod yi (Ty.sl yi))) 0,.row (Ty.prod yi (Ty.prod yi (Ty.sl yi))) 0],0,none,[],[1,2],[0],[.i],[.l (Ty.prod yi (Ty.prod yi (Ty.sl yi))) x.1,.l (Ty.prod yi (Ty.prod yi (Ty.sl yi))) x.2]⟩,[⟨.ret,.ret,⟨pvs 55 0 [(4,.v (.one (.b)))],[],0,none,[],[0],[],[],[.b false]⟩⟩,⟨(.exit 0),.normal,⟨pvs 55 0 [],[],0,none,[],[],[],[],[]⟩⟩]⟩
def same15_l0_step (x : ((List (Int × (Int × (List Int)))) × (List (Int × (Int × (List Int)))))) (s:Int) : Int ⊕ (Unit ⊕ Unit) :=
 (if (s < (x.1.length:Int)) then
 (if (((List.getD x.1 (Int.toNat s) ((0:Int),((0:Int),[]))).1 != (List.getD x.2 (Int.toNat s) ((0:Int),((0:Int),[]))).1) = true) then
 (Sum.inr (Sum.inl ())) else
 (if (((List.getD x.1 (Int.toNat s) ((0:Int),((0:Int),[]))).2.1 != (List.getD x.2 (Int.toNat s) ((0:Int),((0:Int),[]))).2.1) = true) then
 (Sum.inr (Sum.inl ())) else
 (letV (same01 ((List.getD x.1 (Int.toNat s) ((0:Int),((0:Int),[]))).2.2,(List.getD x.2 (Int.toNat s) ((0:Int),((0:Int),[]))).2.2)) fun y =>
 (if ((!y) = true) then
 (Sum.inr (Sum.inl ())) else
 (Sum.inl (w64 (s + (1:Int)))))))) else
 (Sum.inr (Sum.inr (()))))
def same15_l0_pre (x : ((List (Int × (Int × (List Int)))) × (List (Int × (Int × (List Int)))))) (s:Int) : Prop :=
 ((s < (x.1.length:Int)) →
 ((((0:Int) ≤ s) ∧ (s < (x.1.length:Int))) ∧
 (((Int.toNat s) < (List.length x.1)) ∧
 (((Int.toNat s) < (List.length x.1)) ∧
 (((Int.toNat s) < (List.length x.1)) ∧
 ((((0:Int) ≤ s) ∧ (s < (x.2.length:Int))) ∧
 (((Int.toNat s) < (List.length x.2)) ∧
 (((Int.toNat s) < (List.length x.2)) ∧
 (((Int.toNat s) < (List.length x.2)) ∧
 (¬ (((List.getD x.1 (Int.toNat s) ((0:Int),((0:Int),[]))).1 != (List.getD x.2 (Int.toNat s) ((0:Int),((0:Int),[]))).1) = true) →
 ((((0:Int) ≤ s) ∧ (s < (x.1.length:Int))) ∧
 (((Int.toNat s) < (List.length x.1)) ∧
 (((Int.toNat s) < (List.length x.1)) ∧
 (((Int.toNat s) < (List.length x.1)) ∧
 ((((0:Int) ≤ s) ∧ (s < (x.2.length:Int))) ∧
 (((Int.toNat s) < (List.length x.2)) ∧
 (((Int.toNat s) < (List.length x.2)) ∧
 (((Int.toNat s) < (List.length x.2)) ∧
 (¬ (((List.getD x.1 (Int.toNat s) ((0:Int),((0:Int),[]))).2.1 != (List.getD x.2 (Int.toNat s) ((0:Int),((0:Int),[]))).2.1) = true) →
 ((((0:Int) ≤ s) ∧ (s < (x.1.length:Int))) ∧
 (((Int.toNat s) < (List.length x.1)) ∧
 (((Int.toNat s) < (List.length x.1)) ∧
 (((Int.toNat s) < (List.length x.1)) ∧
 ((((0:Int) ≤ s) ∧ (s < (x.2.length:Int))) ∧
 (((Int.toNat s) < (List.length x.2)) ∧
 (((Int.toNat s) < (List.length x.2)) ∧
 (((Int.toNat s) < (List.length x.2)) ∧
 (same01_pre ((List.getD x.1 (Int.toNat s) ((0:Int),((0:Int),[]))).2.2,(List.getD x.2 (Int.toNat s) ((0:Int),((0:Int),[]))).2.2)))))))))))))))))))))))))))))
def same15_l0_t (x : ((List (Int × (Int × (List Int)))) × (List (Int × (Int × (List Int)))))) (s:Int) : Tr (Int ⊕ (Unit ⊕ Unit)) true :=
 (.i10 (s < (nL x.1))
 (.oI3 s x.1
 (.oI3 s x.2
 (.b01 ((gT x.1 s (z0,(z0,[]))).1 != (gT x.2 s (z0,(z0,[]))).1)
 (.ret (.inr (Sum.inl ())))
 (.oI3 s x.1
 (.oI3 s x.2
 (.b01 ((gT x.1 s (z0,(z0,[]))).2.1 != (gT x.2 s (z0,(z0,[]))).2.1)
 (.ret (.inr (Sum.inl ())))
 (.oI3 s x.1
 (.oI3 s x.2
 (.fn same01_S ((gT x.1 s (z0,(z0,[]))).2.2,(gT x.2 s (z0,(z0,[]))).2.2) fun y =>
 (.b00 (!y)
 (.ret (.inr (Sum.inl ())))
 (.ret (.inl (w1 s)))))))))))))
 (.ret (.inr (Sum.inr (())))))
def same15 (x : ((List (Int × (Int × (List Int)))) × (List (Int × (Int × (List Int)))))) : Bool :=
 (if (((x.1.length:Int) != (x.2.length:Int)) = true) then
 false else
 (letV (run (same15_l0_step x) (0:Int)) fun r =>
 (Sum.elim (fun a =>
 false) (fun b =>
 true) r)))
def same15_pre (x : ((List (Int × (Int × (List Int)))) × (List (Int × (Int × (List Int)))))) : Prop :=
 (¬ (((x.1.length:Int) != (x.2.length:Int)) = true) →
 (Term (same15_l0_step x) (same15_l0_pre x) (0:Int)))
def same15_t (x : ((List (Int × (Int × (List Int)))) × (List (Int × (Int × (List Int)))))) : Tr Bool true :=
 (.b01 ((nL x.1) != (nL x.2))
 (.ret false)
 (LoopD.lp (same15_l0 x) (same15_l0_t x) z0 fun r =>
 (.s00 r (fun a =>
 (.ret false)) (fun b =>
 (.ret true)))))
abbrev same15_S : FnS := ⟨(.pair (.one (Ty.sl (Ty.prod yi (Ty.prod yi (Ty.sl yi))))) (.one (Ty.sl (Ty.prod yi (Ty.prod yi (Ty.sl yi)))))),(.one Ty.bool),same15_pre,same15⟩
theorem same15_ok : SpecOk Tryz.prog 12 (fnSpec same15_S) := SpecOk.tr same15_S same15_t (fn := Tryz.f12) tt_ok sp_same01_ok mixed (by kernel_rfl) (ItsOk.nil _ _) (fun x => (LpsOk.tr tt_ok (SpecsOk.ctxI sp_same01_ok (ItsOk.nil _ _)) mixed 0 (same15_l0 x) (same15_l0_t x) LpsOk.nil (by kernel_rfl) fun g s Q => (by kernel_rfl))) (fun x => (by kernel_rfl)) fun x Q => (by kernel_rfl)
def sp_same15 : List (Nat × Ev.Spec) := (12,fnSpec same15_S) :: sp_same01
theorem sp_same15_ok : SpecsOk Tryz.prog sp_same15 := SpecsOk.add (fn := Tryz.f12) (by kernel_rfl) same15_ok sp_same01_ok
end Go.Proofs.YtkbmjhabfjgoiaaGreat
