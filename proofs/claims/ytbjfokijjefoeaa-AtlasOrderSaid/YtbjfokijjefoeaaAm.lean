/- The document's rows: the model. -/
import Derived.Test.YtbjfokijjefoeaaAe
namespace Go.Proofs.Ytbjfokijjefoeaa
open Go Go.Ev Go.Proofs
set_option linter.unusedVariables false
theorem he_of {s : FnS} {x : s.p.ty.T} {t : Tr s.r.ty.T true} (h1 : s.pre x = t.pre) (h2 : s.f x = t.val) : (s.pre x,s.f x) = (Tr.pI true t.pre,t.val) := by rw [h1,h2]; rfl
set_option maxHeartbeats 20000000
noncomputable def mappedL (x : Bool) : Bool :=
 (letV (patchL ((4:Int),((2:Int),(1:Int)))) fun y =>
 (letV (patchL ((2:Int),((3:Int),(3:Int)))) fun y_1 =>
 (letV (buildM ((8:Int),((8:Int),((1:Int),[y,y_1])))) fun y_2 =>
 (letV (buildM ((4:Int),((8:Int),((1:Int),[y,y_1])))) fun y_3 =>
 (letV (buildM ((8:Int),((8:Int),((0:Int),[y,y_1])))) fun y_4 =>
 (if ((y_2.2 != (0:Int)) = true) then
 false else
 (if (((((List.length y_2.1.2.2.2.2):Nat):Int) != (2:Int)) = true) then
 false else
 (letV (allM y_2.1) fun y_5 =>
 (letV (findM (y_2.1,(4:Int))) fun y_6 =>
 (letV (orderM [y,y_1]) fun y_7 =>
 (letV (r1same (y_7,[(1:Int),(0:Int)])) fun y_8 =>
 (if (y_8 = true) then
 (if ((((List.getD y_2.1.2.2.2.2 0 ((0:Int),((0:Int),((0:Int),(0:Int))))).1 == (0:Int)) && (((List.getD y_2.1.2.2.2.2 0 ((0:Int),((0:Int),((0:Int),(0:Int))))).2.1 == (5:Int)) && (((List.getD y_2.1.2.2.2.2 0 ((0:Int),((0:Int),((0:Int),(0:Int))))).2.2.1 == (4:Int)) && (((List.getD y_2.1.2.2.2.2 0 ((0:Int),((0:Int),((0:Int),(0:Int))))).2.2.2 == (3:Int)) && true)))) = true) then
 (if ((((List.getD y_2.1.2.2.2.2 1 ((0:Int),((0:Int),((0:Int),(0:Int))))).1 == (0:Int)) && (((List.getD y_2.1.2.2.2.2 1 ((0:Int),((0:Int),((0:Int),(0:Int))))).2.1 == (0:Int)) && (((List.getD y_2.1.2.2.2.2 1 ((0:Int),((0:Int),((0:Int),(0:Int))))).2.2.1 == (5:Int)) && (((List.getD y_2.1.2.2.2.2 1 ((0:Int),((0:Int),((0:Int),(0:Int))))).2.2.2 == (5:Int)) && true)))) = true) then
 (if ((y_3.2 == (9:Int)) = true) then
 (if ((y_4.2 == (1:Int)) = true) then
 (if ((y_5.2.2 == (0:Int)) = true) then
 (letV (r1same (y_5.2.1,[(0:Int),(1:Int)])) fun y_9 =>
 (if (y_9 = true) then
 (if (((((List.length y_5.1):Nat):Int) == (2:Int)) = true) then
 (if (y_6.2 = true) then
 (if ((((y_6.1.1.1 == (List.getD y_5.1 0 (((0:Int),(0:Int)),(((0:Int),(0:Int)),((0:Int),(0:Int))))).1.1) && ((y_6.1.1.2 == (List.getD y_5.1 0 (((0:Int),(0:Int)),(((0:Int),(0:Int)),((0:Int),(0:Int))))).1.2) && true)) && (((y_6.1.2.1.1 == (List.getD y_5.1 0 (((0:Int),(0:Int)),(((0:Int),(0:Int)),((0:Int),(0:Int))))).2.1.1) && ((y_6.1.2.1.2 == (List.getD y_5.1 0 (((0:Int),(0:Int)),(((0:Int),(0:Int)),((0:Int),(0:Int))))).2.1.2) && true)) && (((y_6.1.2.2.1 == (List.getD y_5.1 0 (((0:Int),(0:Int)),(((0:Int),(0:Int)),((0:Int),(0:Int))))).2.2.1) && ((y_6.1.2.2.2 == (List.getD y_5.1 0 (((0:Int),(0:Int)),(((0:Int),(0:Int)),((0:Int),(0:Int))))).2.2.2) && true)) && true))) = true) then
 (if (((y_6.1.1.1 == (16:Int)) && ((y_6.1.1.2 == (96:Int)) && true)) = true) then
 (letV (isM y_2.1) fun y_10 =>
 y_10) else
 false) else
 false) else
 false) else
 false) else
 false)) else
 false) else
 false) else
 false) else
 false) else
 false) else
 false))))))))))))
noncomputable def mappedL_pre (x : Bool) : Prop :=
 (letP (patchL ((4:Int),((2:Int),(1:Int)))) fun y =>
 (letP (patchL ((2:Int),((3:Int),(3:Int)))) fun y_1 =>
 ((buildM_pre ((8:Int),((8:Int),((1:Int),[y,y_1])))) ∧
 letP (buildM ((8:Int),((8:Int),((1:Int),[y,y_1])))) fun y_2 =>
 ((buildM_pre ((4:Int),((8:Int),((1:Int),[y,y_1])))) ∧
 letP (buildM ((4:Int),((8:Int),((1:Int),[y,y_1])))) fun y_3 =>
 ((buildM_pre ((8:Int),((8:Int),((0:Int),[y,y_1])))) ∧
 letP (buildM ((8:Int),((8:Int),((0:Int),[y,y_1])))) fun y_4 =>
 (¬ ((y_2.2 != (0:Int)) = true) →
 (¬ (((((List.length y_2.1.2.2.2.2):Nat):Int) != (2:Int)) = true) →
 ((allM_pre y_2.1) ∧
 letP (allM y_2.1) fun y_5 =>
 ((findM_pre (y_2.1,(4:Int))) ∧
 letP (findM (y_2.1,(4:Int))) fun y_6 =>
 ((orderM_pre [y,y_1]) ∧
 letP (orderM [y,y_1]) fun y_7 =>
 ((r1same_pre (y_7,[(1:Int),(0:Int)])) ∧
 letP (r1same (y_7,[(1:Int),(0:Int)])) fun y_8 =>
 ((y_8 = true) →
 (((0:Int) < (((List.length y_2.1.2.2.2.2):Nat):Int)) ∧
 ((0 < (List.length y_2.1.2.2.2.2)) ∧
 ((0 < (List.length y_2.1.2.2.2.2)) ∧
 (((((List.getD y_2.1.2.2.2.2 0 ((0:Int),((0:Int),((0:Int),(0:Int))))).1 == (0:Int)) && (((List.getD y_2.1.2.2.2.2 0 ((0:Int),((0:Int),((0:Int),(0:Int))))).2.1 == (5:Int)) && (((List.getD y_2.1.2.2.2.2 0 ((0:Int),((0:Int),((0:Int),(0:Int))))).2.2.1 == (4:Int)) && (((List.getD y_2.1.2.2.2.2 0 ((0:Int),((0:Int),((0:Int),(0:Int))))).2.2.2 == (3:Int)) && true)))) = true) →
 (((1:Int) < (((List.length y_2.1.2.2.2.2):Nat):Int)) ∧
 ((1 < (List.length y_2.1.2.2.2.2)) ∧
 ((1 < (List.length y_2.1.2.2.2.2)) ∧
 (((((List.getD y_2.1.2.2.2.2 1 ((0:Int),((0:Int),((0:Int),(0:Int))))).1 == (0:Int)) && (((List.getD y_2.1.2.2.2.2 1 ((0:Int),((0:Int),((0:Int),(0:Int))))).2.1 == (0:Int)) && (((List.getD y_2.1.2.2.2.2 1 ((0:Int),((0:Int),((0:Int),(0:Int))))).2.2.1 == (5:Int)) && (((List.getD y_2.1.2.2.2.2 1 ((0:Int),((0:Int),((0:Int),(0:Int))))).2.2.2 == (5:Int)) && true)))) = true) →
 (((y_3.2 == (9:Int)) = true) →
 (((y_4.2 == (1:Int)) = true) →
 (((y_5.2.2 == (0:Int)) = true) →
 ((r1same_pre (y_5.2.1,[(0:Int),(1:Int)])) ∧
 letP (r1same (y_5.2.1,[(0:Int),(1:Int)])) fun y_9 =>
 ((y_9 = true) →
 ((((((List.length y_5.1):Nat):Int) == (2:Int)) = true) →
 ((y_6.2 = true) →
 (((0:Int) < (((List.length y_5.1):Nat):Int)) ∧
 ((0 < (List.length y_5.1)) ∧
 ((0 < (List.length y_5.1)) ∧
 (((((y_6.1.1.1 == (List.getD y_5.1 0 (((0:Int),(0:Int)),(((0:Int),(0:Int)),((0:Int),(0:Int))))).1.1) && ((y_6.1.1.2 == (List.getD y_5.1 0 (((0:Int),(0:Int)),(((0:Int),(0:Int)),((0:Int),(0:Int))))).1.2) && true)) && (((y_6.1.2.1.1 == (List.getD y_5.1 0 (((0:Int),(0:Int)),(((0:Int),(0:Int)),((0:Int),(0:Int))))).2.1.1) && ((y_6.1.2.1.2 == (List.getD y_5.1 0 (((0:Int),(0:Int)),(((0:Int),(0:Int)),((0:Int),(0:Int))))).2.1.2) && true)) && (((y_6.1.2.2.1 == (List.getD y_5.1 0 (((0:Int),(0:Int)),(((0:Int),(0:Int)),((0:Int),(0:Int))))).2.2.1) && ((y_6.1.2.2.2 == (List.getD y_5.1 0 (((0:Int),(0:Int)),(((0:Int),(0:Int)),((0:Int),(0:Int))))).2.2.2) && true)) && true))) = true) →
 ((((y_6.1.1.1 == (16:Int)) && ((y_6.1.1.2 == (96:Int)) && true)) = true) →
 (isM_pre y_2.1)))))))))))))))))))))))))))))))))
noncomputable def mappedL_t (x : Bool) : Tr Bool true :=
 (.fn0 patchL_S ((4:Int),((2:Int),z1)) trivial fun y =>
 (.fn0 patchL_S ((2:Int),((3:Int),(3:Int))) trivial fun y_1 =>
 (.fn buildM_S ((8:Int),((8:Int),(z1,[y,y_1]))) fun y_2 =>
 (.fn buildM_S ((4:Int),((8:Int),(z1,[y,y_1]))) fun y_3 =>
 (.fn buildM_S ((8:Int),((8:Int),(z0,[y,y_1]))) fun y_4 =>
 (.b01 (y_2.2 != z0)
 (.ret false)
 (.b01 ((nL y_2.1.2.2.2.2) != (2:Int))
 (.ret false)
 (.fn allM_S y_2.1 fun y_5 =>
 (.fn findM_S (y_2.1,(4:Int)) fun y_6 =>
 (.fn orderM_S [y,y_1] fun y_7 =>
 (.fn r1same_S (y_7,[z1,z0]) fun y_8 =>
 (.b10 y_8
 (.og (true && (decide (z0 < (nL y_2.1.2.2.2.2)))) (z0 < (nL y_2.1.2.2.2.2)) (fun h => (and_t rfl (decide_eq_true h)))
 (.od (0 < (List.length y_2.1.2.2.2.2))
 (.od (0 < (List.length y_2.1.2.2.2.2))
 (.b10 (((List.getD y_2.1.2.2.2.2 0 (z0,zz3)).1 == z0) && (((List.getD y_2.1.2.2.2.2 0 (z0,zz3)).2.1 == (5:Int)) && (((List.getD y_2.1.2.2.2.2 0 (z0,zz3)).2.2.1 == (4:Int)) && (((List.getD y_2.1.2.2.2.2 0 (z0,zz3)).2.2.2 == (3:Int)) && true))))
 (.og (true && (decide (z1 < (nL y_2.1.2.2.2.2)))) (z1 < (nL y_2.1.2.2.2.2)) (fun h => (and_t rfl (decide_eq_true h)))
 (.od (1 < (List.length y_2.1.2.2.2.2))
 (.od (1 < (List.length y_2.1.2.2.2.2))
 (.b10 (((List.getD y_2.1.2.2.2.2 1 (z0,zz3)).1 == z0) && (((List.getD y_2.1.2.2.2.2 1 (z0,zz3)).2.1 == z0) && (((List.getD y_2.1.2.2.2.2 1 (z0,zz3)).2.2.1 == (5:Int)) && (((List.getD y_2.1.2.2.2.2 1 (z0,zz3)).2.2.2 == (5:Int)) && true))))
 (.b10 (y_3.2 == (9:Int))
 (.b10 (y_4.2 == z1)
 (.b10 (y_5.2.2 == z0)
 (.fn r1same_S (y_5.2.1,[z0,z1]) fun y_9 =>
 (.b10 y_9
 (.b10 ((nL y_5.1) == (2:Int))
 (.b10 y_6.2
 (.og (true && (decide (z0 < (nL y_5.1)))) (z0 < (nL y_5.1)) (fun h => (and_t rfl (decide_eq_true h)))
 (.od (0 < (List.length y_5.1))
 (.od (0 < (List.length y_5.1))
 (.b10 (((y_6.1.1.1 == (List.getD y_5.1 0 zz6).1.1) && ((y_6.1.1.2 == (List.getD y_5.1 0 zz6).1.2) && true)) && (((y_6.1.2.1.1 == (List.getD y_5.1 0 zz6).2.1.1) && ((y_6.1.2.1.2 == (List.getD y_5.1 0 zz6).2.1.2) && true)) && (((y_6.1.2.2.1 == (List.getD y_5.1 0 zz6).2.2.1) && ((y_6.1.2.2.2 == (List.getD y_5.1 0 zz6).2.2.2) && true)) && true)))
 (.b10 ((y_6.1.1.1 == (16:Int)) && ((y_6.1.1.2 == (96:Int)) && true))
 (.fn isM_S y_2.1 fun y_10 =>
 (.ret y_10))
 (.ret false))
 (.ret false)))))
 (.ret false))
 (.ret false))
 (.ret false)))
 (.ret false))
 (.ret false))
 (.ret false))
 (.ret false)))))
 (.ret false)))))
 (.ret false)))))))))))))
noncomputable abbrev mappedL_S : FnS := ⟨.none,(.one Ty.bool),mappedL_pre,mappedL⟩
theorem mappedL_ok : SpecOk Try.prog 9 (fnSpec mappedL_S) := SpecOk.tr mappedL_S mappedL_t (fn := Try.f9) tt_ok sp_patchL_ok mixed (by kernel_rfl) (ItsOk.nil _ _) (fun x => LpsOk.nil) (fun x => he_of (by kernel_rfl) (by kernel_rfl)) fun x Q => (by kernel_rfl)
def sp_mappedL : List (Nat × Ev.Spec) := (9,fnSpec mappedL_S) :: sp_patchL
theorem sp_mappedL_ok : SpecsOk Try.prog sp_mappedL := SpecsOk.add (fn := Try.f9) (by kernel_rfl) mappedL_ok sp_patchL_ok
end Go.Proofs.Ytbjfokijjefoeaa
