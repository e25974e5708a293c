/- Models of the references of layers 7, 8, 14, 15. -/
import Derived.Test.YtkbmjhabfjgoiaaGreatCh
noncomputable section
set_option linter.unusedSectionVars false
set_option linter.unusedVariables false
set_option linter.unusedSimpArgs false
namespace Go.Proofs.YtkbmjhabfjgoiaaGreat
open Go Go.Ev Go.Proofs
def r8within (x : I3) : Bool :=
 (if (x.1 ≥ x.2.1) then
 (decide (x.1 ≤ x.2.2)) else
 false)
def r8within_pre (_ : I3) : Prop := True
def r8within_t (x : I3) : Tr Bool false :=
 (.i00 (x.1 ≥ x.2.1)
 (.ret (decide (x.1 ≤ x.2.2)))
 (.ret false))
abbrev r8within_S : FnS := ⟨(.pair (.one yi) (.pair (.one yi) (.one yi))),(.one Ty.bool),r8within_pre,r8within⟩
theorem r8within_ok : SpecOk Tryz.prog 70 (fnSpec r8within_S) := SpecOk.tr r8within_S r8within_t (fn := Tryz.f70) tt_ok sp_r10overlap_ok mixed (by kernel_rfl) (ItsOk.nil _ _) (fun x => LpsOk.nil) (fun x => (by kernel_rfl)) fun x Q => (by kernel_rfl)
def sp_r8within : List (Nat × Ev.Spec) := (70,fnSpec r8within_S) :: sp_r10overlap
theorem sp_r8within_ok : SpecsOk Tryz.prog sp_r8within := SpecsOk.add (fn := Tryz.f70) (by kernel_rfl) r8within_ok sp_r10overlap_ok
def r8is_l0 (x : ((List I3) × ((List I2) × ((List I3) × (List I9))))) : LoopD := ⟨[],⟨pvs 120 0 [(1,.v (.one (.ptr 0 0))),(3,.v (.one (.i .i64)))],[.cells [.full 1,.full 2,.full 3,.full 4] 26,.row yy3 0,.row yy2 0,.row yy3 0,.row yy9 0],0,none,[],[1,2,3,4],[0],[.i],[.l yy3 x.1,.l yy2 x.2.1,.l yy3 x.2.2.1,.l yy9 x.2.2.2]⟩,[⟨.ret,.ret,⟨pvs 120 0 [(2,.v (.one (.b)))],[],0,none,[],[0],[],[],[.b false]⟩⟩,⟨(.exit 0),.normal,⟨pvs 120 0 [],[],0,none,[],[],[],[],[]⟩⟩]⟩
def r8is_l0_step (x : ((List I3) × ((List I2) × ((List I3) × (List I9))))) (s:Int) : Int ⊕ (Unit ⊕ Unit) :=
 (if (s < (x.2.2.2.length:Int)) then
 (letV (r8within ((List.getD x.2.2.2 (Int.toNat s) (((0:Int),((0:Int),(0:Int))),(((0:Int),((0:Int),(0:Int))),((0:Int),((0:Int),(0:Int)))))).1.1,((0:Int),(w64 ((x.1.length:Int) - (1:Int)))))) fun y =>
 (if ((!y) = true) then
 (Sum.inr (Sum.inl ())) else
 (letV (r8within ((List.getD x.2.2.2 (Int.toNat s) (((0:Int),((0:Int),(0:Int))),(((0:Int),((0:Int),(0:Int))),((0:Int),((0:Int),(0:Int)))))).1.2.1,((-1:Int),(w64 ((x.2.1.length:Int) - (1:Int)))))) fun y_1 =>
 (if ((!y_1) = true) then
 (Sum.inr (Sum.inl ())) else
 (letV (r8within ((List.getD x.2.2.2 (Int.toNat s) (((0:Int),((0:Int),(0:Int))),(((0:Int),((0:Int),(0:Int))),((0:Int),((0:Int),(0:Int)))))).1.2.2,((-1:Int),(w64 ((x.2.2.1.length:Int) - (1:Int)))))) fun y_2 =>
 (if ((!y_2) = true) then
 (Sum.inr (Sum.inl ())) else
 (if ((!((decide ((List.getD x.2.2.2 (Int.toNat s) (((0:Int),((0:Int),(0:Int))),(((0:Int),((0:Int),(0:Int))),((0:Int),((0:Int),(0:Int)))))).1.2.1 < (0:Int))) == (decide ((List.getD x.2.2.2 (Int.toNat s) (((0:Int),((0:Int),(0:Int))),(((0:Int),((0:Int),(0:Int))),((0:Int),((0:Int),(0:Int)))))).1.2.1 < (0:Int))))) = true) then
 (Sum.inr (Sum.inl ())) else
 (if ((!((decide ((List.getD x.2.2.2 (Int.toNat s) (((0:Int),((0:Int),(0:Int))),(((0:Int),((0:Int),(0:Int))),((0:Int),((0:Int),(0:Int)))))).1.2.2 < (0:Int))) == (decide ((List.getD x.2.2.2 (Int.toNat s) (((0:Int),((0:Int),(0:Int))),(((0:Int),((0:Int),(0:Int))),((0:Int),((0:Int),(0:Int)))))).1.2.2 < (0:Int))))) = true) then
 (Sum.inr (Sum.inl ())) else
 (letV (r8within ((List.getD x.2.2.2 (Int.toNat s) (((0:Int),((0:Int),(0:Int))),(((0:Int),((0:Int),(0:Int))),((0:Int),((0:Int),(0:Int)))))).2.1.1,((0:Int),(w64 ((x.1.length:Int) - (1:Int)))))) fun y_3 =>
 (if ((!y_3) = true) then
 (Sum.inr (Sum.inl ())) else
 (letV (r8within ((List.getD x.2.2.2 (Int.toNat s) (((0:Int),((0:Int),(0:Int))),(((0:Int),((0:Int),(0:Int))),((0:Int),((0:Int),(0:Int)))))).2.1.2.1,((-1:Int),(w64 ((x.2.1.length:Int) - (1:Int)))))) fun y_4 =>
 (if ((!y_4) = true) then
 (Sum.inr (Sum.inl ())) else
 (letV (r8within ((List.getD x.2.2.2 (Int.toNat s) (((0:Int),((0:Int),(0:Int))),(((0:Int),((0:Int),(0:Int))),((0:Int),((0:Int),(0:Int)))))).2.1.2.2,((-1:Int),(w64 ((x.2.2.1.length:Int) - (1:Int)))))) fun y_5 =>
 (if ((!y_5) = true) then
 (Sum.inr (Sum.inl ())) else
 (if ((!((decide ((List.getD x.2.2.2 (Int.toNat s) (((0:Int),((0:Int),(0:Int))),(((0:Int),((0:Int),(0:Int))),((0:Int),((0:Int),(0:Int)))))).2.1.2.1 < (0:Int))) == (decide ((List.getD x.2.2.2 (Int.toNat s) (((0:Int),((0:Int),(0:Int))),(((0:Int),((0:Int),(0:Int))),((0:Int),((0:Int),(0:Int)))))).1.2.1 < (0:Int))))) = true) then
 (Sum.inr (Sum.inl ())) else
 (if ((!((decide ((List.getD x.2.2.2 (Int.toNat s) (((0:Int),((0:Int),(0:Int))),(((0:Int),((0:Int),(0:Int))),((0:Int),((0:Int),(0:Int)))))).2.1.2.2 < (0:Int))) == (decide ((List.getD x.2.2.2 (Int.toNat s) (((0:Int),((0:Int),(0:Int))),(((0:Int),((0:Int),(0:Int))),((0:Int),((0:Int),(0:Int)))))).1.2.2 < (0:Int))))) = true) then
 (Sum.inr (Sum.inl ())) else
 (letV (r8within ((List.getD x.2.2.2 (Int.toNat s) (((0:Int),((0:Int),(0:Int))),(((0:Int),((0:Int),(0:Int))),((0:Int),((0:Int),(0:Int)))))).2.2.1,((0:Int),(w64 ((x.1.length:Int) - (1:Int)))))) fun y_6 =>
 (if ((!y_6) = true) then
 (Sum.inr (Sum.inl ())) else
 (letV (r8within ((List.getD x.2.2.2 (Int.toNat s) (((0:Int),((0:Int),(0:Int))),(((0:Int),((0:Int),(0:Int))),((0:Int),((0:Int),(0:Int)))))).2.2.2.1,((-1:Int),(w64 ((x.2.1.length:Int) - (1:Int)))))) fun y_7 =>
 (if ((!y_7) = true) then
 (Sum.inr (Sum.inl ())) else
 (letV (r8within ((List.getD x.2.2.2 (Int.toNat s) (((0:Int),((0:Int),(0:Int))),(((0:Int),((0:Int),(0:Int))),((0:Int),((0:Int),(0:Int)))))).2.2.2.2,((-1:Int),(w64 ((x.2.2.1.length:Int) - (1:Int)))))) fun y_8 =>
 (if ((!y_8) = true) then
 (Sum.inr (Sum.inl ())) else
 (if ((!((decide ((List.getD x.2.2.2 (Int.toNat s) (((0:Int),((0:Int),(0:Int))),(((0:Int),((0:Int),(0:Int))),((0:Int),((0:Int),(0:Int)))))).2.2.2.1 < (0:Int))) == (decide ((List.getD x.2.2.2 (Int.toNat s) (((0:Int),((0:Int),(0:Int))),(((0:Int),((0:Int),(0:Int))),((0:Int),((0:Int),(0:Int)))))).1.2.1 < (0:Int))))) = true) then
 (Sum.inr (Sum.inl ())) else
 (if ((!((decide ((List.getD x.2.2.2 (Int.toNat s) (((0:Int),((0:Int),(0:Int))),(((0:Int),((0:Int),(0:Int))),((0:Int),((0:Int),(0:Int)))))).2.2.2.2 < (0:Int))) == (decide ((List.getD x.2.2.2 (Int.toNat s) (((0:Int),((0:Int),(0:Int))),(((0:Int),((0:Int),(0:Int))),((0:Int),((0:Int),(0:Int)))))).1.2.2 < (0:Int))))) = true) then
 (Sum.inr (Sum.inl ())) else
 (Sum.inl (w64 (s + (1:Int)))))))))))))))))))))))))))) else
 (Sum.inr (Sum.inr (()))))
def r8is_l0_pre (x : ((List I3) × ((List I2) × ((List I3) × (List I9))))) (s:Int) : Prop :=
 ((s < (x.2.2.2.length:Int)) →
 ((((0:Int) ≤ s) ∧ (s < (x.2.2.2.length:Int))) ∧
 (((Int.toNat s) < (List.length x.2.2.2)) ∧
 ((Int.toNat s) < (List.length x.2.2.2)))))
def r8is_l0_t (x : ((List I3) × ((List I2) × ((List I3) × (List I9))))) (s:Int) : Tr (Int ⊕ (Unit ⊕ Unit)) true :=
 (.i10 (s < (nL x.2.2.2))
 (.oI2 s x.2.2.2
 (.fn0 r8within_S ((gT x.2.2.2 s zz9).1.1,(z0,(wm (nL x.1)))) trivial fun y =>
 (.b00 (!y)
 (.ret (.inr (Sum.inl ())))
 (.fn0 r8within_S ((gT x.2.2.2 s zz9).1.2.1,((-1:Int),(wm (nL x.2.1)))) trivial fun y_1 =>
 (.b00 (!y_1)
 (.ret (.inr (Sum.inl ())))
 (.fn0 r8within_S ((gT x.2.2.2 s zz9).1.2.2,((-1:Int),(wm (nL x.2.2.1)))) trivial fun y_2 =>
 (.b00 (!y_2)
 (.ret (.inr (Sum.inl ())))
 (.b00 (!((decide ((gT x.2.2.2 s zz9).1.2.1 < z0)) == (decide ((gT x.2.2.2 s zz9).1.2.1 < z0))))
 (.ret (.inr (Sum.inl ())))
 (.b00 (!((decide ((gT x.2.2.2 s zz9).1.2.2 < z0)) == (decide ((gT x.2.2.2 s zz9).1.2.2 < z0))))
 (.ret (.inr (Sum.inl ())))
 (.fn0 r8within_S ((gT x.2.2.2 s zz9).2.1.1,(z0,(wm (nL x.1)))) trivial fun y_3 =>
 (.b00 (!y_3)
 (.ret (.inr (Sum.inl ())))
 (.fn0 r8within_S ((gT x.2.2.2 s zz9).2.1.2.1,((-1:Int),(wm (nL x.2.1)))) trivial fun y_4 =>
 (.b00 (!y_4)
 (.ret (.inr (Sum.inl ())))
 (.fn0 r8within_S ((gT x.2.2.2 s zz9).2.1.2.2,((-1:Int),(wm (nL x.2.2.1)))) trivial fun y_5 =>
 (.b00 (!y_5)
 (.ret (.inr (Sum.inl ())))
 (.b00 (!((decide ((gT x.2.2.2 s zz9).2.1.2.1 < z0)) == (decide ((gT x.2.2.2 s zz9).1.2.1 < z0))))
 (.ret (.inr (Sum.inl ())))
 (.b00 (!((decide ((gT x.2.2.2 s zz9).2.1.2.2 < z0)) == (decide ((gT x.2.2.2 s zz9).1.2.2 < z0))))
 (.ret (.inr (Sum.inl ())))
 (.fn0 r8within_S ((gT x.2.2.2 s zz9).2.2.1,(z0,(wm (nL x.1)))) trivial fun y_6 =>
 (.b00 (!y_6)
 (.ret (.inr (Sum.inl ())))
 (.fn0 r8within_S ((gT x.2.2.2 s zz9).2.2.2.1,((-1:Int),(wm (nL x.2.1)))) trivial fun y_7 =>
 (.b00 (!y_7)
 (.ret (.inr (Sum.inl ())))
 (.fn0 r8within_S ((gT x.2.2.2 s zz9).2.2.2.2,((-1:Int),(wm (nL x.2.2.1)))) trivial fun y_8 =>
 (.b00 (!y_8)
 (.ret (.inr (Sum.inl ())))
 (.b00 (!((decide ((gT x.2.2.2 s zz9).2.2.2.1 < z0)) == (decide ((gT x.2.2.2 s zz9).1.2.1 < z0))))
 (.ret (.inr (Sum.inl ())))
 (.b00 (!((decide ((gT x.2.2.2 s zz9).2.2.2.2 < z0)) == (decide ((gT x.2.2.2 s zz9).1.2.2 < z0))))
 (.ret (.inr (Sum.inl ())))
 (.ret (.inl (w1 s))))))))))))))))))))))))))))
 (.ret (.inr (Sum.inr (())))))
def r8is (x : ((List I3) × ((List I2) × ((List I3) × (List I9))))) : Bool :=
 (if ((x.1.length:Int) > (2000:Int)) then
 false else
 (if ((x.2.1.length:Int) > (2000:Int)) then
 false else
 (if ((x.2.2.1.length:Int) > (2000:Int)) then
 false else
 (if ((x.2.2.2.length:Int) > (500:Int)) then
 false else
 (letV (r4all3 x.1) fun y =>
 (if ((!y) = true) then
 false else
 (letV (r4all2 x.2.1) fun y_1 =>
 (if ((!y_1) = true) then
 false else
 (letV (r4all3 x.2.2.1) fun y_2 =>
 (if ((!y_2) = true) then
 false else
 (letV (run (r8is_l0_step x) (0:Int)) fun r =>
 (Sum.elim (fun a =>
 false) (fun b =>
 true) r))))))))))))
def r8is_pre (x : ((List I3) × ((List I2) × ((List I3) × (List I9))))) : Prop :=
 (¬ ((x.1.length:Int) > (2000:Int)) →
 (¬ ((x.2.1.length:Int) > (2000:Int)) →
 (¬ ((x.2.2.1.length:Int) > (2000:Int)) →
 (¬ ((x.2.2.2.length:Int) > (500:Int)) →
 ((r4all3_pre x.1) ∧
 letP (r4all3 x.1) fun y =>
 (¬ ((!y) = true) →
 ((r4all2_pre x.2.1) ∧
 letP (r4all2 x.2.1) fun y_1 =>
 (¬ ((!y_1) = true) →
 ((r4all3_pre x.2.2.1) ∧
 letP (r4all3 x.2.2.1) fun y_2 =>
 (¬ ((!y_2) = true) →
 (Term (r8is_l0_step x) (r8is_l0_pre x) (0:Int))))))))))))
def r8is_t (x : ((List I3) × ((List I2) × ((List I3) × (List I9))))) : Tr Bool true :=
 (.i01 ((nL x.1) > (2000:Int))
 (.ret false)
 (.i01 ((nL x.2.1) > (2000:Int))
 (.ret false)
 (.i01 ((nL x.2.2.1) > (2000:Int))
 (.ret false)
 (.i01 ((nL x.2.2.2) > (500:Int))
 (.ret false)
 (.fn r4all3_S x.1 fun y =>
 (.b01 (!y)
 (.ret false)
 (.fn r4all2_S x.2.1 fun y_1 =>
 (.b01 (!y_1)
 (.ret false)
 (.fn r4all3_S x.2.2.1 fun y_2 =>
 (.b01 (!y_2)
 (.ret false)
 (LoopD.lp (r8is_l0 x) (r8is_l0_t x) z0 fun r =>
 (.s00 r (fun a =>
 (.ret false)) (fun b =>
 (.ret true))))))))))))))
abbrev r8is_S : FnS := ⟨(.agg (Ty.prod (Ty.sl yy3) (Ty.prod (Ty.sl yy2) (Ty.prod (Ty.sl yy3) (Ty.sl yy9))))),(.one Ty.bool),r8is_pre,r8is⟩
theorem r8is_ok : SpecOk Tryz.prog 46 (fnSpec r8is_S) := SpecOk.tr r8is_S r8is_t (fn := Tryz.f46) tt_ok sp_r8within_ok mixed (by kernel_rfl) (ItsOk.nil _ _) (fun x => (LpsOk.tr tt_ok (SpecsOk.ctxI sp_r8within_ok (ItsOk.nil _ _)) mixed 0 (r8is_l0 x) (r8is_l0_t x) (LpsOk.unrollT tt_ok (SpecsOk.ctxI sp_r8within_ok (ItsOk.nil _ _)) mixed 2 4 LpsOk.nil (by kernel_rfl)) (by kernel_rfl) fun g s Q => (by kernel_rfl))) (fun x => (by kernel_rfl)) fun x Q => (by kernel_rfl)
def sp_r8is : List (Nat × Ev.Spec) := (46,fnSpec r8is_S) :: sp_r8within
theorem sp_r8is_ok : SpecsOk Tryz.prog sp_r8is := SpecsOk.add (fn := Tryz.f46) (by kernel_rfl) r8is_ok sp_r8within_ok
def r15within (x:Int) : Bool :=
 (if (x ≥ (-4096:Int)) then
 (decide (x ≤ (4096:Int))) else
 false)
def r15within_pre (_:Int) : Prop := True
def r15within_t (x:Int) : Tr Bool false :=
 (.i00 (x ≥ (-4096:Int))
 (.ret (decide (x ≤ (4096:Int))))
 (.ret false))
abbrev r15within_S : FnS := ⟨(.one yi),(.one Ty.bool),r15within_pre,r15within⟩
theorem r15within_ok : SpecOk Tryz.prog 45 (fnSpec r15within_S) := SpecOk.tr r15within_S r15within_t (fn := Tryz.f45) tt_ok sp_r8is_ok mixed (by kernel_rfl) (ItsOk.nil _ _) (fun x => LpsOk.nil) (fun x => (by kernel_rfl)) fun x Q => (by kernel_rfl)
def sp_r15within : List (Nat × Ev.Spec) := (45,fnSpec r15within_S) :: sp_r8is
theorem sp_r15within_ok : SpecsOk Tryz.prog sp_r15within := SpecsOk.add (fn := Tryz.f45) (by kernel_rfl) r15within_ok sp_r8is_ok
def r15tame_l0 (x : ((List I3) × ((List I2) × ((List I3) × (List I9))))) : LoopD := ⟨[],⟨pvs 41 0 [(1,.v (.one (.ptr 0 0))),(3,.v (.one (.i .i64)))],[.cells [.full 1,.full 2,.full 3,.full 4] 26,.row yy3 0,.row yy2 0,.row yy3 0,.row yy9 0],0,none,[],[1,2,3,4],[0],[.i],[.l yy3 x.1,.l yy2 x.2.1,.l yy3 x.2.2.1,.l yy9 x.2.2.2]⟩,[⟨.ret,.ret,⟨pvs 41 0 [(2,.v (.one (.b)))],[],0,none,[],[0],[],[],[.b false]⟩⟩,⟨(.exit 0),.normal,⟨pvs 41 0 [(1,.v (.one (.ptr 0 0)))],[.cells [.full 1,.full 2,.full 3,.full 4] 26,.row yy3 0,.row yy2 0,.row yy3 0,.row yy9 0],0,none,[],[0,1,2,3],[],[],[.l yy3 x.1,.l yy2 x.2.1,.l yy3 x.2.2.1,.l yy9 x.2.2.2]⟩⟩]⟩
def r15tame_l0_step (x : ((List I3) × ((List I2) × ((List I3) × (List I9))))) (s:Int) : Int ⊕ (Unit ⊕ Unit) :=
 (if (s < (x.1.length:Int)) then
 (letV (r15within (List.getD x.1 (Int.toNat s) ((0:Int),((0:Int),(0:Int)))).1) fun y =>
 (if ((!y) = true) then
 (Sum.inr (Sum.inl ())) else
 (letV (r15within (List.getD x.1 (Int.toNat s) ((0:Int),((0:Int),(0:Int)))).2.1) fun y_1 =>
 (if ((!y_1) = true) then
 (Sum.inr (Sum.inl ())) else
 (letV (r15within (List.getD x.1 (Int.toNat s) ((0:Int),((0:Int),(0:Int)))).2.2) fun y_2 =>
 (if ((!y_2) = true) then
 (Sum.inr (Sum.inl ())) else
 (Sum.inl (w64 (s + (1:Int)))))))))) else
 (Sum.inr (Sum.inr (()))))
def r15tame_l0_pre (x : ((List I3) × ((List I2) × ((List I3) × (List I9))))) (s:Int) : Prop :=
 ((s < (x.1.length:Int)) →
 ((((0:Int) ≤ s) ∧ (s < (x.1.length:Int))) ∧
 (((Int.toNat s) < (List.length x.1)) ∧
 (((Int.toNat s) < (List.length x.1)) ∧
 (((Int.toNat s) < (List.length x.1)) ∧
 (letP (r15within (List.getD x.1 (Int.toNat s) ((0:Int),((0:Int),(0:Int)))).1) fun y =>
 (¬ ((!y) = true) →
 ((((0:Int) ≤ s) ∧ (s < (x.1.length:Int))) ∧
 (((Int.toNat s) < (List.length x.1)) ∧
 (((Int.toNat s) < (List.length x.1)) ∧
 (((Int.toNat s) < (List.length x.1)) ∧
 (letP (r15within (List.getD x.1 (Int.toNat s) ((0:Int),((0:Int),(0:Int)))).2.1) fun y_1 =>
 (¬ ((!y_1) = true) →
 ((((0:Int) ≤ s) ∧ (s < (x.1.length:Int))) ∧
 (((Int.toNat s) < (List.length x.1)) ∧
 (((Int.toNat s) < (List.length x.1)) ∧
 ((Int.toNat s) < (List.length x.1))))))))))))))))))
def r15tame_l0_t (x : ((List I3) × ((List I2) × ((List I3) × (List I9))))) (s:Int) : Tr (Int ⊕ (Unit ⊕ Unit)) true :=
 (.i10 (s < (nL x.1))
 (.oI3 s x.1
 (.fn0 r15within_S (gT x.1 s zz3).1 trivial fun y =>
 (.b01 (!y)
 (.ret (.inr (Sum.inl ())))
 (.oI3 s x.1
 (.fn0 r15within_S (gT x.1 s zz3).2.1 trivial fun y_1 =>
 (.b01 (!y_1)
 (.ret (.inr (Sum.inl ())))
 (.oI3 s x.1
 (.fn0 r15within_S (gT x.1 s zz3).2.2 trivial fun y_2 =>
 (.b00 (!y_2)
 (.ret (.inr (Sum.inl ())))
 (.ret (.inl (w1 s))))))))))))
 (.ret (.inr (Sum.inr (())))))
def r15tame (x : ((List I3) × ((List I2) × ((List I3) × (List I9))))) : Bool :=
 (letV (run (r15tame_l0_step x) (0:Int)) fun r =>
 (Sum.elim (fun a =>
 false) (fun b =>
 (letV (r8is x) fun y =>
 y)) r))
def r15tame_pre (x : ((List I3) × ((List I2) × ((List I3) × (List I9))))) : Prop :=
 (Term (r15tame_l0_step x) (r15tame_l0_pre x) (0:Int) ∧
 letP (run (r15tame_l0_step x) (0:Int)) fun r =>
 (cS r (fun a =>
 True) (fun b =>
 (r8is_pre x))))
def r15tame_t (x : ((List I3) × ((List I2) × ((List I3) × (List I9))))) : Tr Bool true :=
 (LoopD.lp (r15tame_l0 x) (r15tame_l0_t x) z0 fun r =>
 (.s01 r (fun a =>
 (.ret false)) (fun b =>
 (.fn r8is_S x fun y =>
 (.ret y)))))
abbrev r15tame_S : FnS := ⟨(.agg (Ty.prod (Ty.sl yy3) (Ty.prod (Ty.sl yy2) (Ty.prod (Ty.sl yy3) (Ty.sl yy9))))),(.one Ty.bool),r15tame_pre,r15tame⟩
theorem r15tame_ok : SpecOk Tryz.prog 18 (fnSpec r15tame_S) := SpecOk.tr r15tame_S r15tame_t (fn := Tryz.f18) tt_ok sp_r15within_ok mixed (by kernel_rfl) (ItsOk.nil _ _) (fun x => (LpsOk.tr tt_ok (SpecsOk.ctxI sp_r15within_ok (ItsOk.nil _ _)) mixed 0 (r15tame_l0 x) (r15tame_l0_t x) LpsOk.nil (by kernel_rfl) fun g s Q => (by kernel_rfl))) (fun x => (by kernel_rfl)) fun x Q => (by kernel_rfl)
def sp_r15tame : List (Nat × Ev.Spec) := (18,fnSpec r15tame_S) :: sp_r15within
theorem sp_r15tame_ok : SpecsOk Tryz.prog sp_r15tame := SpecsOk.add (fn := Tryz.f18) (by kernel_rfl) r15tame_ok sp_r15within_ok
def r15place (x : (((List I3) × ((List I2) × ((List I3) × (List I9)))) × Int)) : Bool :=
 (if (x.2 ≥ (0:Int)) then
 (decide (x.2 < (x.1.2.2.2.length:Int))) else
 false)
def r15place_pre (_ : (((List I3) × ((List I2) × ((List I3) × (List I9)))) × Int)) : Prop := True
def r15place_t (x : (((List I3) × ((List I2) × ((List I3) × (List I9)))) × Int)) : Tr Bool false :=
 (.i00 (x.2 ≥ z0)
 (.ret (decide (x.2 < (nL x.1.2.2.2))))
 (.ret false))
abbrev r15place_S : FnS := ⟨(.pair (.agg (Ty.prod (Ty.sl yy3) (Ty.prod (Ty.sl yy2) (Ty.prod (Ty.sl yy3) (Ty.sl yy9))))) (.one yi)),(.one Ty.bool),r15place_pre,r15place⟩
theorem r15place_ok : SpecOk Tryz.prog 24 (fnSpec r15place_S) := SpecOk.tr r15place_S r15place_t (fn := Tryz.f24) tt_ok sp_r15tame_ok mixed (by kernel_rfl) (ItsOk.nil _ _) (fun x => LpsOk.nil) (fun x => (by kernel_rfl)) fun x Q => (by kernel_rfl)
def sp_r15place : List (Nat × Ev.Spec) := (24,fnSpec r15place_S) :: sp_r15tame
theorem sp_r15place_ok : SpecsOk Tryz.prog sp_r15place := SpecsOk.add (fn := Tryz.f24) (by kernel_rfl) r15place_ok sp_r15tame_ok
def r15points (x : (((List I3) × ((List I2) × ((List I3) × (List I9)))) × Int)) : I9 :=
 ((List.getD x.1.1 (Int.toNat (List.getD x.1.2.2.2 (Int.toNat x.2) (((0:Int),((0:Int),(0:Int))),(((0:Int),((0:Int),(0:Int))),((0:Int),((0:Int),(0:Int)))))).1.1) ((0:Int),((0:Int),(0:Int)))),((List.getD x.1.1 (Int.toNat (List.getD x.1.2.2.2 (Int.toNat x.2) (((0:Int),((0:Int),(0:Int))),(((0:Int),((0:Int),(0:Int))),((0:Int),((0:Int),(0:Int)))))).2.1.1) ((0:Int),((0:Int),(0:Int)))),(List.getD x.1.1 (Int.toNat (List.getD x.1.2.2.2 (Int.toNat x.2) (((0:Int),((0:Int),(0:Int))),(((0:Int),((0:Int),(0:Int))),((0:Int),((0:Int),(0:Int)))))).2.2.1) ((0:Int),((0:Int),(0:Int))))))
def r15points_pre (x : (((List I3) × ((List I2) × ((List I3) × (List I9)))) × Int)) : Prop :=
 ((((0:Int) ≤ x.2) ∧ (x.2 < (x.1.2.2.2.length:Int))) ∧
 (((Int.toNat x.2) < (List.length x.1.2.2.2)) ∧
 (((Int.toNat x.2) < (List.length x.1.2.2.2)) ∧
 ((((0:Int) ≤ (List.getD x.1.2.2.2 (Int.toNat x.2) (((0:Int),((0:Int),(0:Int))),(((0:Int),((0:Int),(0:Int))),((0:Int),((0:Int),(0:Int)))))).1.1) ∧ ((List.getD x.1.2.2.2 (Int.toNat x.2) (((0:Int),((0:Int),(0:Int))),(((0:Int),((0:Int),(0:Int))),((0:Int),((0:Int),(0:Int)))))).1.1 < (x.1.1.length:Int))) ∧
 (((Int.toNat (List.getD x.1.2.2.2 (Int.toNat x.2) (((0:Int),((0:Int),(0:Int))),(((0:Int),((0:Int),(0:Int))),((0:Int),((0:Int),(0:Int)))))).1.1) < (List.length x.1.1)) ∧
 (((Int.toNat (List.getD x.1.2.2.2 (Int.toNat x.2) (((0:Int),((0:Int),(0:Int))),(((0:Int),((0:Int),(0:Int))),((0:Int),((0:Int),(0:Int)))))).1.1) < (List.length x.1.1)) ∧
 ((((0:Int) ≤ (List.getD x.1.2.2.2 (Int.toNat x.2) (((0:Int),((0:Int),(0:Int))),(((0:Int),((0:Int),(0:Int))),((0:Int),((0:Int),(0:Int)))))).2.1.1) ∧ ((List.getD x.1.2.2.2 (Int.toNat x.2) (((0:Int),((0:Int),(0:Int))),(((0:Int),((0:Int),(0:Int))),((0:Int),((0:Int),(0:Int)))))).2.1.1 < (x.1.1.length:Int))) ∧
 (((Int.toNat (List.getD x.1.2.2.2 (Int.toNat x.2) (((0:Int),((0:Int),(0:Int))),(((0:Int),((0:Int),(0:Int))),((0:Int),((0:Int),(0:Int)))))).2.1.1) < (List.length x.1.1)) ∧
 (((Int.toNat (List.getD x.1.2.2.2 (Int.toNat x.2) (((0:Int),((0:Int),(0:Int))),(((0:Int),((0:Int),(0:Int))),((0:Int),((0:Int),(0:Int)))))).2.1.1) < (List.length x.1.1)) ∧
 ((((0:Int) ≤ (List.getD x.1.2.2.2 (Int.toNat x.2) (((0:Int),((0:Int),(0:Int))),(((0:Int),((0:Int),(0:Int))),((0:Int),((0:Int),(0:Int)))))).2.2.1) ∧ ((List.getD x.1.2.2.2 (Int.toNat x.2) (((0:Int),((0:Int),(0:Int))),(((0:Int),((0:Int),(0:Int))),((0:Int),((0:Int),(0:Int)))))).2.2.1 < (x.1.1.length:Int))) ∧
 (((Int.toNat (List.getD x.1.2.2.2 (Int.toNat x.2) (((0:Int),((0:Int),(0:Int))),(((0:Int),((0:Int),(0:Int))),((0:Int),((0:Int),(0:Int)))))).2.2.1) < (List.length x.1.1)) ∧
 ((Int.toNat (List.getD x.1.2.2.2 (Int.toNat x.2) (((0:Int),((0:Int),(0:Int))),(((0:Int),((0:Int),(0:Int))),((0:Int),((0:Int),(0:Int)))))).2.2.1) < (List.length x.1.1)))))))))))))
def r15points_t (x : (((List I3) × ((List I2) × ((List I3) × (List I9)))) × Int)) : Tr I9 true :=
 (.oI2 x.2 x.1.2.2.2
 (.oI2 (gT x.1.2.2.2 x.2 zz9).1.1 x.1.1
 (.oI2 (gT x.1.2.2.2 x.2 zz9).2.1.1 x.1.1
 (.oI2 (gT x.1.2.2.2 x.2 zz9).2.2.1 x.1.1
 (.ret ((gT x.1.1 (gT x.1.2.2.2 x.2 zz9).1.1 zz3),((gT x.1.1 (gT x.1.2.2.2 x.2 zz9).2.1.1 zz3),(gT x.1.1 (gT x.1.2.2.2 x.2 zz9).2.2.1 zz3))))))))
abbrev r15points_S : FnS := ⟨(.pair (.agg (Ty.prod (Ty.sl yy3) (Ty.prod (Ty.sl yy2) (Ty.prod (Ty.sl yy3) (Ty.sl yy9))))) (.one yi)),(.agg yy9),r15points_pre,r15points⟩
theorem r15points_ok : SpecOk Tryz.prog 25 (fnSpec r15points_S) := SpecOk.tr r15points_S r15points_t (fn := Tryz.f25) tt_ok sp_r15place_ok mixed (by kernel_rfl) (ItsOk.nil _ _) (fun x => LpsOk.nil) (fun x => (by kernel_rfl)) fun x Q => (by kernel_rfl)
def sp_r15points : List (Nat × Ev.Spec) := (25,fnSpec r15points_S) :: sp_r15place
theorem sp_r15points_ok : SpecsOk Tryz.prog sp_r15points := SpecsOk.add (fn := Tryz.f25) (by kernel_rfl) r15points_ok sp_r15place_ok
def r15facing (x : (((List I3) × ((List I2) × ((List I3) × (List I9)))) × Int)) : (Int × (Int × Bool)) :=
 (letV (r15tame x.1) fun y =>
 (if ((!y) = true) then
 ((0:Int),((0:Int),false)) else
 (letV (r15place x) fun y_1 =>
 (if ((!y_1) = true) then
 ((0:Int),((0:Int),false)) else
 (letV (r15points x) fun y_2 =>
 (letV (r9facing y_2) fun y_3 =>
 (y_3.1,(y_3.2.1,(y_3.2.2 == (0:Int))))))))))
def r15facing_pre (x : (((List I3) × ((List I2) × ((List I3) × (List I9)))) × Int)) : Prop :=
 ((r15tame_pre x.1) ∧
 letP (r15tame x.1) fun y =>
 (¬ ((!y) = true) →
 (letP (r15place x) fun y_1 =>
 (¬ ((!y_1) = true) →
 ((r15points_pre x) ∧
 letP (r15points x) fun y_2 =>
 (r9facing_pre y_2))))))
def r15facing_t (x : (((List I3) × ((List I2) × ((List I3) × (List I9)))) × Int)) : Tr (Int × (Int × Bool)) true :=
 (.fn r15tame_S x.1 fun y =>
 (.b01 (!y)
 (.ret (z0,(z0,false)))
 (.fn0 r15place_S x trivial fun y_1 =>
 (.b01 (!y_1)
 (.ret (z0,(z0,false)))
 (.fn r15points_S x fun y_2 =>
 (.fn r9facing_S y_2 fun y_3 =>
 (.ret (y_3.1,(y_3.2.1,(y_3.2.2 == z0))))))))))
abbrev r15facing_S : FnS := ⟨(.pair (.agg (Ty.prod (Ty.sl yy3) (Ty.prod (Ty.sl yy2) (Ty.prod (Ty.sl yy3) (Ty.sl yy9))))) (.one yi)),(.pair (.one yi) (.pair (.one yi) (.one Ty.bool))),r15facing_pre,r15facing⟩
theorem r15facing_ok : SpecOk Tryz.prog 7 (fnSpec r15facing_S) := SpecOk.tr r15facing_S r15facing_t (fn := Tryz.f7) tt_ok sp_r15points_ok mixed (by kernel_rfl) (ItsOk.nil _ _) (fun x => LpsOk.nil) (fun x => (by kernel_rfl)) fun x Q => (by kernel_rfl)
def sp_r15facing : List (Nat × Ev.Spec) := (7,fnSpec r15facing_S) :: sp_r15points
theorem sp_r15facing_ok : SpecsOk Tryz.prog sp_r15facing := SpecsOk.add (fn := Tryz.f7) (by kernel_rfl) r15facing_ok sp_r15points_ok
def r15shadow (x : (((List I3) × ((List I2) × ((List I3) × (List I9)))) × I2)) : (I6 × Int) :=
 (letV (r15tame x.1) fun y =>
 (if ((!y) = true) then
 ((((0:Int),(0:Int)),(((0:Int),(0:Int)),((0:Int),(0:Int)))),(1:Int)) else
 (letV (r15place (x.1,x.2.1)) fun y_1 =>
 (if ((!y_1) = true) then
 ((((0:Int),(0:Int)),(((0:Int),(0:Int)),((0:Int),(0:Int)))),(1:Int)) else
 (if (x.2.2 < (0:Int)) then
 ((((0:Int),(0:Int)),(((0:Int),(0:Int)),((0:Int),(0:Int)))),(1:Int)) else
 (if (x.2.2 > (2:Int)) then
 ((((0:Int),(0:Int)),(((0:Int),(0:Int)),((0:Int),(0:Int)))),(1:Int)) else
 (letV (r15points (x.1,x.2.1)) fun y_2 =>
 (letV (r4drop (y_2.1,x.2.2)) fun y_3 =>
 (letV (r4drop (y_2.2.1,x.2.2)) fun y_4 =>
 (letV (r4drop (y_2.2.2,x.2.2)) fun y_5 =>
 ((y_3.1,(y_4.1,y_5.1)),(0:Int))))))))))))
def r15shadow_pre (x : (((List I3) × ((List I2) × ((List I3) × (List I9)))) × I2)) : Prop :=
 ((r15tame_pre x.1) ∧
 letP (r15tame x.1) fun y =>
 (¬ ((!y) = true) →
 (letP (r15place (x.1,x.2.1)) fun y_1 =>
 (¬ ((!y_1) = true) →
 (¬ (x.2.2 < (0:Int)) →
 (¬ (x.2.2 > (2:Int)) →
 (r15points_pre (x.1,x.2.1))))))))
def r15shadow_t (x : (((List I3) × ((List I2) × ((List I3) × (List I9)))) × I2)) : Tr (I6 × Int) true :=
 (.fn r15tame_S x.1 fun y =>
 (.b01 (!y)
 (.ret (zz6,z1))
 (.fn0 r15place_S (x.1,x.2.1) trivial fun y_1 =>
 (.b01 (!y_1)
 (.ret (zz6,z1))
 (.i01 (x.2.2 < z0)
 (.ret (zz6,z1))
 (.i01 (x.2.2 > (2:Int))
 (.ret (zz6,z1))
 (.fn r15points_S (x.1,x.2.1) fun y_2 =>
 (.fn0 r4drop_S (y_2.1,x.2.2) trivial fun y_3 =>
 (.fn0 r4drop_S (y_2.2.1,x.2.2) trivial fun y_4 =>
 (.fn0 r4drop_S (y_2.2.2,x.2.2) trivial fun y_5 =>
 (.ret ((y_3.1,(y_4.1,y_5.1)),z0))))))))))))
abbrev r15shadow_S : FnS := ⟨(.pair (.agg (Ty.prod (Ty.sl yy3) (Ty.prod (Ty.sl yy2) (Ty.prod (Ty.sl yy3) (Ty.sl yy9))))) (.pair (.one yi) (.one yi))),(.pair (.agg yy6) (.one yi)),r15shadow_pre,r15shadow⟩
theorem r15shadow_ok : SpecOk Tryz.prog 9 (fnSpec r15shadow_S) := SpecOk.tr r15shadow_S r15shadow_t (fn := Tryz.f9) tt_ok sp_r15facing_ok mixed (by kernel_rfl) (ItsOk.nil _ _) (fun x => LpsOk.nil) (fun x => (by kernel_rfl)) fun x Q => (by kernel_rfl)
def sp_r15shadow : List (Nat × Ev.Spec) := (9,fnSpec r15shadow_S) :: sp_r15facing
theorem sp_r15shadow_ok : SpecsOk Tryz.prog sp_r15shadow := SpecsOk.add (fn := Tryz.f9) (by kernel_rfl) r15shadow_ok sp_r15facing_ok
def r14has_l0 (x : (I9 × I2)) : LoopD := ⟨[],⟨pvs 47 0 [(1,.v (.one (.i .i64))),(2,.v (.one (.i .i64))),(3,.v (.one (.ptr 0 0))),(7,.v (.one (.i .i64)))],[.cells [.i .i64,.i .i64,.i .i64,.i .i64,.i .i64,.i .i64,.i .i64,.i .i64,.i .i64] 85],0,none,[],[0,1,3,4,5,6,7,8,9,10,11],[2],[.i],[.i x.2.1,.i x.2.2,.i x.1.1.1,.i x.1.1.2.1,.i x.1.1.2.2,.i x.1.2.1.1,.i x.1.2.1.2.1,.i x.1.2.1.2.2,.i x.1.2.2.1,.i x.1.2.2.2.1,.i x.1.2.2.2.2]⟩,[⟨.ret,.ret,⟨pvs 47 0 [(6,.v (.one (.b)))],[],0,none,[],[0],[],[],[.b true]⟩⟩,⟨(.exit 0),.normal,⟨pvs 47 0 [],[],0,none,[],[],[],[],[]⟩⟩]⟩
def r14has_l0_step (x : (I9 × I2)) (s:Int) : Int ⊕ (Unit ⊕ Unit) :=
 (if (s < (3:Int)) then
 (if (((List.getD [x.1.1.1,x.1.1.2.1,x.1.1.2.2,x.1.2.1.1,x.1.2.1.2.1,x.1.2.1.2.2,x.1.2.2.1,x.1.2.2.2.1,x.1.2.2.2.2] ((0 + ((Int.toNat s) * 3)) + 0) (0:Int)) != (List.getD [x.1.1.1,x.1.1.2.1,x.1.1.2.2,x.1.2.1.1,x.1.2.1.2.1,x.1.2.1.2.2,x.1.2.2.1,x.1.2.2.2.1,x.1.2.2.2.2] ((0 + ((Int.toNat (Int.tmod (w64 (s + (1:Int))) (3:Int))) * 3)) + 0) (0:Int))) = true) then
 (if (((List.getD [x.1.1.1,x.1.1.2.1,x.1.1.2.2,x.1.2.1.1,x.1.2.1.2.1,x.1.2.1.2.2,x.1.2.2.1,x.1.2.2.2.1,x.1.2.2.2.2] ((0 + ((Int.toNat s) * 3)) + 0) (0:Int)) == x.2.1) = true) then
 (if (((List.getD [x.1.1.1,x.1.1.2.1,x.1.1.2.2,x.1.2.1.1,x.1.2.1.2.1,x.1.2.1.2.2,x.1.2.2.1,x.1.2.2.2.1,x.1.2.2.2.2] ((0 + ((Int.toNat (Int.tmod (w64 (s + (1:Int))) (3:Int))) * 3)) + 0) (0:Int)) == x.2.2) = true) then
 (Sum.inr (Sum.inl ())) else
 (if (((List.getD [x.1.1.1,x.1.1.2.1,x.1.1.2.2,x.1.2.1.1,x.1.2.1.2.1,x.1.2.1.2.2,x.1.2.2.1,x.1.2.2.2.1,x.1.2.2.2.2] ((0 + ((Int.toNat s) * 3)) + 0) (0:Int)) == x.2.2) = true) then
 (if (((List.getD [x.1.1.1,x.1.1.2.1,x.1.1.2.2,x.1.2.1.1,x.1.2.1.2.1,x.1.2.1.2.2,x.1.2.2.1,x.1.2.2.2.1,x.1.2.2.2.2] ((0 + ((Int.toNat (Int.tmod (w64 (s + (1:Int))) (3:Int))) * 3)) + 0) (0:Int)) == x.2.1) = true) then
 (Sum.inr (Sum.inl ())) else
 (Sum.inl (w64 (s + (1:Int))))) else
 (Sum.inl (w64 (s + (1:Int)))))) else
 (if (((List.getD [x.1.1.1,x.1.1.2.1,x.1.1.2.2,x.1.2.1.1,x.1.2.1.2.1,x.1.2.1.2.2,x.1.2.2.1,x.1.2.2.2.1,x.1.2.2.2.2] ((0 + ((Int.toNat s) * 3)) + 0) (0:Int)) == x.2.2) = true) then
 (if (((List.getD [x.1.1.1,x.1.1.2.1,x.1.1.2.2,x.1.2.1.1,x.1.2.1.2.1,x.1.2.1.2.2,x.1.2.2.1,x.1.2.2.2.1,x.1.2.2.2.2] ((0 + ((Int.toNat (Int.tmod (w64 (s + (1:Int))) (3:Int))) * 3)) + 0) (0:Int)) == x.2.1) = true) then
 (Sum.inr (Sum.inl ())) else
 (Sum.inl (w64 (s + (1:Int))))) else
 (Sum.inl (w64 (s + (1:Int)))))) else
 (Sum.inl (w64 (s + (1:Int))))) else
 (Sum.inr (Sum.inr (()))))
def r14has_l0_pre (x : (I9 × I2)) (s:Int) : Prop :=
 ((s < (3:Int)) →
 ((((0:Int) ≤ s) ∧ (s < (3:Int))) ∧
 (((((0 + ((Int.toNat s) * 3)) + 0) + 1) ≤ 9) ∧
 ((((0:Int) ≤ (Int.tmod (w64 (s + (1:Int))) (3:Int))) ∧ ((Int.tmod (w64 (s + (1:Int))) (3:Int)) < (3:Int))) ∧
 ((((0 + ((Int.toNat (Int.tmod (w64 (s + (1:Int))) (3:Int))) * 3)) + 0) + 1) ≤ 9)))))
def r14has_l0_t (x : (I9 × I2)) (s:Int) : Tr (Int ⊕ (Unit ⊕ Unit)) true :=
 (.i10 (s < (3:Int))
 (.oR s (3:Int)
 (.od ((((0 + ((tN s) * 3)) + 0) + 1) ≤ 9)
 (.oR (Int.tmod (w1 s) (3:Int)) (3:Int)
 (.od ((((0 + ((tN (Int.tmod (w1 s) (3:Int))) * 3)) + 0) + 1) ≤ 9)
 (.b00 ((List.getD [x.1.1.1,x.1.1.2.1,x.1.1.2.2,x.1.2.1.1,x.1.2.1.2.1,x.1.2.1.2.2,x.1.2.2.1,x.1.2.2.2.1,x.1.2.2.2.2] ((0 + ((tN s) * 3)) + 0) z0) != (List.getD [x.1.1.1,x.1.1.2.1,x.1.1.2.2,x.1.2.1.1,x.1.2.1.2.1,x.1.2.1.2.2,x.1.2.2.1,x.1.2.2.2.1,x.1.2.2.2.2] ((0 + ((tN (Int.tmod (w1 s) (3:Int))) * 3)) + 0) z0))
 (.b00 ((List.getD [x.1.1.1,x.1.1.2.1,x.1.1.2.2,x.1.2.1.1,x.1.2.1.2.1,x.1.2.1.2.2,x.1.2.2.1,x.1.2.2.2.1,x.1.2.2.2.2] ((0 + ((tN s) * 3)) + 0) z0) == x.2.1)
 (.b00 ((List.getD [x.1.1.1,x.1.1.2.1,x.1.1.2.2,x.1.2.1.1,x.1.2.1.2.1,x.1.2.1.2.2,x.1.2.2.1,x.1.2.2.2.1,x.1.2.2.2.2] ((0 + ((tN (Int.tmod (w1 s) (3:Int))) * 3)) + 0) z0) == x.2.2)
 (.ret (.inr (Sum.inl ())))
 (.b00 ((List.getD [x.1.1.1,x.1.1.2.1,x.1.1.2.2,x.1.2.1.1,x.1.2.1.2.1,x.1.2.1.2.2,x.1.2.2.1,x.1.2.2.2.1,x.1.2.2.2.2] ((0 + ((tN s) * 3)) + 0) z0) == x.2.2)
 (.b00 ((List.getD [x.1.1.1,x.1.1.2.1,x.1.1.2.2,x.1.2.1.1,x.1.2.1.2.1,x.1.2.1.2.2,x.1.2.2.1,x.1.2.2.2.1,x.1.2.2.2.2] ((0 + ((tN (Int.tmod (w1 s) (3:Int))) * 3)) + 0) z0) == x.2.1)
 (.ret (.inr (Sum.inl ())))
 (.ret (.inl (w1 s))))
 (.ret (.inl (w1 s)))))
 (.b00 ((List.getD [x.1.1.1,x.1.1.2.1,x.1.1.2.2,x.1.2.1.1,x.1.2.1.2.1,x.1.2.1.2.2,x.1.2.2.1,x.1.2.2.2.1,x.1.2.2.2.2] ((0 + ((tN s) * 3)) + 0) z0) == x.2.2)
 (.b00 ((List.getD [x.1.1.1,x.1.1.2.1,x.1.1.2.2,x.1.2.1.1,x.1.2.1.2.1,x.1.2.1.2.2,x.1.2.2.1,x.1.2.2.2.1,x.1.2.2.2.2] ((0 + ((tN (Int.tmod (w1 s) (3:Int))) * 3)) + 0) z0) == x.2.1)
 (.ret (.inr (Sum.inl ())))
 (.ret (.inl (w1 s))))
 (.ret (.inl (w1 s)))))
 (.ret (.inl (w1 s))))))))
 (.ret (.inr (Sum.inr (())))))
def r14has (x : (I9 × I2)) : Bool :=
 (letV (run (r14has_l0_step x) (0:Int)) fun r =>
 (Sum.elim (fun a =>
 true) (fun b =>
 false) r))
def r14has_pre (x : (I9 × I2)) : Prop :=
 (Term (r14has_l0_step x) (r14has_l0_pre x) (0:Int))
def r14has_t (x : (I9 × I2)) : Tr Bool true :=
 (LoopD.lp (r14has_l0 x) (r14has_l0_t x) z0 fun r =>
 (.s00 r (fun a =>
 (.ret true)) (fun b =>
 (.ret false))))
abbrev r14has_S : FnS := ⟨(.pair (.agg yy9) (.pair (.one yi) (.one yi))),(.one Ty.bool),r14has_pre,r14has⟩
theorem r14has_ok : SpecOk Tryz.prog 83 (fnSpec r14has_S) := SpecOk.tr r14has_S r14has_t (fn := Tryz.f83) tt_ok sp_r15shadow_ok mixed (by kernel_rfl) (ItsOk.nil _ _) (fun x => (LpsOk.tr tt_ok (SpecsOk.ctxI sp_r15shadow_ok (ItsOk.nil _ _)) mixed 0 (r14has_l0 x) (r14has_l0_t x) LpsOk.nil (by kernel_rfl) fun g s Q => (by kernel_rfl))) (fun x => (by kernel_rfl)) fun x Q => (by kernel_rfl)
def sp_r14has : List (Nat × Ev.Spec) := (83,fnSpec r14has_S) :: sp_r15shadow
theorem sp_r14has_ok : SpecsOk Tryz.prog sp_r14has := SpecsOk.add (fn := Tryz.f83) (by kernel_rfl) r14has_ok sp_r15shadow_ok
def r14nx_l0 (x : (((List I3) × ((List I2) × ((List I3) × (List I9)))) × I2)) : LoopD := ⟨[],⟨pvs 50 0 [(2,.v (.one (.i .i64))),(3,.v (.one (.ptr 0 0))),(7,.v (.one (.ptr 5 0))),(8,.v (.one (.i .i64)))],[.cells [.full 1,.full 2,.full 3,.full 4] 26,.row yy3 0,.row yy2 0,.row yy3 0,.row yy9 0,.cells [.i .i64,.i .i64,.i .i64,.i .i64,.i .i64,.i .i64,.i .i64,.i .i64,.i .i64] 85],0,none,[],[0,2,3,4,5,6,7,8,9,10,11,12,13,14],[1],[.i],[.i x.2.2,.l yy3 x.1.1,.l yy2 x.1.2.1,.l yy3 x.1.2.2.1,.l yy9 x.1.2.2.2,.i (List.getD x.1.2.2.2 (Int.toNat x.2.1) (((0:Int),((0:Int),(0:Int))),(((0:Int),((0:Int),(0:Int))),((0:Int),((0:Int),(0:Int)))))).1.1,.i (List.getD x.1.2.2.2 (Int.toNat x.2.1) (((0:Int),((0:Int),(0:Int))),(((0:Int),((0:Int),(0:Int))),((0:Int),((0:Int),(0:Int)))))).1.2.1,.i (List.getD x.1.2.2.2 (Int.toNat x.2.1) (((0:Int),((0:Int),(0:Int))),(((0:Int),((0:Int),(0:Int))),((0:Int),((0:Int),(0:Int)))))).1.2.2,.i (List.getD x.1.2.2.2 (Int.toNat x.2.1) (((0:Int),((0:Int),(0:Int))),(((0:Int),((0:Int),(0:Int))),((0:Int),((0:Int),(0:Int)))))).2.1.1,.i (List.getD x.1.2.2.2 (Int.toNat x.2.1) (((0:Int),((0:Int),(0:Int))),(((0:Int),((0:Int),(0:Int))),((0:Int),((0:Int),(0:Int)))))).2.1.2.1,.i (List.getD x.1.2.2.2 (Int.toNat x.2.1) (((0:Int),((0:Int),(0:Int))),(((0:Int),((0:Int),(0:Int))),((0:Int),((0:Int),(0:Int)))))).2.1.2.2,.i (List.getD x.1.2.2.2 (Int.toNat x.2.1) (((0:Int),((0:Int),(0:Int))),(((0:Int),((0:Int),(0:Int))),((0:Int),((0:Int),(0:Int)))))).2.2.1,.i (List.getD x.1.2.2.2 (Int.toNat x.2.1) (((0:Int),((0:Int),(0:Int))),(((0:Int),((0:Int),(0:Int))),((0:Int),((0:Int),(0:Int)))))).2.2.2.1,.i (List.getD x.1.2.2.2 (Int.toNat x.2.1) (((0:Int),((0:Int),(0:Int))),(((0:Int),((0:Int),(0:Int))),((0:Int),((0:Int),(0:Int)))))).2.2.2.2]⟩,[⟨.ret,.ret,⟨pvs 50 0 [(6,.v (.one (.b)))],[],0,none,[],[0],[],[],[.b true]⟩⟩,⟨(.exit 0),.normal,⟨pvs 50 0 [],[],0,none,[],[],[],[],[]⟩⟩]⟩
def r14nx_l0_step (x : (((List I3) × ((List I2) × ((List I3) × (List I9)))) × I2)) (s:Int) : Int ⊕ (Unit ⊕ Unit) :=
 (if (s < (3:Int)) then
 (if (((List.getD [(List.getD x.1.2.2.2 (Int.toNat x.2.1) (((0:Int),((0:Int),(0:Int))),(((0:Int),((0:Int),(0:Int))),((0:Int),((0:Int),(0:Int)))))).1.1,(List.getD x.1.2.2.2 (Int.toNat x.2.1) (((0:Int),((0:Int),(0:Int))),(((0:Int),((0:Int),(0:Int))),((0:Int),((0:Int),(0:Int)))))).1.2.1,(List.getD x.1.2.2.2 (Int.toNat x.2.1) (((0:Int),((0:Int),(0:Int))),(((0:Int),((0:Int),(0:Int))),((0:Int),((0:Int),(0:Int)))))).1.2.2,(List.getD x.1.2.2.2 (Int.toNat x.2.1) (((0:Int),((0:Int),(0:Int))),(((0:Int),((0:Int),(0:Int))),((0:Int),((0:Int),(0:Int)))))).2.1.1,(List.getD x.1.2.2.2 (Int.toNat x.2.1) (((0:Int),((0:Int),(0:Int))),(((0:Int),((0:Int),(0:Int))),((0:Int),((0:Int),(0:Int)))))).2.1.2.1,(List.getD x.1.2.2.2 (Int.toNat x.2.1) (((0:Int),((0:Int),(0:Int))),(((0:Int),((0:Int),(0:Int))),((0:Int),((0:Int),(0:Int)))))).2.1.2.2,(List.getD x.1.2.2.2 (Int.toNat x.2.1) (((0:Int),((0:Int),(0:Int))),(((0:Int),((0:Int),(0:Int))),((0:Int),((0:Int),(0:Int)))))).2.2.1,(List.getD x.1.2.2.2 (Int.toNat x.2.1) (((0:Int),((0:Int),(0:Int))),(((0:Int),((0:Int),(0:Int))),((0:Int),((0:Int),(0:Int)))))).2.2.2.1,(List.getD x.1.2.2.2 (Int.toNat x.2.1) (((0:Int),((0:Int),(0:Int))),(((0:Int),((0:Int),(0:Int))),((0:Int),((0:Int),(0:Int)))))).2.2.2.2] ((0 + ((Int.toNat s) * 3)) + 0) (0:Int)) != (List.getD [(List.getD x.1.2.2.2 (Int.toNat x.2.1) (((0:Int),((0:Int),(0:Int))),(((0:Int),((0:Int),(0:Int))),((0:Int),((0:Int),(0:Int)))))).1.1,(List.getD x.1.2.2.2 (Int.toNat x.2.1) (((0:Int),((0:Int),(0:Int))),(((0:Int),((0:Int),(0:Int))),((0:Int),((0:Int),(0:Int)))))).1.2.1,(List.getD x.1.2.2.2 (Int.toNat x.2.1) (((0:Int),((0:Int),(0:Int))),(((0:Int),((0:Int),(0:Int))),((0:Int),((0:Int),(0:Int)))))).1.2.2,(List.getD x.1.2.2.2 (Int.toNat x.2.1) (((0:Int),((0:Int),(0:Int))),(((0:Int),((0:Int),(0:Int))),((0:Int),((0:Int),(0:Int)))))).2.1.1,(List.getD x.1.2.2.2 (Int.toNat x.2.1) (((0:Int),((0:Int),(0:Int))),(((0:Int),((0:Int),(0:Int))),((0:Int),((0:Int),(0:Int)))))).2.1.2.1,(List.getD x.1.2.2.2 (Int.toNat x.2.1) (((0:Int),((0:Int),(0:Int))),(((0:Int),((0:Int),(0:Int))),((0:Int),((0:Int),(0:Int)))))).2.1.2.2,(List.getD x.1.2.2.2 (Int.toNat x.2.1) (((0:Int),((0:Int),(0:Int))),(((0:Int),((0:Int),(0:Int))),((0:Int),((0:Int),(0:Int)))))).2.2.1,(List.getD x.1.2.2.2 (Int.toNat x.2.1) (((0:Int),((0:Int),(0:Int))),(((0:Int),((0:Int),(0:Int))),((0:Int),((0:Int),(0:Int)))))).2.2.2.1,(List.getD x.1.2.2.2 (Int.toNat x.2.1) (((0:Int),((0:Int),(0:Int))),(((0:Int),((0:Int),(0:Int))),((0:Int),((0:Int),(0:Int)))))).2.2.2.2] ((0 + ((Int.toNat (Int.tmod (w64 (s + (1:Int))) (3:Int))) * 3)) + 0) (0:Int))) = true) then
 (letV (r14has ((List.getD x.1.2.2.2 (Int.toNat x.2.2) (((0:Int),((0:Int),(0:Int))),(((0:Int),((0:Int),(0:Int))),((0:Int),((0:Int),(0:Int)))))),((List.getD [(List.getD x.1.2.2.2 (Int.toNat x.2.1) (((0:Int),((0:Int),(0:Int))),(((0:Int),((0:Int),(0:Int))),((0:Int),((0:Int),(0:Int)))))).1.1,(List.getD x.1.2.2.2 (Int.toNat x.2.1) (((0:Int),((0:Int),(0:Int))),(((0:Int),((0:Int),(0:Int))),((0:Int),((0:Int),(0:Int)))))).1.2.1,(List.getD x.1.2.2.2 (Int.toNat x.2.1) (((0:Int),((0:Int),(0:Int))),(((0:Int),((0:Int),(0:Int))),((0:Int),((0:Int),(0:Int)))))).1.2.2,(List.getD x.1.2.2.2 (Int.toNat x.2.1) (((0:Int),((0:Int),(0:Int))),(((0:Int),((0:Int),(0:Int))),((0:Int),((0:Int),(0:Int)))))).2.1.1,(List.getD x.1.2.2.2 (Int.toNat x.2.1) (((0:Int),((0:Int),(0:Int))),(((0:Int),((0:Int),(0:Int))),((0:Int),((0:Int),(0:Int)))))).2.1.2.1,(List.getD x.1.2.2.2 (Int.toNat x.2.1) (((0:Int),((0:Int),(0:Int))),(((0:Int),((0:Int),(0:Int))),((0:Int),((0:Int),(0:Int)))))).2.1.2.2,(List.getD x.1.2.2.2 (Int.toNat x.2.1) (((0:Int),((0:Int),(0:Int))),(((0:Int),((0:Int),(0:Int))),((0:Int),((0:Int),(0:Int)))))).2.2.1,(List.getD x.1.2.2.2 (Int.toNat x.2.1) (((0:Int),((0:Int),(0:Int))),(((0:Int),((0:Int),(0:Int))),((0:Int),((0:Int),(0:Int)))))).2.2.2.1,(List.getD x.1.2.2.2 (Int.toNat x.2.1) (((0:Int),((0:Int),(0:Int))),(((0:Int),((0:Int),(0:Int))),((0:Int),((0:Int),(0:Int)))))).2.2.2.2] ((0 + ((Int.toNat s) * 3)) + 0) (0:Int)),(List.getD [(List.getD x.1.2.2.2 (Int.toNat x.2.1) (((0:Int),((0:Int),(0:Int))),(((0:Int),((0:Int),(0:Int))),((0:Int),((0:Int),(0:Int)))))).1.1,(List.getD x.1.2.2.2 (Int.toNat x.2.1) (((0:Int),((0:Int),(0:Int))),(((0:Int),((0:Int),(0:Int))),((0:Int),((0:Int),(0:Int)))))).1.2.1,(List.getD x.1.2.2.2 (Int.toNat x.2.1) (((0:Int),((0:Int),(0:Int))),(((0:Int),((0:Int),(0:Int))),((0:Int),((0:Int),(0:Int)))))).1.2.2,(List.getD x.1.2.2.2 (Int.toNat x.2.1) (((0:Int),((0:Int),(0:Int))),(((0:Int),((0:Int),(0:Int))),((0:Int),((0:Int),(0:Int)))))).2.1.1,(List.getD x.1.2.2.2 (Int.toNat x.2.1) (((0:Int),((0:Int),(0:Int))),(((0:Int),((0:Int),(0:Int))),((0:Int),((0:Int),(0:Int)))))).2.1.2.1,(List.getD x.1.2.2.2 (Int.toNat x.2.1) (((0:Int),((0:Int),(0:Int))),(((0:Int),((0:Int),(0:Int))),((0:Int),((0:Int),(0:Int)))))).2.1.2.2,(List.getD x.1.2.2.2 (Int.toNat x.2.1) (((0:Int),((0:Int),(0:Int))),(((0:Int),((0:Int),(0:Int))),((0:Int),((0:Int),(0:Int)))))).2.2.1,(List.getD x.1.2.2.2 (Int.toNat x.2.1) (((0:Int),((0:Int),(0:Int))),(((0:Int),((0:Int),(0:Int))),((0:Int),((0:Int),(0:Int)))))).2.2.2.1,(List.getD x.1.2.2.2 (Int.toNat x.2.1) (((0:Int),((0:Int),(0:Int))),(((0:Int),((0:Int),(0:Int))),((0:Int),((0:Int),(0:Int)))))).2.2.2.2] ((0 + ((Int.toNat (Int.tmod (w64 (s + (1:Int))) (3:Int))) * 3)) + 0) (0:Int))))) fun y =>
 (if (y = true) then
 (Sum.inr (Sum.inl ())) else
 (Sum.inl (w64 (s + (1:Int)))))) else
 (Sum.inl (w64 (s + (1:Int))))) else
 (Sum.inr (Sum.inr (()))))
def r14nx_l0_pre (x : (((List I3) × ((List I2) × ((List I3) × (List I9)))) × I2)) (s:Int) : Prop :=
 ((s < (3:Int)) →
 ((((0:Int) ≤ s) ∧ (s < (3:Int))) ∧
 (((((0 + ((Int.toNat s) * 3)) + 0) + 1) ≤ 9) ∧
 ((((0:Int) ≤ (Int.tmod (w64 (s + (1:Int))) (3:Int))) ∧ ((Int.tmod (w64 (s + (1:Int))) (3:Int)) < (3:Int))) ∧
 (((((0 + ((Int.toNat (Int.tmod (w64 (s + (1:Int))) (3:Int))) * 3)) + 0) + 1) ≤ 9) ∧
 ((((List.getD [(List.getD x.1.2.2.2 (Int.toNat x.2.1) (((0:Int),((0:Int),(0:Int))),(((0:Int),((0:Int),(0:Int))),((0:Int),((0:Int),(0:Int)))))).1.1,(List.getD x.1.2.2.2 (Int.toNat x.2.1) (((0:Int),((0:Int),(0:Int))),(((0:Int),((0:Int),(0:Int))),((0:Int),((0:Int),(0:Int)))))).1.2.1,(List.getD x.1.2.2.2 (Int.toNat x.2.1) (((0:Int),((0:Int),(0:Int))),(((0:Int),((0:Int),(0:Int))),((0:Int),((0:Int),(0:Int)))))).1.2.2,(List.getD x.1.2.2.2 (Int.toNat x.2.1) (((0:Int),((0:Int),(0:Int))),(((0:Int),((0:Int),(0:Int))),((0:Int),((0:Int),(0:Int)))))).2.1.1,(List.getD x.1.2.2.2 (Int.toNat x.2.1) (((0:Int),((0:Int),(0:Int))),(((0:Int),((0:Int),(0:Int))),((0:Int),((0:Int),(0:Int)))))).2.1.2.1,(List.getD x.1.2.2.2 (Int.toNat x.2.1) (((0:Int),((0:Int),(0:Int))),(((0:Int),((0:Int),(0:Int))),((0:Int),((0:Int),(0:Int)))))).2.1.2.2,(List.getD x.1.2.2.2 (Int.toNat x.2.1) (((0:Int),((0:Int),(0:Int))),(((0:Int),((0:Int),(0:Int))),((0:Int),((0:Int),(0:Int)))))).2.2.1,(List.getD x.1.2.2.2 (Int.toNat x.2.1) (((0:Int),((0:Int),(0:Int))),(((0:Int),((0:Int),(0:Int))),((0:Int),((0:Int),(0:Int)))))).2.2.2.1,(List.getD x.1.2.2.2 (Int.toNat x.2.1) (((0:Int),((0:Int),(0:Int))),(((0:Int),((0:Int),(0:Int))),((0:Int),((0:Int),(0:Int)))))).2.2.2.2] ((0 + ((Int.toNat s) * 3)) + 0) (0:Int)) != (List.getD [(List.getD x.1.2.2.2 (Int.toNat x.2.1) (((0:Int),((0:Int),(0:Int))),(((0:Int),((0:Int),(0:Int))),((0:Int),((0:Int),(0:Int)))))).1.1,(List.getD x.1.2.2.2 (Int.toNat x.2.1) (((0:Int),((0:Int),(0:Int))),(((0:Int),((0:Int),(0:Int))),((0:Int),((0:Int),(0:Int)))))).1.2.1,(List.getD x.1.2.2.2 (Int.toNat x.2.1) (((0:Int),((0:Int),(0:Int))),(((0:Int),((0:Int),(0:Int))),((0:Int),((0:Int),(0:Int)))))).1.2.2,(List.getD x.1.2.2.2 (Int.toNat x.2.1) (((0:Int),((0:Int),(0:Int))),(((0:Int),((0:Int),(0:Int))),((0:Int),((0:Int),(0:Int)))))).2.1.1,(List.getD x.1.2.2.2 (Int.toNat x.2.1) (((0:Int),((0:Int),(0:Int))),(((0:Int),((0:Int),(0:Int))),((0:Int),((0:Int),(0:Int)))))).2.1.2.1,(List.getD x.1.2.2.2 (Int.toNat x.2.1) (((0:Int),((0:Int),(0:Int))),(((0:Int),((0:Int),(0:Int))),((0:Int),((0:Int),(0:Int)))))).2.1.2.2,(List.getD x.1.2.2.2 (Int.toNat x.2.1) (((0:Int),((0:Int),(0:Int))),(((0:Int),((0:Int),(0:Int))),((0:Int),((0:Int),(0:Int)))))).2.2.1,(List.getD x.1.2.2.2 (Int.toNat x.2.1) (((0:Int),((0:Int),(0:Int))),(((0:Int),((0:Int),(0:Int))),((0:Int),((0:Int),(0:Int)))))).2.2.2.1,(List.getD x.1.2.2.2 (Int.toNat x.2.1) (((0:Int),((0:Int),(0:Int))),(((0:Int),((0:Int),(0:Int))),((0:Int),((0:Int),(0:Int)))))).2.2.2.2] ((0 + ((Int.toNat (Int.tmod (w64 (s + (1:Int))) (3:Int))) * 3)) + 0) (0:Int))) = true) →
 ((((0:Int) ≤ x.2.2) ∧ (x.2.2 < (x.1.2.2.2.length:Int))) ∧
 (((Int.toNat x.2.2) < (List.length x.1.2.2.2)) ∧
 (((Int.toNat x.2.2) < (List.length x.1.2.2.2)) ∧
 ((((0:Int) ≤ s) ∧ (s < (3:Int))) ∧
 (((((0 + ((Int.toNat s) * 3)) + 0) + 1) ≤ 9) ∧
 ((((0:Int) ≤ (Int.tmod (w64 (s + (1:Int))) (3:Int))) ∧ ((Int.tmod (w64 (s + (1:Int))) (3:Int)) < (3:Int))) ∧
 (((((0 + ((Int.toNat (Int.tmod (w64 (s + (1:Int))) (3:Int))) * 3)) + 0) + 1) ≤ 9) ∧
 (r14has_pre ((List.getD x.1.2.2.2 (Int.toNat x.2.2) (((0:Int),((0:Int),(0:Int))),(((0:Int),((0:Int),(0:Int))),((0:Int),((0:Int),(0:Int)))))),((List.getD [(List.getD x.1.2.2.2 (Int.toNat x.2.1) (((0:Int),((0:Int),(0:Int))),(((0:Int),((0:Int),(0:Int))),((0:Int),((0:Int),(0:Int)))))).1.1,(List.getD x.1.2.2.2 (Int.toNat x.2.1) (((0:Int),((0:Int),(0:Int))),(((0:Int),((0:Int),(0:Int))),((0:Int),((0:Int),(0:Int)))))).1.2.1,(List.getD x.1.2.2.2 (Int.toNat x.2.1) (((0:Int),((0:Int),(0:Int))),(((0:Int),((0:Int),(0:Int))),((0:Int),((0:Int),(0:Int)))))).1.2.2,(List.getD x.1.2.2.2 (Int.toNat x.2.1) (((0:Int),((0:Int),(0:Int))),(((0:Int),((0:Int),(0:Int))),((0:Int),((0:Int),(0:Int)))))).2.1.1,(List.getD x.1.2.2.2 (Int.toNat x.2.1) (((0:Int),((0:Int),(0:Int))),(((0:Int),((0:Int),(0:Int))),((0:Int),((0:Int),(0:Int)))))).2.1.2.1,(List.getD x.1.2.2.2 (Int.toNat x.2.1) (((0:Int),((0:Int),(0:Int))),(((0:Int),((0:Int),(0:Int))),((0:Int),((0:Int),(0:Int)))))).2.1.2.2,(List.getD x.1.2.2.2 (Int.toNat x.2.1) (((0:Int),((0:Int),(0:Int))),(((0:Int),((0:Int),(0:Int))),((0:Int),((0:Int),(0:Int)))))).2.2.1,(List.getD x.1.2.2.2 (Int.toNat x.2.1) (((0:Int),((0:Int),(0:Int))),(((0:Int),((0:Int),(0:Int))),((0:Int),((0:Int),(0:Int)))))).2.2.2.1,(List.getD x.1.2.2.2 (Int.toNat x.2.1) (((0:Int),((0:Int),(0:Int))),(((0:Int),((0:Int),(0:Int))),((0:Int),((0:Int),(0:Int)))))).2.2.2.2] ((0 + ((Int.toNat s) * 3)) + 0) (0:Int)),(List.getD [(List.getD x.1.2.2.2 (Int.toNat x.2.1) (((0:Int),((0:Int),(0:Int))),(((0:Int),((0:Int),(0:Int))),((0:Int),((0:Int),(0:Int)))))).1.1,(List.getD x.1.2.2.2 (Int.toNat x.2.1) (((0:Int),((0:Int),(0:Int))),(((0:Int),((0:Int),(0:Int))),((0:Int),((0:Int),(0:Int)))))).1.2.1,(List.getD x.1.2.2.2 (Int.toNat x.2.1) (((0:Int),((0:Int),(0:Int))),(((0:Int),((0:Int),(0:Int))),((0:Int),((0:Int),(0:Int)))))).1.2.2,(List.getD x.1.2.2.2 (Int.toNat x.2.1) (((0:Int),((0:Int),(0:Int))),(((0:Int),((0:Int),(0:Int))),((0:Int),((0:Int),(0:Int)))))).2.1.1,(List.getD x.1.2.2.2 (Int.toNat x.2.1) (((0:Int),((0:Int),(0:Int))),(((0:Int),((0:Int),(0:Int))),((0:Int),((0:Int),(0:Int)))))).2.1.2.1,(List.getD x.1.2.2.2 (Int.toNat x.2.1) (((0:Int),((0:Int),(0:Int))),(((0:Int),((0:Int),(0:Int))),((0:Int),((0:Int),(0:Int)))))).2.1.2.2,(List.getD x.1.2.2.2 (Int.toNat x.2.1) (((0:Int),((0:Int),(0:Int))),(((0:Int),((0:Int),(0:Int))),((0:Int),((0:Int),(0:Int)))))).2.2.1,(List.getD x.1.2.2.2 (Int.toNat x.2.1) (((0:Int),((0:Int),(0:Int))),(((0:Int),((0:Int),(0:Int))),((0:Int),((0:Int),(0:Int)))))).2.2.2.1,(List.getD x.1.2.2.2 (Int.toNat x.2.1) (((0:Int),((0:Int),(0:Int))),(((0:Int),((0:Int),(0:Int))),((0:Int),((0:Int),(0:Int)))))).2.2.2.2] ((0 + ((Int.toNat (Int.tmod (w64 (s + (1:Int))) (3:Int))) * 3)) + 0) (0:Int))))))))))))))))))
def r14nx_l0_t (x : (((List I3) × ((List I2) × ((List I3) × (List I9)))) × I2)) (s:Int) : Tr (Int ⊕ (Unit ⊕ Unit)) true :=
 (.i10 (s < (3:Int))
 (.oR s (3:Int)
 (.od ((((0 + ((tN s) * 3)) + 0) + 1) ≤ 9)
 (.oR (Int.tmod (w1 s) (3:Int)) (3:Int)
 (.od ((((0 + ((tN (Int.tmod (w1 s) (3:Int))) * 3)) + 0) + 1) ≤ 9)
 (.b10 ((List.getD [(gT x.1.2.2.2 x.2.1 zz9).1.1,(gT x.1.2.2.2 x.2.1 zz9).1.2.1,(gT x.1.2.2.2 x.2.1 zz9).1.2.2,(gT x.1.2.2.2 x.2.1 zz9).2.1.1,(gT x.1.2.2.2 x.2.1 zz9).2.1.2.1,(gT x.1.2.2.2 x.2.1 zz9).2.1.2.2,(gT x.1.2.2.2 x.2.1 zz9).2.2.1,(gT x.1.2.2.2 x.2.1 zz9).2.2.2.1,(gT x.1.2.2.2 x.2.1 zz9).2.2.2.2] ((0 + ((tN s) * 3)) + 0) z0) != (List.getD [(gT x.1.2.2.2 x.2.1 zz9).1.1,(gT x.1.2.2.2 x.2.1 zz9).1.2.1,(gT x.1.2.2.2 x.2.1 zz9).1.2.2,(gT x.1.2.2.2 x.2.1 zz9).2.1.1,(gT x.1.2.2.2 x.2.1 zz9).2.1.2.1,(gT x.1.2.2.2 x.2.1 zz9).2.1.2.2,(gT x.1.2.2.2 x.2.1 zz9).2.2.1,(gT x.1.2.2.2 x.2.1 zz9).2.2.2.1,(gT x.1.2.2.2 x.2.1 zz9).2.2.2.2] ((0 + ((tN (Int.tmod (w1 s) (3:Int))) * 3)) + 0) z0))
 (.oI2 x.2.2 x.1.2.2.2
 (.oR s (3:Int)
 (.od ((((0 + ((tN s) * 3)) + 0) + 1) ≤ 9)
 (.oR (Int.tmod (w1 s) (3:Int)) (3:Int)
 (.od ((((0 + ((tN (Int.tmod (w1 s) (3:Int))) * 3)) + 0) + 1) ≤ 9)
 (.fn r14has_S ((gT x.1.2.2.2 x.2.2 zz9),((List.getD [(gT x.1.2.2.2 x.2.1 zz9).1.1,(gT x.1.2.2.2 x.2.1 zz9).1.2.1,(gT x.1.2.2.2 x.2.1 zz9).1.2.2,(gT x.1.2.2.2 x.2.1 zz9).2.1.1,(gT x.1.2.2.2 x.2.1 zz9).2.1.2.1,(gT x.1.2.2.2 x.2.1 zz9).2.1.2.2,(gT x.1.2.2.2 x.2.1 zz9).2.2.1,(gT x.1.2.2.2 x.2.1 zz9).2.2.2.1,(gT x.1.2.2.2 x.2.1 zz9).2.2.2.2] ((0 + ((tN s) * 3)) + 0) z0),(List.getD [(gT x.1.2.2.2 x.2.1 zz9).1.1,(gT x.1.2.2.2 x.2.1 zz9).1.2.1,(gT x.1.2.2.2 x.2.1 zz9).1.2.2,(gT x.1.2.2.2 x.2.1 zz9).2.1.1,(gT x.1.2.2.2 x.2.1 zz9).2.1.2.1,(gT x.1.2.2.2 x.2.1 zz9).2.1.2.2,(gT x.1.2.2.2 x.2.1 zz9).2.2.1,(gT x.1.2.2.2 x.2.1 zz9).2.2.2.1,(gT x.1.2.2.2 x.2.1 zz9).2.2.2.2] ((0 + ((tN (Int.tmod (w1 s) (3:Int))) * 3)) + 0) z0))) fun y =>
 (.b00 y
 (.ret (.inr (Sum.inl ())))
 (.ret (.inl (w1 s))))))))))
 (.ret (.inl (w1 s))))))))
 (.ret (.inr (Sum.inr (())))))
def r14nx (x : (((List I3) × ((List I2) × ((List I3) × (List I9)))) × I2)) : Bool :=
 (if ((x.2.1 == x.2.2) = true) then
 false else
 (letV (run (r14nx_l0_step x) (0:Int)) fun r =>
 (Sum.elim (fun a =>
 true) (fun b =>
 false) r)))
def r14nx_pre (x : (((List I3) × ((List I2) × ((List I3) × (List I9)))) × I2)) : Prop :=
 (¬ ((x.2.1 == x.2.2) = true) →
 ((((0:Int) ≤ x.2.1) ∧ (x.2.1 < (x.1.2.2.2.length:Int))) ∧
 (((Int.toNat x.2.1) < (List.length x.1.2.2.2)) ∧
 (((Int.toNat x.2.1) < (List.length x.1.2.2.2)) ∧
 (Term (r14nx_l0_step x) (r14nx_l0_pre x) (0:Int))))))
def r14nx_t (x : (((List I3) × ((List I2) × ((List I3) × (List I9)))) × I2)) : Tr Bool true :=
 (.b01 (x.2.1 == x.2.2)
 (.ret false)
 (.oI2 x.2.1 x.1.2.2.2
 (LoopD.lp (r14nx_l0 x) (r14nx_l0_t x) z0 fun r =>
 (.s00 r (fun a =>
 (.ret true)) (fun b =>
 (.ret false))))))
abbrev r14nx_S : FnS := ⟨(.pair (.agg (Ty.prod (Ty.sl yy3) (Ty.prod (Ty.sl yy2) (Ty.prod (Ty.sl yy3) (Ty.sl yy9))))) (.pair (.one yi) (.one yi))),(.one Ty.bool),r14nx_pre,r14nx⟩
theorem r14nx_ok : SpecOk Tryz.prog 60 (fnSpec r14nx_S) := SpecOk.tr r14nx_S r14nx_t (fn := Tryz.f60) tt_ok sp_r14has_ok mixed (by kernel_rfl) (ItsOk.nil _ _) (fun x => (LpsOk.tr tt_ok (SpecsOk.ctxI sp_r14has_ok (ItsOk.nil _ _)) mixed 0 (r14nx_l0 x) (r14nx_l0_t x) LpsOk.nil (by kernel_rfl) fun g s Q => (by kernel_rfl))) (fun x => (by kernel_rfl)) fun x Q => (by kernel_rfl)
def sp_r14nx : List (Nat × Ev.Spec) := (60,fnSpec r14nx_S) :: sp_r14has
theorem sp_r14nx_ok : SpecsOk Tryz.prog sp_r14nx := SpecsOk.add (fn := Tryz.f60) (by kernel_rfl) r14nx_ok sp_r14has_ok
def r14next_l0 (x : (((List I3) × ((List I2) × ((List I3) × (List I9)))) × Int)) : LoopD := ⟨[],⟨pvs 38 0 [(1,.v (.one (.i .i64))),(2,.v (.one (.ptr 0 0))),(6,.v (.one (.full 5))),(7,.v (.one (.i .i64)))],[.cells [.full 1,.full 2,.full 3,.full 4] 26,.row yy3 0,.row yy2 0,.row yy3 0,.row yy9 0,.row yi 2],0,none,[],[0,2,3,4,5],[6,1],[(.l yi),.i],[.i x.2,.l yy3 x.1.1,.l yy2 x.1.2.1,.l yy3 x.1.2.2.1,.l yy9 x.1.2.2.2]⟩,[⟨(.exit 0),.normal,⟨pvs 38 0 [(6,.v (.one (.full 0)))],[.row yi 2],0,none,[],[],[0],[(.l yi)],[]⟩⟩]⟩
def r14next_l0_step (x : (((List I3) × ((List I2) × ((List I3) × (List I9)))) × Int)) (s : ((List Int) × Int)) : ((List Int) × Int) ⊕ (List Int) :=
 (if (s.2 < (x.1.2.2.2.length:Int)) then
 (letV (r14nx (x.1,(x.2,s.2))) fun y =>
 (if (y = true) then
 (Sum.inl ((s.1 ++ [s.2]),(w64 (s.2 + (1:Int))))) else
 (Sum.inl (s.1,(w64 (s.2 + (1:Int))))))) else
 (Sum.inr (s.1)))
def r14next_l0_pre (x : (((List I3) × ((List I2) × ((List I3) × (List I9)))) × Int)) (s : ((List Int) × Int)) : Prop :=
 ((s.2 < (x.1.2.2.2.length:Int)) →
 ((r14nx_pre (x.1,(x.2,s.2))) ∧
 letP (r14nx (x.1,(x.2,s.2))) fun y =>
 ((y = true) →
 (((List.length s.1) + 1) < 1099511627776))))
def r14next_l0_t (x : (((List I3) × ((List I2) × ((List I3) × (List I9)))) × Int)) (s : ((List Int) × Int)) : Tr (((List Int) × Int) ⊕ (List Int)) true :=
 (.i10 (s.2 < (nL x.1.2.2.2))
 (.fn r14nx_S (x.1,(x.2,s.2)) fun y =>
 (.b10 y
 (.od (((List.length s.1) + 1) < 1099511627776)
 (.ret (.inl ((s.1 ++ [s.2]),(w1 s.2)))))
 (.ret (.inl (s.1,(w1 s.2))))))
 (.ret (.inr (s.1))))
def r14next (x : (((List I3) × ((List I2) × ((List I3) × (List I9)))) × Int)) : ((List Int) × Int) :=
 (letV (r8is x.1) fun y =>
 (if ((!y) = true) then
 ([],(1:Int)) else
 (if (x.2 < (0:Int)) then
 ([],(1:Int)) else
 (if (x.2 ≥ (x.1.2.2.2.length:Int)) then
 ([],(1:Int)) else
 (letV (run (r14next_l0_step x) ([],(0:Int))) fun r =>
 (r,(0:Int)))))))
def r14next_pre (x : (((List I3) × ((List I2) × ((List I3) × (List I9)))) × Int)) : Prop :=
 ((r8is_pre x.1) ∧
 letP (r8is x.1) fun y =>
 (¬ ((!y) = true) →
 (¬ (x.2 < (0:Int)) →
 (¬ (x.2 ≥ (x.1.2.2.2.length:Int)) →
 (Term (r14next_l0_step x) (r14next_l0_pre x) ([],(0:Int)))))))
def r14next_t (x : (((List I3) × ((List I2) × ((List I3) × (List I9)))) × Int)) : Tr ((List Int) × Int) true :=
 (.fn r8is_S x.1 fun y =>
 (.b01 (!y)
 (.ret ([],z1))
 (.i01 (x.2 < z0)
 (.ret ([],z1))
 (.i01 (x.2 ≥ (nL x.1.2.2.2))
 (.ret ([],z1))
 (LoopD.lp (r14next_l0 x) (r14next_l0_t x) ([],z0) fun r =>
 (.ret (r,z0)))))))
abbrev r14next_S : FnS := ⟨(.pair (.agg (Ty.prod (Ty.sl yy3) (Ty.prod (Ty.sl yy2) (Ty.prod (Ty.sl yy3) (Ty.sl yy9))))) (.one yi)),(.pair (.one (Ty.sl yi)) (.one yi)),r14next_pre,r14next⟩
theorem r14next_ok : SpecOk Tryz.prog 40 (fnSpec r14next_S) := SpecOk.tr r14next_S r14next_t (fn := Tryz.f40) tt_ok sp_r14nx_ok mixed (by kernel_rfl) (ItsOk.nil _ _) (fun x => (LpsOk.tr tt_ok (SpecsOk.ctxI sp_r14nx_ok (ItsOk.nil _ _)) mixed 0 (r14next_l0 x) (r14next_l0_t x) LpsOk.nil (by kernel_rfl) fun g s Q => (by kernel_rfl))) (fun x => (by kernel_rfl)) fun x Q => (by kernel_rfl)
def sp_r14next : List (Nat × Ev.Spec) := (40,fnSpec r14next_S) :: sp_r14nx
theorem sp_r14next_ok : SpecsOk Tryz.prog sp_r14next := SpecsOk.add (fn := Tryz.f40) (by kernel_rfl) r14next_ok sp_r14nx_ok
def r7same_l0 (x : ((List I9) × (List I9))) : LoopD := ⟨[],⟨pvs 26 0 [(0,.v (.one (.full 0))),(1,.v (.one (.full 1))),(5,.v (.one (.i .i64)))],[.row yy9 0,.row yy9 0],0,none,[],[1,2],[0],[.i],[.l yy9 x.1,.l yy9 x.2]⟩,[⟨.ret,.ret,⟨pvs 26 0 [(4,.v (.one (.b)))],[],0,none,[],[0],[],[],[.b false]⟩⟩,⟨(.exit 0),.normal,⟨pvs 26 0 [],[],0,none,[],[],[],[],[]⟩⟩]⟩
def r7same_l0_step (x : ((List I9) × (List I9))) (s:Int) : Int ⊕ (Unit ⊕ Unit) :=
 (if (s < (x.1.length:Int)) then
 (if ((!((((List.getD x.1 (Int.toNat s) (((0:Int),((0:Int),(0:Int))),(((0:Int),((0:Int),(0:Int))),((0:Int),((0:Int),(0:Int)))))).1.1 == (List.getD x.2 (Int.toNat s) (((0:Int),((0:Int),(0:Int))),(((0:Int),((0:Int),(0:Int))),((0:Int),((0:Int),(0:Int)))))).1.1) && (((List.getD x.1 (Int.toNat s) (((0:Int),((0:Int),(0:Int))),(((0:Int),((0:Int),(0:Int))),((0:Int),((0:Int),(0:Int)))))).1.2.1 == (List.getD x.2 (Int.toNat s) (((0:Int),((0:Int),(0:Int))),(((0:Int),((0:Int),(0:Int))),((0:Int),((0:Int),(0:Int)))))).1.2.1) && (((List.getD x.1 (Int.toNat s) (((0:Int),((0:Int),(0:Int))),(((0:Int),((0:Int),(0:Int))),((0:Int),((0:Int),(0:Int)))))).1.2.2 == (List.getD x.2 (Int.toNat s) (((0:Int),((0:Int),(0:Int))),(((0:Int),((0:Int),(0:Int))),((0:Int),((0:Int),(0:Int)))))).1.2.2) && true))) && ((((List.getD x.1 (Int.toNat s) (((0:Int),((0:Int),(0:Int))),(((0:Int),((0:Int),(0:Int))),((0:Int),((0:Int),(0:Int)))))).2.1.1 == (List.getD x.2 (Int.toNat s) (((0:Int),((0:Int),(0:Int))),(((0:Int),((0:Int),(0:Int))),((0:Int),((0:Int),(0:Int)))))).2.1.1) && (((List.getD x.1 (Int.toNat s) (((0:Int),((0:Int),(0:Int))),(((0:Int),((0:Int),(0:Int))),((0:Int),((0:Int),(0:Int)))))).2.1.2.1 == (List.getD x.2 (Int.toNat s) (((0:Int),((0:Int),(0:Int))),(((0:Int),((0:Int),(0:Int))),((0:Int),((0:Int),(0:Int)))))).2.1.2.1) && (((List.getD x.1 (Int.toNat s) (((0:Int),((0:Int),(0:Int))),(((0:Int),((0:Int),(0:Int))),((0:Int),((0:Int),(0:Int)))))).2.1.2.2 == (List.getD x.2 (Int.toNat s) (((0:Int),((0:Int),(0:Int))),(((0:Int),((0:Int),(0:Int))),((0:Int),((0:Int),(0:Int)))))).2.1.2.2) && true))) && ((((List.getD x.1 (Int.toNat s) (((0:Int),((0:Int),(0:Int))),(((0:Int),((0:Int),(0:Int))),((0:Int),((0:Int),(0:Int)))))).2.2.1 == (List.getD x.2 (Int.toNat s) (((0:Int),((0:Int),(0:Int))),(((0:Int),((0:Int),(0:Int))),((0:Int),((0:Int),(0:Int)))))).2.2.1) && (((List.getD x.1 (Int.toNat s) (((0:Int),((0:Int),(0:Int))),(((0:Int),((0:Int),(0:Int))),((0:Int),((0:Int),(0:Int)))))).2.2.2.1 == (List.getD x.2 (Int.toNat s) (((0:Int),((0:Int),(0:Int))),(((0:Int),((0:Int),(0:Int))),((0:Int),((0:Int),(0:Int)))))).2.2.2.1) && (((List.getD x.1 (Int.toNat s) (((0:Int),((0:Int),(0:Int))),(((0:Int),((0:Int),(0:Int))),((0:Int),((0:Int),(0:Int)))))).2.2.2.2 == (List.getD x.2 (Int.toNat s) (((0:Int),((0:Int),(0:Int))),(((0:Int),((0:Int),(0:Int))),((0:Int),((0:Int),(0:Int)))))).2.2.2.2) && true))) && true)))) = true) then
 (Sum.inr (Sum.inl ())) else
 (Sum.inl (w64 (s + (1:Int))))) else
 (Sum.inr (Sum.inr (()))))
def r7same_l0_pre (x : ((List I9) × (List I9))) (s:Int) : Prop :=
 ((s < (x.1.length:Int)) →
 ((((0:Int) ≤ s) ∧ (s < (x.1.length:Int))) ∧
 (((Int.toNat s) < (List.length x.1)) ∧
 (((Int.toNat s) < (List.length x.1)) ∧
 ((((0:Int) ≤ s) ∧ (s < (x.2.length:Int))) ∧
 (((Int.toNat s) < (List.length x.2)) ∧
 ((Int.toNat s) < (List.length x.2))))))))
def r7same_l0_t (x : ((List I9) × (List I9))) (s:Int) : Tr (Int ⊕ (Unit ⊕ Unit)) true :=
 (.i10 (s < (nL x.1))
 (.oI2 s x.1
 (.oI2 s x.2
 (.b00 (!((((gT x.1 s zz9).1.1 == (gT x.2 s zz9).1.1) && (((gT x.1 s zz9).1.2.1 == (gT x.2 s zz9).1.2.1) && (((gT x.1 s zz9).1.2.2 == (gT x.2 s zz9).1.2.2) && true))) && ((((gT x.1 s zz9).2.1.1 == (gT x.2 s zz9).2.1.1) && (((gT x.1 s zz9).2.1.2.1 == (gT x.2 s zz9).2.1.2.1) && (((gT x.1 s zz9).2.1.2.2 == (gT x.2 s zz9).2.1.2.2) && true))) && ((((gT x.1 s zz9).2.2.1 == (gT x.2 s zz9).2.2.1) && (((gT x.1 s zz9).2.2.2.1 == (gT x.2 s zz9).2.2.2.1) && (((gT x.1 s zz9).2.2.2.2 == (gT x.2 s zz9).2.2.2.2) && true))) && true))))
 (.ret (.inr (Sum.inl ())))
 (.ret (.inl (w1 s))))))
 (.ret (.inr (Sum.inr (())))))
def r7same (x : ((List I9) × (List I9))) : Bool :=
 (if (((x.1.length:Int) != (x.2.length:Int)) = true) then
 false else
 (letV (run (r7same_l0_step x) (0:Int)) fun r =>
 (Sum.elim (fun a =>
 false) (fun b =>
 true) r)))
def r7same_pre (x : ((List I9) × (List I9))) : Prop :=
 (¬ (((x.1.length:Int) != (x.2.length:Int)) = true) →
 (Term (r7same_l0_step x) (r7same_l0_pre x) (0:Int)))
def r7same_t (x : ((List I9) × (List I9))) : Tr Bool true :=
 (.b01 ((nL x.1) != (nL x.2))
 (.ret false)
 (LoopD.lp (r7same_l0 x) (r7same_l0_t x) z0 fun r =>
 (.s00 r (fun a =>
 (.ret false)) (fun b =>
 (.ret true)))))
abbrev r7same_S : FnS := ⟨(.pair (.one (Ty.sl yy9)) (.one (Ty.sl yy9))),(.one Ty.bool),r7same_pre,r7same⟩
theorem r7same_ok : SpecOk Tryz.prog 48 (fnSpec r7same_S) := SpecOk.tr r7same_S r7same_t (fn := Tryz.f48) tt_ok sp_r14next_ok mixed (by kernel_rfl) (ItsOk.nil _ _) (fun x => (LpsOk.tr tt_ok (SpecsOk.ctxI sp_r14next_ok (ItsOk.nil _ _)) mixed 0 (r7same_l0 x) (r7same_l0_t x) LpsOk.nil (by kernel_rfl) fun g s Q => (by kernel_rfl))) (fun x => (by kernel_rfl)) fun x Q => (by kernel_rfl)
def sp_r7same : List (Nat × Ev.Spec) := (48,fnSpec r7same_S) :: sp_r14next
theorem sp_r7same_ok : SpecsOk Tryz.prog sp_r7same := SpecsOk.add (fn := Tryz.f48) (by kernel_rfl) r7same_ok sp_r14next_ok
def r8same_l0 (x : (((List I3) × ((List I2) × ((List I3) × (List I9)))) × ((List I3) × ((List I2) × ((List I3) × (List I9)))))) : LoopD := ⟨[],⟨pvs 92 0 [(2,.v (.one (.ptr 0 0))),(3,.v (.one (.ptr 5 0))),(5,.v (.one (.i .i64)))],[.cells [.full 1,.full 2,.full 3,.full 4] 26,.row yy3 0,.row yy2 0,.row yy3 0,.row yy9 0,.cells [.full 6,.full 7,.full 8,.full 9] 26,.row yy3 0,.row yy2 0,.row yy3 0,.row yy9 0],0,none,[],[1,2,3,4,5,6,7,8],[0],[.i],[.l yy3 x.1.1,.l yy2 x.1.2.1,.l yy3 x.1.2.2.1,.l yy9 x.1.2.2.2,.l yy3 x.2.1,.l yy2 x.2.2.1,.l yy3 x.2.2.2.1,.l yy9 x.2.2.2.2]⟩,[⟨.ret,.ret,⟨pvs 92 0 [(4,.v (.one (.b)))],[],0,none,[],[0],[],[],[.b false]⟩⟩,⟨(.exit 0),.normal,⟨pvs 92 0 [(2,.v (.one (.ptr 0 0))),(3,.v (.one (.ptr 5 0)))],[.cells [.full 1,.full 2,.full 3,.full 4] 26,.row yy3 0,.row yy2 0,.row yy3 0,.row yy9 0,.cells [.full 6,.full 7,.full 8,.full 9] 26,.row yy3 0,.row yy2 0,.row yy3 0,.row yy9 0],0,none,[],[0,1,2,3,4,5,6,7],[],[],[.l yy3 x.1.1,.l yy2 x.1.2.1,.l yy3 x.1.2.2.1,.l yy9 x.1.2.2.2,.l yy3 x.2.1,.l yy2 x.2.2.1,.l yy3 x.2.2.2.1,.l yy9 x.2.2.2.2]⟩⟩]⟩
def r8same_l0_step (x : (((List I3) × ((List I2) × ((List I3) × (List I9)))) × ((List I3) × ((List I2) × ((List I3) × (List I9)))))) (s:Int) : Int ⊕ (Unit ⊕ Unit) :=
 (if (s < (x.1.1.length:Int)) then
 (if ((!(((List.getD x.1.1 (Int.toNat s) ((0:Int),((0:Int),(0:Int)))).1 == (List.getD x.2.1 (Int.toNat s) ((0:Int),((0:Int),(0:Int)))).1) && (((List.getD x.1.1 (Int.toNat s) ((0:Int),((0:Int),(0:Int)))).2.1 == (List.getD x.2.1 (Int.toNat s) ((0:Int),((0:Int),(0:Int)))).2.1) && (((List.getD x.1.1 (Int.toNat s) ((0:Int),((0:Int),(0:Int)))).2.2 == (List.getD x.2.1 (Int.toNat s) ((0:Int),((0:Int),(0:Int)))).2.2) && true)))) = true) then
 (Sum.inr (Sum.inl ())) else
 (Sum.inl (w64 (s + (1:Int))))) else
 (Sum.inr (Sum.inr (()))))
def r8same_l0_pre (x : (((List I3) × ((List I2) × ((List I3) × (List I9)))) × ((List I3) × ((List I2) × ((List I3) × (List I9)))))) (s:Int) : Prop :=
 ((s < (x.1.1.length:Int)) →
 ((((0:Int) ≤ s) ∧ (s < (x.1.1.length:Int))) ∧
 (((Int.toNat s) < (List.length x.1.1)) ∧
 (((Int.toNat s) < (List.length x.1.1)) ∧
 ((((0:Int) ≤ s) ∧ (s < (x.2.1.length:Int))) ∧
 (((Int.toNat s) < (List.length x.2.1)) ∧
 ((Int.toNat s) < (List.length x.2.1))))))))
def r8same_l0_t (x : (((List I3) × ((List I2) × ((List I3) × (List I9)))) × ((List I3) × ((List I2) × ((List I3) × (List I9)))))) (s:Int) : Tr (Int ⊕ (Unit ⊕ Unit)) true :=
 (.i10 (s < (nL x.1.1))
 (.oI2 s x.1.1
 (.oI2 s x.2.1
 (.b00 (!(((gT x.1.1 s zz3).1 == (gT x.2.1 s zz3).1) && (((gT x.1.1 s zz3).2.1 == (gT x.2.1 s zz3).2.1) && (((gT x.1.1 s zz3).2.2 == (gT x.2.1 s zz3).2.2) && true))))
 (.ret (.inr (Sum.inl ())))
 (.ret (.inl (w1 s))))))
 (.ret (.inr (Sum.inr (())))))
def r8same_l2 (x : (((List I3) × ((List I2) × ((List I3) × (List I9)))) × ((List I3) × ((List I2) × ((List I3) × (List I9)))))) : LoopD := ⟨[],⟨pvs 92 0 [(2,.v (.one (.ptr 0 0))),(3,.v (.one (.ptr 5 0))),(6,.v (.one (.i .i64)))],[.cells [.full 1,.full 2,.full 3,.full 4] 26,.row yy3 0,.row yy2 0,.row yy3 0,.row yy9 0,.cells [.full 6,.full 7,.full 8,.full 9] 26,.row yy3 0,.row yy2 0,.row yy3 0,.row yy9 0],0,none,[],[1,2,3,4,5,6,7,8],[0],[.i],[.l yy3 x.1.1,.l yy2 x.1.2.1,.l yy3 x.1.2.2.1,.l yy9 x.1.2.2.2,.l yy3 x.2.1,.l yy2 x.2.2.1,.l yy3 x.2.2.2.1,.l yy9 x.2.2.2.2]⟩,[⟨.ret,.ret,⟨pvs 92 0 [(4,.v (.one (.b)))],[],0,none,[],[0],[],[],[.b false]⟩⟩,⟨(.exit 2),.normal,⟨pvs 92 0 [(2,.v (.one (.ptr 0 0))),(3,.v (.one (.ptr 5 0)))],[.cells [.full 1,.full 2,.full 3,.full 4] 26,.row yy3 0,.row yy2 0,.row yy3 0,.row yy9 0,.cells [.full 6,.full 7,.full 8,.full 9] 26,.row yy3 0,.row yy2 0,.row yy3 0,.row yy9 0],0,none,[],[0,1,2,3,4,5,6,7],[],[],[.l yy3 x.1.1,.l yy2 x.1.2.1,.l yy3 x.1.2.2.1,.l yy9 x.1.2.2.2,.l yy3 x.2.1,.l yy2 x.2.2.1,.l yy3 x.2.2.2.1,.l yy9 x.2.2.2.2]⟩⟩]⟩
def r8same_l2_step (x : (((List I3) × ((List I2) × ((List I3) × (List I9)))) × ((List I3) × ((List I2) × ((List I3) × (List I9)))))) (s:Int) : Int ⊕ (Unit ⊕ Unit) :=
 (if (s < (x.1.2.1.length:Int)) then
 (if ((!(((List.getD x.1.2.1 (Int.toNat s) ((0:Int),(0:Int))).1 == (List.getD x.2.2.1 (Int.toNat s) ((0:Int),(0:Int))).1) && (((List.getD x.1.2.1 (Int.toNat s) ((0:Int),(0:Int))).2 == (List.getD x.2.2.1 (Int.toNat s) ((0:Int),(0:Int))).2) && true))) = true) then
 (Sum.inr (Sum.inl ())) else
 (Sum.inl (w64 (s + (1:Int))))) else
 (Sum.inr (Sum.inr (()))))
def r8same_l2_pre (x : (((List I3) × ((List I2) × ((List I3) × (List I9)))) × ((List I3) × ((List I2) × ((List I3) × (List I9)))))) (s:Int) : Prop :=
 ((s < (x.1.2.1.length:Int)) →
 ((((0:Int) ≤ s) ∧ (s < (x.1.2.1.length:Int))) ∧
 (((Int.toNat s) < (List.length x.1.2.1)) ∧
 (((Int.toNat s) < (List.length x.1.2.1)) ∧
 ((((0:Int) ≤ s) ∧ (s < (x.2.2.1.length:Int))) ∧
 (((Int.toNat s) < (List.length x.2.2.1)) ∧
 ((Int.toNat s) < (List.length x.2.2.1))))))))
def r8same_l2_t (x : (((List I3) × ((List I2) × ((List I3) × (List I9)))) × ((List I3) × ((List I2) × ((List I3) × (List I9)))))) (s:Int) : Tr (Int ⊕ (Unit ⊕ Unit)) true :=
 (.i10 (s < (nL x.1.2.1))
 (.oI2 s x.1.2.1
 (.oI2 s x.2.2.1
 (.b00 (!(((gT x.1.2.1 s zz2).1 == (gT x.2.2.1 s zz2).1) && (((gT x.1.2.1 s zz2).2 == (gT x.2.2.1 s zz2).2) && true)))
 (.ret (.inr (Sum.inl ())))
 (.ret (.inl (w1 s))))))
 (.ret (.inr (Sum.inr (())))))
def r8same_l4 (x : (((List I3) × ((List I2) × ((List I3) × (List I9)))) × ((List I3) × ((List I2) × ((List I3) × (List I9)))))) : LoopD := ⟨[],⟨pvs 92 0 [(2,.v (.one (.ptr 0 0))),(3,.v (.one (.ptr 5 0))),(7,.v (.one (.i .i64)))],[.cells [.full 1,.full 2,.full 3,.full 4] 26,.row yy3 0,.row yy2 0,.row yy3 0,.row yy9 0,.cells [.full 6,.full 7,.full 8,.full 9] 26,.row yy3 0,.row yy2 0,.row yy3 0,.row yy9 0],0,none,[],[1,2,3,4,5,6,7,8],[0],[.i],[.l yy3 x.1.1,.l yy2 x.1.2.1,.l yy3 x.1.2.2.1,.l yy9 x.1.2.2.2,.l yy3 x.2.1,.l yy2 x.2.2.1,.l yy3 x.2.2.2.1,.l yy9 x.2.2.2.2]⟩,[⟨.ret,.ret,⟨pvs 92 0 [(4,.v (.one (.b)))],[],0,none,[],[0],[],[],[.b false]⟩⟩,⟨(.exit 4),.normal,⟨pvs 92 0 [(2,.v (.one (.ptr 0 0))),(3,.v (.one (.ptr 5 0)))],[.cells [.full 1,.full 2,.full 3,.full 4] 26,.row yy3 0,.row yy2 0,.row yy3 0,.row yy9 0,.cells [.full 6,.full 7,.full 8,.full 9] 26,.row yy3 0,.row yy2 0,.row yy3 0,.row yy9 0],0,none,[],[0,1,2,3,4,5,6,7],[],[],[.l yy3 x.1.1,.l yy2 x.1.2.1,.l yy3 x.1.2.2.1,.l yy9 x.1.2.2.2,.l yy3 x.2.1,.l yy2 x.2.2.1,.l yy3 x.2.2.2.1,.l yy9 x.2.2.2.2]⟩⟩]⟩
def r8same_l4_step (x : (((List I3) × ((List I2) × ((List I3) × (List I9)))) × ((List I3) × ((List I2) × ((List I3) × (List I9)))))) (s:Int) : Int ⊕ (Unit ⊕ Unit) :=
 (if (s < (x.1.2.2.1.length:Int)) then
 (if ((!(((List.getD x.1.2.2.1 (Int.toNat s) ((0:Int),((0:Int),(0:Int)))).1 == (List.getD x.2.2.2.1 (Int.toNat s) ((0:Int),((0:Int),(0:Int)))).1) && (((List.getD x.1.2.2.1 (Int.toNat s) ((0:Int),((0:Int),(0:Int)))).2.1 == (List.getD x.2.2.2.1 (Int.toNat s) ((0:Int),((0:Int),(0:Int)))).2.1) && (((List.getD x.1.2.2.1 (Int.toNat s) ((0:Int),((0:Int),(0:Int)))).2.2 == (List.getD x.2.2.2.1 (Int.toNat s) ((0:Int),((0:Int),(0:Int)))).2.2) && true)))) = true) then
 (Sum.inr (Sum.inl ())) else
 (Sum.inl (w64 (s + (1:Int))))) else
 (Sum.inr (Sum.inr (()))))
def r8same_l4_pre (x : (((List I3) × ((List I2) × ((List I3) × (List I9)))) × ((List I3) × ((List I2) × ((List I3) × (List I9)))))) (s:Int) : Prop :=
 ((s < (x.1.2.2.1.length:Int)) →
 ((((0:Int) ≤ s) ∧ (s < (x.1.2.2.1.length:Int))) ∧
 (((Int.toNat s) < (List.length x.1.2.2.1)) ∧
 (((Int.toNat s) < (List.length x.1.2.2.1)) ∧
 ((((0:Int) ≤ s) ∧ (s < (x.2.2.2.1.length:Int))) ∧
 (((Int.toNat s) < (List.length x.2.2.2.1)) ∧
 ((Int.toNat s) < (List.length x.2.2.2.1))))))))
def r8same_l4_t (x : (((List I3) × ((List I2) × ((List I3) × (List I9)))) × ((List I3) × ((List I2) × ((List I3) × (List I9)))))) (s:Int) : Tr (Int ⊕ (Unit ⊕ Unit)) true :=
 (.i10 (s < (nL x.1.2.2.1))
 (.oI2 s x.1.2.2.1
 (.oI2 s x.2.2.2.1
 (.b00 (!(((gT x.1.2.2.1 s zz3).1 == (gT x.2.2.2.1 s zz3).1) && (((gT x.1.2.2.1 s zz3).2.1 == (gT x.2.2.2.1 s zz3).2.1) && (((gT x.1.2.2.1 s zz3).2.2 == (gT x.2.2.2.1 s zz3).2.2) && true))))
 (.ret (.inr (Sum.inl ())))
 (.ret (.inl (w1 s))))))
 (.ret (.inr (Sum.inr (())))))
def r8same (x : (((List I3) × ((List I2) × ((List I3) × (List I9)))) × ((List I3) × ((List I2) × ((List I3) × (List I9)))))) : Bool :=
 (if (((x.1.1.length:Int) != (x.2.1.length:Int)) = true) then
 false else
 (if (((x.1.2.1.length:Int) != (x.2.2.1.length:Int)) = true) then
 false else
 (if (((x.1.2.2.1.length:Int) != (x.2.2.2.1.length:Int)) = true) then
 false else
 (letV (run (r8same_l0_step x) (0:Int)) fun r =>
 (Sum.elim (fun a =>
 false) (fun b =>
 (letV (run (r8same_l2_step x) (0:Int)) fun r_1 =>
 (Sum.elim (fun a =>
 false) (fun b_1 =>
 (letV (run (r8same_l4_step x) (0:Int)) fun r_2 =>
 (Sum.elim (fun a =>
 false) (fun b_2 =>
 (letV (r7same (x.1.2.2.2,x.2.2.2.2)) fun y =>
 y)) r_2))) r_1))) r)))))
def r8same_pre (x : (((List I3) × ((List I2) × ((List I3) × (List I9)))) × ((List I3) × ((List I2) × ((List I3) × (List I9)))))) : Prop :=
 (¬ (((x.1.1.length:Int) != (x.2.1.length:Int)) = true) →
 (¬ (((x.1.2.1.length:Int) != (x.2.2.1.length:Int)) = true) →
 (¬ (((x.1.2.2.1.length:Int) != (x.2.2.2.1.length:Int)) = true) →
 (Term (r8same_l0_step x) (r8same_l0_pre x) (0:Int) ∧
 letP (run (r8same_l0_step x) (0:Int)) fun r =>
 (cS r (fun a =>
 True) (fun b =>
 (Term (r8same_l2_step x) (r8same_l2_pre x) (0:Int) ∧
 letP (run (r8same_l2_step x) (0:Int)) fun r_1 =>
 (cS r_1 (fun a =>
 True) (fun b_1 =>
 (Term (r8same_l4_step x) (r8same_l4_pre x) (0:Int) ∧
 letP (run (r8same_l4_step x) (0:Int)) fun r_2 =>
 (cS r_2 (fun a =>
 True) (fun b_2 =>
 (r7same_pre (x.1.2.2.2,x.2.2.2.2))))))))))))))
def r8same_t (x : (((List I3) × ((List I2) × ((List I3) × (List I9)))) × ((List I3) × ((List I2) × ((List I3) × (List I9)))))) : Tr Bool true :=
 (.b01 ((nL x.1.1) != (nL x.2.1))
 (.ret false)
 (.b01 ((nL x.1.2.1) != (nL x.2.2.1))
 (.ret false)
 (.b01 ((nL x.1.2.2.1) != (nL x.2.2.2.1))
 (.ret false)
 (LoopD.lp (r8same_l0 x) (r8same_l0_t x) z0 fun r =>
 (.s01 r (fun a =>
 (.ret false)) (fun b =>
 (LoopD.lp (r8same_l2 x) (r8same_l2_t x) z0 fun r_1 =>
 (.s01 r_1 (fun a =>
 (.ret false)) (fun b_1 =>
 (LoopD.lp (r8same_l4 x) (r8same_l4_t x) z0 fun r_2 =>
 (.s01 r_2 (fun a =>
 (.ret false)) (fun b_2 =>
 (.fn r7same_S (x.1.2.2.2,x.2.2.2.2) fun y =>
 (.ret y))))))))))))))
abbrev r8same_S : FnS := ⟨(.pair (.agg (Ty.prod (Ty.sl yy3) (Ty.prod (Ty.sl yy2) (Ty.prod (Ty.sl yy3) (Ty.sl yy9))))) (.agg (Ty.prod (Ty.sl yy3) (Ty.prod (Ty.sl yy2) (Ty.prod (Ty.sl yy3) (Ty.sl yy9)))))),(.one Ty.bool),r8same_pre,r8same⟩
theorem r8same_ok : SpecOk Tryz.prog 20 (fnSpec r8same_S) := SpecOk.tr r8same_S r8same_t (fn := Tryz.f20) tt_ok sp_r7same_ok mixed (by kernel_rfl) (ItsOk.nil _ _) (fun x => (LpsOk.tr tt_ok (SpecsOk.ctxI sp_r7same_ok (ItsOk.nil _ _)) mixed 0 (r8same_l0 x) (r8same_l0_t x) (LpsOk.tr tt_ok (SpecsOk.ctxI sp_r7same_ok (ItsOk.nil _ _)) mixed 2 (r8same_l2 x) (r8same_l2_t x) (LpsOk.tr tt_ok (SpecsOk.ctxI sp_r7same_ok (ItsOk.nil _ _)) mixed 4 (r8same_l4 x) (r8same_l4_t x) LpsOk.nil (by kernel_rfl) fun g s Q => (by kernel_rfl)) (by kernel_rfl) fun g s Q => (by kernel_rfl)) (by kernel_rfl) fun g s Q => (by kernel_rfl))) (fun x => (by kernel_rfl)) fun x Q => (by kernel_rfl)
def sp_r8same : List (Nat × Ev.Spec) := (20,fnSpec r8same_S) :: sp_r7same
theorem sp_r8same_ok : SpecsOk Tryz.prog sp_r8same := SpecsOk.add (fn := Tryz.f20) (by kernel_rfl) r8same_ok sp_r7same_ok
end Go.Proofs.YtkbmjhabfjgoiaaGreat
