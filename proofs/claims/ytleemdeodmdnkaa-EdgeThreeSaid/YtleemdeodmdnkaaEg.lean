/- Models of law 14's functions. -/
import Derived.Test.YtleemdeodmdnkaaEd
noncomputable section
set_option linter.unusedSectionVars false
set_option linter.unusedVariables false
set_option linter.unusedSimpArgs false
namespace Go.Proofs.Ytleemdeodmdnkaa
open Go Go.Ev Go.Proofs
def three (x : I3) : I9 :=
 ((x.1,((-1:Int),(-1:Int))),((x.2.1,((-1:Int),(-1:Int))),(x.2.2,((-1:Int),(-1:Int)))))
def three_pre (_ : I3) : Prop := True
def three_t (x : I3) : Tr I9 false :=
 (.ret ((x.1,((-1:Int),(-1:Int))),((x.2.1,((-1:Int),(-1:Int))),(x.2.2,((-1:Int),(-1:Int))))))
abbrev three_S : FnS := ⟨(.pair (.one yi) (.pair (.one yi) (.one yi))),(.agg yy9),three_pre,three⟩
theorem three_ok : SpecOk Try.prog 28 (fnSpec three_S) := SpecOk.tr three_S three_t (fn := Try.f28) tt_ok sp_eedges2_ok mixed (by kernel_rfl) (ItsOk.nil _ _) (fun x => LpsOk.nil) (fun x => (by kernel_rfl)) fun x Q => (by kernel_rfl)
def sp_three : List (Nat × Ev.Spec) := (28,fnSpec three_S) :: sp_eedges2
theorem sp_three_ok : SpecsOk Try.prog sp_three := SpecsOk.add (fn := Try.f28) (by kernel_rfl) three_ok sp_eedges2_ok
def same01_l0 (x : ((List Int) × (List Int))) : LoopD := ⟨[],⟨pvs 26 0 [(0,.v (.one (.full 0))),(1,.v (.one (.full 1))),(5,.v (.one (.i .i64)))],[.row yi 0,.row yi 0],0,none,[],[1,2],[0],[.i],[.l yi x.1,.l yi x.2]⟩,[⟨.ret,.ret,⟨pvs 26 0 [(4,.v (.one (.b)))],[],0,none,[],[0],[],[],[.b false]⟩⟩,⟨(.exit 0),.normal,⟨pvs 26 0 [],[],0,none,[],[],[],[],[]⟩⟩]⟩
def same01_l0_step (x : ((List Int) × (List Int))) (s:Int) : Int ⊕ (Unit ⊕ Unit) :=
 (if (s < (x.1.length:Int)) then
 (if (((List.getD x.1 (Int.toNat s) (0:Int)) != (List.getD x.2 (Int.toNat s) (0:Int))) = true) then
 (Sum.inr (Sum.inl ())) else
 (Sum.inl (w64 (s + (1:Int))))) else
 (Sum.inr (Sum.inr (()))))
def same01_l0_pre (x : ((List Int) × (List Int))) (s:Int) : Prop :=
 ((s < (x.1.length:Int)) →
 ((((0:Int) ≤ s) ∧ (s < (x.1.length:Int))) ∧
 (((Int.toNat s) < (List.length x.1)) ∧
 (((Int.toNat s) < (List.length x.1)) ∧
 ((((0:Int) ≤ s) ∧ (s < (x.2.length:Int))) ∧
 (((Int.toNat s) < (List.length x.2)) ∧
 ((Int.toNat s) < (List.length x.2))))))))
def same01_l0_t (x : ((List Int) × (List Int))) (s:Int) : Tr (Int ⊕ (Unit ⊕ Unit)) true :=
 (.i10 (s < (nL x.1))
 (.oI2 s x.1
 (.oI2 s x.2
 (.b00 ((gI x.1 s) != (gI x.2 s))
 (.ret (.inr (Sum.inl ())))
 (.ret (.inl (w1 s))))))
 (.ret (.inr (Sum.inr (())))))
def same01 (x : ((List Int) × (List Int))) : Bool :=
 (if (((x.1.length:Int) != (x.2.length:Int)) = true) then
 false else
 (letV (run (same01_l0_step x) (0:Int)) fun r =>
 (Sum.elim (fun a =>
 false) (fun b =>
 true) r)))
def same01_pre (x : ((List Int) × (List Int))) : Prop :=
 (¬ (((x.1.length:Int) != (x.2.length:Int)) = true) →
 (Term (same01_l0_step x) (same01_l0_pre x) (0:Int)))
def same01_t (x : ((List Int) × (List Int))) : Tr Bool true :=
 (.b01 ((nL x.1) != (nL x.2))
 (.ret false)
 (LoopD.lp (same01_l0 x) (same01_l0_t x) z0 fun r =>
 (.s00 r (fun a =>
 (.ret false)) (fun b =>
 (.ret true)))))
abbrev same01_S : FnS := ⟨(.pair (.one (Ty.sl yi)) (.one (Ty.sl yi))),(.one Ty.bool),same01_pre,same01⟩
theorem same01_ok : SpecOk Try.prog 21 (fnSpec same01_S) := SpecOk.tr same01_S same01_t (fn := Try.f21) tt_ok sp_three_ok mixed (by kernel_rfl) (ItsOk.nil _ _) (fun x => (LpsOk.tr tt_ok (SpecsOk.ctxI sp_three_ok (ItsOk.nil _ _)) mixed 0 (same01_l0 x) (same01_l0_t x) LpsOk.nil (by kernel_rfl) fun g s Q => (by kernel_rfl))) (fun x => (by kernel_rfl)) fun x Q => (by kernel_rfl)
def sp_same01 : List (Nat × Ev.Spec) := (21,fnSpec same01_S) :: sp_three
theorem sp_same01_ok : SpecsOk Try.prog sp_same01 := SpecsOk.add (fn := Try.f21) (by kernel_rfl) same01_ok sp_three_ok
def edged (x : Bool) : Bool :=
 (letV (three ((0:Int),((1:Int),(2:Int)))) fun y =>
 (letV (three ((2:Int),((1:Int),(3:Int)))) fun y_1 =>
 (letV (three ((4:Int),((5:Int),(6:Int)))) fun y_2 =>
 (letV (eedges ((List.replicate 7 ((0:Int),((0:Int),(0:Int)))),([],([],[y,y_1,y_2])))) fun y_3 =>
 (letV (enext (((List.replicate 7 ((0:Int),((0:Int),(0:Int)))),([],([],[y,y_1,y_2]))),(0:Int))) fun y_4 =>
 (letV (eparts ((List.replicate 7 ((0:Int),((0:Int),(0:Int)))),([],([],[y,y_1,y_2])))) fun y_5 =>
 (letV (efind (y_3.1,((2:Int),(1:Int)))) fun y_6 =>
 (letV (enext (((List.replicate 7 ((0:Int),((0:Int),(0:Int)))),([],([],[y,y_1,y_2]))),(3:Int))) fun y_7 =>
 (if ((y_3.2 == (0:Int)) = true) then
 (if (((y_3.1.length:Int) == (8:Int)) = true) then
 (if (((List.getD y_3.1 2 ((0:Int),((0:Int),[]))).1 == (1:Int)) = true) then
 (if (((List.getD y_3.1 2 ((0:Int),((0:Int),[]))).2.1 == (2:Int)) = true) then
 (letV (same01 ((List.getD y_3.1 2 ((0:Int),((0:Int),[]))).2.2,[(0:Int),(1:Int)])) fun y_8 =>
 (if (y_8 = true) then
 (if ((y_4.2 == y_3.2) = true) then
 (letV (same01 (y_4.1,[(1:Int)])) fun y_9 =>
 (if (y_9 = true) then
 (if ((y_5.2 == y_3.2) = true) then
 (letV (same01 (y_5.1,[(0:Int),(0:Int),(2:Int)])) fun y_10 =>
 (if (y_10 = true) then
 (if (y_6.2 = true) then
 (if (((y_6.1.2.2.length:Int) == (2:Int)) = true) then
 (letV (eloose y_3.1) fun y_11 =>
 (if (((y_11.length:Int) == (7:Int)) = true) then
 (y_7.2 == (1:Int)) else
 false)) else
 false) else
 false) else
 false)) else
 false) else
 false)) else
 false) else
 false)) else
 false) else
 false) else
 false) else
 false)))))))))
def edged_pre (x : Bool) : Prop :=
 (letP (three ((0:Int),((1:Int),(2:Int)))) fun y =>
 (letP (three ((2:Int),((1:Int),(3:Int)))) fun y_1 =>
 (letP (three ((4:Int),((5:Int),(6:Int)))) fun y_2 =>
 ((eedges_pre ((List.replicate 7 ((0:Int),((0:Int),(0:Int)))),([],([],[y,y_1,y_2])))) ∧
 letP (eedges ((List.replicate 7 ((0:Int),((0:Int),(0:Int)))),([],([],[y,y_1,y_2])))) fun y_3 =>
 ((enext_pre (((List.replicate 7 ((0:Int),((0:Int),(0:Int)))),([],([],[y,y_1,y_2]))),(0:Int))) ∧
 letP (enext (((List.replicate 7 ((0:Int),((0:Int),(0:Int)))),([],([],[y,y_1,y_2]))),(0:Int))) fun y_4 =>
 ((eparts_pre ((List.replicate 7 ((0:Int),((0:Int),(0:Int)))),([],([],[y,y_1,y_2])))) ∧
 letP (eparts ((List.replicate 7 ((0:Int),((0:Int),(0:Int)))),([],([],[y,y_1,y_2])))) fun y_5 =>
 ((efind_pre (y_3.1,((2:Int),(1:Int)))) ∧
 letP (efind (y_3.1,((2:Int),(1:Int)))) fun y_6 =>
 ((enext_pre (((List.replicate 7 ((0:Int),((0:Int),(0:Int)))),([],([],[y,y_1,y_2]))),(3:Int))) ∧
 letP (enext (((List.replicate 7 ((0:Int),((0:Int),(0:Int)))),([],([],[y,y_1,y_2]))),(3:Int))) fun y_7 =>
 (((y_3.2 == (0:Int)) = true) →
 ((((y_3.1.length:Int) == (8:Int)) = true) →
 (((2:Int) < (y_3.1.length:Int)) ∧
 ((2 < (List.length y_3.1)) ∧
 ((2 < (List.length y_3.1)) ∧
 ((2 < (List.length y_3.1)) ∧
 ((((List.getD y_3.1 2 ((0:Int),((0:Int),[]))).1 == (1:Int)) = true) →
 (((2:Int) < (y_3.1.length:Int)) ∧
 ((2 < (List.length y_3.1)) ∧
 ((2 < (List.length y_3.1)) ∧
 ((2 < (List.length y_3.1)) ∧
 ((((List.getD y_3.1 2 ((0:Int),((0:Int),[]))).2.1 == (2:Int)) = true) →
 (((2:Int) < (y_3.1.length:Int)) ∧
 ((2 < (List.length y_3.1)) ∧
 ((2 < (List.length y_3.1)) ∧
 ((2 < (List.length y_3.1)) ∧
 ((same01_pre ((List.getD y_3.1 2 ((0:Int),((0:Int),[]))).2.2,[(0:Int),(1:Int)])) ∧
 letP (same01 ((List.getD y_3.1 2 ((0:Int),((0:Int),[]))).2.2,[(0:Int),(1:Int)])) fun y_8 =>
 ((y_8 = true) →
 (((y_4.2 == y_3.2) = true) →
 ((same01_pre (y_4.1,[(1:Int)])) ∧
 letP (same01 (y_4.1,[(1:Int)])) fun y_9 =>
 ((y_9 = true) →
 (((y_5.2 == y_3.2) = true) →
 ((same01_pre (y_5.1,[(0:Int),(0:Int),(2:Int)])) ∧
 letP (same01 (y_5.1,[(0:Int),(0:Int),(2:Int)])) fun y_10 =>
 ((y_10 = true) →
 ((y_6.2 = true) →
 ((((y_6.1.2.2.length:Int) == (2:Int)) = true) →
 (eloose_pre y_3.1)))))))))))))))))))))))))))))))))))
def edged_t (x : Bool) : Tr Bool true :=
 (.fn0 three_S (z0,(z1,(2:Int))) trivial fun y =>
 (.fn0 three_S ((2:Int),(z1,(3:Int))) trivial fun y_1 =>
 (.fn0 three_S ((4:Int),((5:Int),(6:Int))) trivial fun y_2 =>
 (.fn eedges_S ((List.replicate 7 zz3),([],([],[y,y_1,y_2]))) fun y_3 =>
 (.fn enext_S (((List.replicate 7 zz3),([],([],[y,y_1,y_2]))),z0) fun y_4 =>
 (.fn eparts_S ((List.replicate 7 zz3),([],([],[y,y_1,y_2]))) fun y_5 =>
 (.fn efind_S (y_3.1,((2:Int),z1)) fun y_6 =>
 (.fn enext_S (((List.replicate 7 zz3),([],([],[y,y_1,y_2]))),(3:Int)) fun y_7 =>
 (.b10 (y_3.2 == z0)
 (.b10 ((nL y_3.1) == (8:Int))
 (.og (true && (decide ((2:Int) < (nL y_3.1)))) ((2:Int) < (nL y_3.1)) (fun h => (and_t rfl (decide_eq_true h)))
 (.od (2 < (List.length y_3.1))
 (.od (2 < (List.length y_3.1))
 (.od (2 < (List.length y_3.1))
 (.b10 ((List.getD y_3.1 2 (z0,(z0,[]))).1 == z1)
 (.og (true && (decide ((2:Int) < (nL y_3.1)))) ((2:Int) < (nL y_3.1)) (fun h => (and_t rfl (decide_eq_true h)))
 (.od (2 < (List.length y_3.1))
 (.od (2 < (List.length y_3.1))
 (.od (2 < (List.length y_3.1))
 (.b10 ((List.getD y_3.1 2 (z0,(z0,[]))).2.1 == (2:Int))
 (.og (true && (decide ((2:Int) < (nL y_3.1)))) ((2:Int) < (nL y_3.1)) (fun h => (and_t rfl (decide_eq_true h)))
 (.od (2 < (List.length y_3.1))
 (.od (2 < (List.length y_3.1))
 (.od (2 < (List.length y_3.1))
 (.fn same01_S ((List.getD y_3.1 2 (z0,(z0,[]))).2.2,[z0,z1]) fun y_8 =>
 (.b10 y_8
 (.b10 (y_4.2 == y_3.2)
 (.fn same01_S (y_4.1,[z1]) fun y_9 =>
 (.b10 y_9
 (.b10 (y_5.2 == y_3.2)
 (.fn same01_S (y_5.1,[z0,z0,(2:Int)]) fun y_10 =>
 (.b10 y_10
 (.b10 y_6.2
 (.b10 ((nL y_6.1.2.2) == (2:Int))
 (.fn eloose_S y_3.1 fun y_11 =>
 (.b00 ((nL y_11) == (7:Int))
 (.ret (y_7.2 == z1))
 (.ret false)))
 (.ret false))
 (.ret false))
 (.ret false)))
 (.ret false))
 (.ret false)))
 (.ret false))
 (.ret false)))))))
 (.ret false))))))
 (.ret false))))))
 (.ret false))
 (.ret false))))))))))
abbrev edged_S : FnS := ⟨.none,(.one Ty.bool),edged_pre,edged⟩
theorem edged_ok : SpecOk Try.prog 24 (fnSpec edged_S) := SpecOk.tr edged_S edged_t (fn := Try.f24) tt_ok sp_same01_ok mixed (by kernel_rfl) (ItsOk.nil _ _) (fun x => LpsOk.nil) (fun x => (by kernel_rfl)) fun x Q => (by kernel_rfl)
def sp_edged : List (Nat × Ev.Spec) := (24,fnSpec edged_S) :: sp_same01
theorem sp_edged_ok : SpecsOk Try.prog sp_edged := SpecsOk.add (fn := Try.f24) (by kernel_rfl) edged_ok sp_same01_ok
def few14 (x : ((List I3) × ((List I2) × ((List I3) × (List I9))))) : Bool :=
 (if ((x.1.length:Int) ≤ (20:Int)) then
 (if ((x.2.1.length:Int) ≤ (60:Int)) then
 (if ((x.2.2.1.length:Int) ≤ (60:Int)) then
 (decide ((x.2.2.2.length:Int) ≤ (20:Int))) else
 false) else
 false) else
 false)
def few14_pre (_ : ((List I3) × ((List I2) × ((List I3) × (List I9))))) : Prop := True
def few14_t (x : ((List I3) × ((List I2) × ((List I3) × (List I9))))) : Tr Bool false :=
 (.i00 ((nL x.1) ≤ (20:Int))
 (.i00 ((nL x.2.1) ≤ (60:Int))
 (.i00 ((nL x.2.2.1) ≤ (60:Int))
 (.ret (decide ((nL x.2.2.2) ≤ (20:Int))))
 (.ret false))
 (.ret false))
 (.ret false))
abbrev few14_S : FnS := ⟨(.agg (Ty.prod (Ty.sl yy3) (Ty.prod (Ty.sl yy2) (Ty.prod (Ty.sl yy3) (Ty.sl yy9))))),(.one Ty.bool),few14_pre,few14⟩
theorem few14_ok : SpecOk Try.prog 8 (fnSpec few14_S) := SpecOk.tr few14_S few14_t (fn := Try.f8) tt_ok sp_edged_ok mixed (by kernel_rfl) (ItsOk.nil _ _) (fun x => LpsOk.nil) (fun x => (by kernel_rfl)) fun x Q => (by kernel_rfl)
def sp_few14 : List (Nat × Ev.Spec) := (8,fnSpec few14_S) :: sp_edged
theorem sp_few14_ok : SpecsOk Try.prog sp_few14 := SpecsOk.add (fn := Try.f8) (by kernel_rfl) few14_ok sp_edged_ok
def in14_l0 (x : ((List Int) × Int)) : LoopD := ⟨[],⟨pvs 18 0 [(0,.v (.one (.full 0))),(1,.v (.one (.i .i64))),(5,.v (.one (.i .i64)))],[.row yi 0],0,none,[],[0,2],[1],[.i],[.i x.2,.l yi x.1]⟩,[⟨.ret,.ret,⟨pvs 18 0 [(4,.v (.one (.b)))],[],0,none,[],[0],[],[],[.b true]⟩⟩,⟨(.exit 0),.normal,⟨pvs 18 0 [],[],0,none,[],[],[],[],[]⟩⟩]⟩
def in14_l0_step (x : ((List Int) × Int)) (s:Int) : Int ⊕ (Unit ⊕ Unit) :=
 (if (s < (x.1.length:Int)) then
 (if (((List.getD x.1 (Int.toNat s) (0:Int)) == x.2) = true) then
 (Sum.inr (Sum.inl ())) else
 (Sum.inl (w64 (s + (1:Int))))) else
 (Sum.inr (Sum.inr (()))))
def in14_l0_pre (x : ((List Int) × Int)) (s:Int) : Prop :=
 ((s < (x.1.length:Int)) →
 ((((0:Int) ≤ s) ∧ (s < (x.1.length:Int))) ∧
 (((Int.toNat s) < (List.length x.1)) ∧
 ((Int.toNat s) < (List.length x.1)))))
def in14_l0_t (x : ((List Int) × Int)) (s:Int) : Tr (Int ⊕ (Unit ⊕ Unit)) true :=
 (.i10 (s < (nL x.1))
 (.oI2 s x.1
 (.b00 ((gI x.1 s) == x.2)
 (.ret (.inr (Sum.inl ())))
 (.ret (.inl (w1 s)))))
 (.ret (.inr (Sum.inr (())))))
def in14 (x : ((List Int) × Int)) : Bool :=
 (letV (run (in14_l0_step x) (0:Int)) fun r =>
 (Sum.elim (fun a =>
 true) (fun b =>
 false) r))
def in14_pre (x : ((List Int) × Int)) : Prop :=
 (Term (in14_l0_step x) (in14_l0_pre x) (0:Int))
def in14_t (x : ((List Int) × Int)) : Tr Bool true :=
 (LoopD.lp (in14_l0 x) (in14_l0_t x) z0 fun r =>
 (.s00 r (fun a =>
 (.ret true)) (fun b =>
 (.ret false))))
abbrev in14_S : FnS := ⟨(.pair (.one (Ty.sl yi)) (.one yi)),(.one Ty.bool),in14_pre,in14⟩
theorem in14_ok : SpecOk Try.prog 26 (fnSpec in14_S) := SpecOk.tr in14_S in14_t (fn := Try.f26) tt_ok sp_few14_ok mixed (by kernel_rfl) (ItsOk.nil _ _) (fun x => (LpsOk.tr tt_ok (SpecsOk.ctxI sp_few14_ok (ItsOk.nil _ _)) mixed 0 (in14_l0 x) (in14_l0_t x) LpsOk.nil (by kernel_rfl) fun g s Q => (by kernel_rfl))) (fun x => (by kernel_rfl)) fun x Q => (by kernel_rfl)
def sp_in14 : List (Nat × Ev.Spec) := (26,fnSpec in14_S) :: sp_few14
theorem sp_in14_ok : SpecsOk Try.prog sp_in14 := SpecsOk.add (fn := Try.f26) (by kernel_rfl) in14_ok sp_few14_ok
end Go.Proofs.Ytleemdeodmdnkaa
