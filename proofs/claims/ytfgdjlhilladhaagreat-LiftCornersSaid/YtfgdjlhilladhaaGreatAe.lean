/- Models of functions of layer 18. -/
import Derived.Test.YtfgdjlhilladhaaGreatAa
import Derived.Test.YtfgdjlhilladhaaGreatFf
namespace Go.Proofs.YtfgdjlhilladhaaGreat
open Go Go.Ev Go.Proofs
set_option linter.unusedVariables false
theorem key_3 : KeyE tt 3 yi := fun x y => by rfl
def sp_all0 : List (Nat × Ev.Spec) := (89, fnSpec shis_S) :: sp_fmove
theorem sp_all0_ok : SpecsOk Tryz.prog sp_all0 := SpecsOk.add (fn := Tryz.f89) (by kernel_rfl) shis_ok sp_fmove_ok
def sp_all1 : List (Nat × Ev.Spec) := (49, fnSpec repeatM_S) :: sp_all0
theorem sp_all1_ok : SpecsOk Tryz.prog sp_all1 := SpecsOk.add (fn := Tryz.f49) (by kernel_rfl) repeatM_ok sp_all0_ok
def sp_all2 : List (Nat × Ev.Spec) := (55, fnSpec indexI_S) :: sp_all1
theorem sp_all2_ok : SpecsOk Tryz.prog sp_all2 := SpecsOk.add (fn := Tryz.f55) (by kernel_rfl) indexI_ok sp_all1_ok
noncomputable def numbersM (x : I3) : Bool :=
 (if ((minI (minI x.1 x.2.1) x.2.2) ≥ (1 : Int)) then
 (if ((maxI x.1 x.2.1) ≤ (256 : Int)) then
 (decide (x.2.2 ≤ (8 : Int))) else
 false) else
 false)
noncomputable def numbersM_pre (_ : I3) : Prop := True
noncomputable def numbersM_t (x : I3) : Tr Bool false :=
 (.i00 ((minI (minI x.1 x.2.1) x.2.2) ≥ (1 : Int))
 (.i00 ((maxI x.1 x.2.1) ≤ (256 : Int))
 (.ret (decide (x.2.2 ≤ (8 : Int))))
 (.ret false))
 (.ret false))
noncomputable abbrev numbersM_S : FnS := ⟨(.pair (.one yi) (.pair (.one yi) (.one yi))), (.one Ty.bool), numbersM_pre, numbersM⟩
theorem numbersM_ok : SpecOk Tryz.prog 86 (fnSpec numbersM_S) := SpecOk.tr numbersM_S numbersM_t (fn := Tryz.f86) tt_ok sp_all2_ok mixed (by kernel_rfl) (ItsOk.nil _ _) (fun x => LpsOk.nil) (fun x => (by kernel_rfl)) fun x Q => (by kernel_rfl)
def sp_numbersM : List (Nat × Ev.Spec) := (86, fnSpec numbersM_S) :: sp_all2
theorem sp_numbersM_ok : SpecsOk Tryz.prog sp_numbersM := SpecsOk.add (fn := Tryz.f86) (by kernel_rfl) numbersM_ok sp_all2_ok
noncomputable def rightR_l2 (x : (List ((List Int) × ((List I6) × I2)))) : LoopD := ⟨[], ⟨pvs 32 0 [(3, .v (.one (.mp 0))), (9, .v (.one (.full 1))), (10, .v (.one (.i .i64))), (11, .v (.one (.i .i64))), (19, .v (.one (.full 2))), (20, .v (.one (.i .i64))), (21, .v (.one (.i .i64)))], [.map Bool.false Bool.false yi Ty.bool, .row (Ty.prod (Ty.sl yi) (Ty.prod (Ty.sl yy6) yy2)) 0, .row yi 0], 0, none, [], [0, 5], [4, 1, 6, 2, 3], [(.l (.prod yi Ty.bool)), .i, (.l yi), .i, .i], [.i (((List.length x) : Nat) : Int), .l (Ty.prod (Ty.sl yi) (Ty.prod (Ty.sl yy6) yy2)) x]⟩, [⟨.ret, .ret, ⟨pvs 32 0 [(2, .v (.one (.b)))], [], 0, none, [], [0], [], [], [.b false]⟩⟩, ⟨(.exit 2), .normal, ⟨pvs 32 0 [(3, .v (.one (.mp 0))), (9, .v (.one (.full 1))), (10, .v (.one (.i .i64))), (11, .v (.one (.i .i64)))], [.map Bool.false Bool.false yi Ty.bool, .row (Ty.prod (Ty.sl yi) (Ty.prod (Ty.sl yy6) yy2)) 0], 0, none, [], [0, 3], [2, 1], [(.l (.prod yi Ty.bool)), .i], [.i (((List.length x) : Nat) : Int), .l (Ty.prod (Ty.sl yi) (Ty.prod (Ty.sl yy6) yy2)) x]⟩⟩]⟩
noncomputable def rightR_l2_step (x : (List ((List Int) × ((List I6) × I2)))) (s : ((List (Int × Bool)) × (Int × ((List Int) × I2)))) : ((List (Int × Bool)) × (Int × ((List Int) × I2))) ⊕ (Unit ⊕ ((List (Int × Bool)) × Int)) :=
 (if (s.2.2.2.2 < s.2.2.2.1) then
 (letV (lookD (k := yi) s.1 (List.getD s.2.2.1 (Int.toNat s.2.2.2.2) (0 : Int)) false) fun y =>
 (if (y = true) then
 (Sum.inr (Sum.inl ())) else
 (letV (putM (k := yi) s.1 (List.getD s.2.2.1 (Int.toNat s.2.2.2.2) (0 : Int)) true) fun y_1 =>
 (Sum.inl (y_1, (s.2.1, (s.2.2.1, (s.2.2.2.1, (w64 (s.2.2.2.2 + (1 : Int))))))))))) else
 (Sum.inr (Sum.inr ((s.1, s.2.1)))))
noncomputable def rightR_l2_pre (x : (List ((List Int) × ((List I6) × I2)))) (s : ((List (Int × Bool)) × (Int × ((List Int) × I2)))) : Prop :=
 ((s.2.2.2.2 < s.2.2.2.1) →
 ((((0 : Int) ≤ s.2.2.2.2) ∧ (s.2.2.2.2 < (((List.length s.2.2.1) : Nat) : Int))) ∧
 (((Int.toNat s.2.2.2.2) < (List.length s.2.2.1)) ∧
 ((Int.toNat s.2.2.2.2) < (List.length s.2.2.1)))))
noncomputable def rightR_l2_t (x : (List ((List Int) × ((List I6) × I2)))) (s : ((List (Int × Bool)) × (Int × ((List Int) × I2)))) : Tr (((List (Int × Bool)) × (Int × ((List Int) × I2))) ⊕ (Unit ⊕ ((List (Int × Bool)) × Int))) true :=
 (.i10 (s.2.2.2.2 < s.2.2.2.1)
 (.oR s.2.2.2.2 (((List.length s.2.2.1) : Nat) : Int)
 (.od ((Int.toNat s.2.2.2.2) < (List.length s.2.2.1))
 (.od ((Int.toNat s.2.2.2.2) < (List.length s.2.2.1))
 (.fact (KeyE tt 3 yi) key_3
 (.lt (lookD (k := yi) s.1 (List.getD s.2.2.1 (Int.toNat s.2.2.2.2) (0 : Int)) false) fun y =>
 (.b00 y
 (.ret (.inr (Sum.inl ())))
 (.fact (KeyE tt 3 yi) key_3
 (.lt (putM (k := yi) s.1 (List.getD s.2.2.1 (Int.toNat s.2.2.2.2) (0 : Int)) true) fun y_1 =>
 (.ret (.inl (y_1, (s.2.1, (s.2.2.1, (s.2.2.2.1, (w64 (s.2.2.2.2 + (1 : Int)))))))))))))))))
 (.ret (.inr (Sum.inr ((s.1, s.2.1))))))
noncomputable def rightR_l0 (x : (List ((List Int) × ((List I6) × I2)))) : LoopD := ⟨[], ⟨pvs 32 0 [(3, .v (.one (.mp 0))), (9, .v (.one (.full 1))), (10, .v (.one (.i .i64))), (11, .v (.one (.i .i64)))], [.map Bool.false Bool.false yi Ty.bool, .row (Ty.prod (Ty.sl yi) (Ty.prod (Ty.sl yy6) yy2)) 0], 0, none, [], [0, 3], [2, 1], [(.l (.prod yi Ty.bool)), .i], [.i (((List.length x) : Nat) : Int), .l (Ty.prod (Ty.sl yi) (Ty.prod (Ty.sl yy6) yy2)) x]⟩, [⟨.ret, .ret, ⟨pvs 32 0 [(2, .v (.one (.b)))], [], 0, none, [], [0], [], [], [.b false]⟩⟩, ⟨(.exit 0), .normal, ⟨pvs 32 0 [], [], 0, none, [], [], [], [], []⟩⟩]⟩
noncomputable def rightR_l0_step (x : (List ((List Int) × ((List I6) × I2)))) (s : ((List (Int × Bool)) × Int)) : ((List (Int × Bool)) × Int) ⊕ (Unit ⊕ Unit) :=
 (if (s.2 < (((List.length x) : Nat) : Int)) then
 (letV (fis (List.getD x (Int.toNat s.2) ([], ([], ((0 : Int), (0 : Int)))))) fun y =>
 (if ((!y) = true) then
 (Sum.inr (Sum.inl ())) else
 (letV (run (rightR_l2_step x) (s.1, (s.2, ((List.getD x (Int.toNat s.2) ([], ([], ((0 : Int), (0 : Int))))).1, ((((List.length (List.getD x (Int.toNat s.2) ([], ([], ((0 : Int), (0 : Int))))).1) : Nat) : Int), (0 : Int)))))) fun r =>
 (Sum.elim (fun a =>
 (Sum.inr (Sum.inl ()))) (fun b =>
 (Sum.inl (b.1, (w64 (b.2 + (1 : Int)))))) r)))) else
 (Sum.inr (Sum.inr (()))))
noncomputable def rightR_l0_pre (x : (List ((List Int) × ((List I6) × I2)))) (s : ((List (Int × Bool)) × Int)) : Prop :=
 ((s.2 < (((List.length x) : Nat) : Int)) →
 ((((0 : Int) ≤ s.2) ∧ (s.2 < (((List.length x) : Nat) : Int))) ∧
 (((Int.toNat s.2) < (List.length x)) ∧
 (((Int.toNat s.2) < (List.length x)) ∧
 ((fis_pre (List.getD x (Int.toNat s.2) ([], ([], ((0 : Int), (0 : Int)))))) ∧
 letP (fis (List.getD x (Int.toNat s.2) ([], ([], ((0 : Int), (0 : Int)))))) fun y =>
 (¬ ((!y) = true) →
 (Term (rightR_l2_step x) (rightR_l2_pre x) (s.1, (s.2, ((List.getD x (Int.toNat s.2) ([], ([], ((0 : Int), (0 : Int))))).1, ((((List.length (List.getD x (Int.toNat s.2) ([], ([], ((0 : Int), (0 : Int))))).1) : Nat) : Int), (0 : Int))))))))))))
noncomputable def rightR_l0_t (x : (List ((List Int) × ((List I6) × I2)))) (s : ((List (Int × Bool)) × Int)) : Tr (((List (Int × Bool)) × Int) ⊕ (Unit ⊕ Unit)) true :=
 (.i10 (s.2 < (((List.length x) : Nat) : Int))
 (.oR s.2 (((List.length x) : Nat) : Int)
 (.od ((Int.toNat s.2) < (List.length x))
 (.od ((Int.toNat s.2) < (List.length x))
 (.fn fis_S (List.getD x (Int.toNat s.2) ([], ([], zz2))) fun y =>
 (.b01 (!y)
 (.ret (.inr (Sum.inl ())))
 (LoopD.lp (rightR_l2 x) (rightR_l2_t x) (s.1, (s.2, ((List.getD x (Int.toNat s.2) ([], ([], zz2))).1, ((((List.length (List.getD x (Int.toNat s.2) ([], ([], zz2))).1) : Nat) : Int), (0 : Int))))) fun r =>
 (.s00 r (fun a =>
 (.ret (.inr (Sum.inl ())))) (fun b =>
 (.ret (.inl (b.1, (w64 (b.2 + (1 : Int))))))))))))))
 (.ret (.inr (Sum.inr (())))))
noncomputable def rightR (x : (List ((List Int) × ((List I6) × I2)))) : Bool :=
 (letV (run (rightR_l0_step x) ([], (0 : Int))) fun r =>
 (Sum.elim (fun a =>
 false) (fun b =>
 true) r))
noncomputable def rightR_pre (x : (List ((List Int) × ((List I6) × I2)))) : Prop :=
 (Term (rightR_l0_step x) (rightR_l0_pre x) ([], (0 : Int)))
noncomputable def rightR_t (x : (List ((List Int) × ((List I6) × I2)))) : Tr Bool true :=
 (LoopD.lp (rightR_l0 x) (rightR_l0_t x) ([], (0 : Int)) fun r =>
 (.s00 r (fun a =>
 (.ret false)) (fun b =>
 (.ret true))))
noncomputable abbrev rightR_S : FnS := ⟨(.one (Ty.sl (Ty.prod (Ty.sl yi) (Ty.prod (Ty.sl yy6) yy2)))), (.one Ty.bool), rightR_pre, rightR⟩
theorem rightR_ok : SpecOk Tryz.prog 87 (fnSpec rightR_S) := SpecOk.tr rightR_S rightR_t (fn := Tryz.f87) tt_ok sp_numbersM_ok mixed (by kernel_rfl) (ItsOk.nil _ _) (fun x => (LpsOk.tr tt_ok (SpecsOk.ctxI sp_numbersM_ok (ItsOk.nil _ _)) mixed 0 (rightR_l0 x) (rightR_l0_t x) (LpsOk.tr tt_ok (SpecsOk.ctxI sp_numbersM_ok (ItsOk.nil _ _)) mixed 2 (rightR_l2 x) (rightR_l2_t x) LpsOk.nil (by kernel_rfl) fun g s Q => (by kernel_rfl)) (by kernel_rfl) fun g s Q => (by kernel_rfl))) (fun x => (by kernel_rfl)) fun x Q => (by kernel_rfl)
def sp_rightR : List (Nat × Ev.Spec) := (87, fnSpec rightR_S) :: sp_numbersM
theorem sp_rightR_ok : SpecsOk Tryz.prog sp_rightR := SpecsOk.add (fn := Tryz.f87) (by kernel_rfl) rightR_ok sp_numbersM_ok
noncomputable def sizeM (x : (((List Int) × ((List I6) × I2)) × Int)) : I2 :=
 ((w64 (x.1.2.2.1 + (w64 ((2 : Int) * x.2)))), (w64 (x.1.2.2.2 + (w64 ((2 : Int) * x.2)))))
noncomputable def sizeM_pre (_ : (((List Int) × ((List I6) × I2)) × Int)) : Prop := True
noncomputable def sizeM_t (x : (((List Int) × ((List I6) × I2)) × Int)) : Tr I2 false :=
 (.ret ((w64 (x.1.2.2.1 + (w64 ((2 : Int) * x.2)))), (w64 (x.1.2.2.2 + (w64 ((2 : Int) * x.2))))))
noncomputable abbrev sizeM_S : FnS := ⟨(.agg (Ty.prod (Ty.prod (Ty.sl yi) (Ty.prod (Ty.sl yy6) yy2)) yi)), (.agg yy2), sizeM_pre, sizeM⟩
theorem sizeM_ok : SpecOk Tryz.prog 88 (fnSpec sizeM_S) := SpecOk.tr sizeM_S sizeM_t (fn := Tryz.f88) tt_ok sp_rightR_ok mixed (by kernel_rfl) (ItsOk.nil _ _) (fun x => LpsOk.nil) (fun x => (by kernel_rfl)) fun x Q => (by kernel_rfl)
def sp_sizeM : List (Nat × Ev.Spec) := (88, fnSpec sizeM_S) :: sp_rightR
theorem sp_sizeM_ok : SpecsOk Tryz.prog sp_sizeM := SpecsOk.add (fn := Tryz.f88) (by kernel_rfl) sizeM_ok sp_rightR_ok
noncomputable def isM_l0 (x : (Int × (Int × (Int × ((List ((List Int) × ((List I6) × I2))) × (List (Int × I3))))))) : LoopD := ⟨[], ⟨pvs 61 0 [(1, .v (.one (.ptr 0 0))), (30, .v (.one (.full 1))), (31, .v (.one (.i .i64))), (32, .v (.one (.i .i64)))], [.cells [.i .i64, .i .i64, .i .i64, .full 1, .full 2] 36, .row (Ty.prod (Ty.sl yi) (Ty.prod (Ty.sl yy6) yy2)) 0, .row (Ty.prod yi yy3) 0], 0, none, [], [0, 2, 3, 4, 5, 6], [1], [.i], [.i (((List.length x.2.2.2.1) : Nat) : Int), .i x.1, .i x.2.1, .i x.2.2.1, .l (Ty.prod (Ty.sl yi) (Ty.prod (Ty.sl yy6) yy2)) x.2.2.2.1, .l (Ty.prod yi yy3) x.2.2.2.2]⟩, [⟨.ret, .ret, ⟨pvs 61 0 [(2, .v (.one (.b)))], [], 0, none, [], [0], [], [], [.b false]⟩⟩, ⟨(.exit 0), .normal, ⟨pvs 61 0 [(1, .v (.one (.ptr 0 0)))], [.cells [.i .i64, .i .i64, .i .i64, .full 1, .full 2] 36, .row (Ty.prod (Ty.sl yi) (Ty.prod (Ty.sl yy6) yy2)) 0, .row (Ty.prod yi yy3) 0], 0, none, [], [0, 1, 2, 3, 4], [], [], [.i x.1, .i x.2.1, .i x.2.2.1, .l (Ty.prod (Ty.sl yi) (Ty.prod (Ty.sl yy6) yy2)) x.2.2.2.1, .l (Ty.prod yi yy3) x.2.2.2.2]⟩⟩]⟩
noncomputable def isM_l0_step (x : (Int × (Int × (Int × ((List ((List Int) × ((List I6) × I2))) × (List (Int × I3))))))) (s : Int) : Int ⊕ (Unit ⊕ Unit) :=
 (if (s < (((List.length x.2.2.2.1) : Nat) : Int)) then
 (letV (sizeM ((List.getD x.2.2.2.1 (Int.toNat s) ([], ([], ((0 : Int), (0 : Int))))), x.2.2.1)) fun y =>
 (if ((!(((List.getD x.2.2.2.2 (Int.toNat s) ((0 : Int), ((0 : Int), ((0 : Int), (0 : Int))))).2.2.1 == y.1) && (((List.getD x.2.2.2.2 (Int.toNat s) ((0 : Int), ((0 : Int), ((0 : Int), (0 : Int))))).2.2.2 == y.2) && true))) = true) then
 (Sum.inr (Sum.inl ())) else
 (Sum.inl (w64 (s + (1 : Int)))))) else
 (Sum.inr (Sum.inr (()))))
noncomputable def isM_l0_pre (x : (Int × (Int × (Int × ((List ((List Int) × ((List I6) × I2))) × (List (Int × I3))))))) (s : Int) : Prop :=
 ((s < (((List.length x.2.2.2.1) : Nat) : Int)) →
 ((((0 : Int) ≤ s) ∧ (s < (((List.length x.2.2.2.1) : Nat) : Int))) ∧
 (((Int.toNat s) < (List.length x.2.2.2.1)) ∧
 (((Int.toNat s) < (List.length x.2.2.2.1)) ∧
 ((((0 : Int) ≤ s) ∧ (s < (((List.length x.2.2.2.2) : Nat) : Int))) ∧
 (((Int.toNat s) < (List.length x.2.2.2.2)) ∧
 ((Int.toNat s) < (List.length x.2.2.2.2))))))))
noncomputable def isM_l0_t (x : (Int × (Int × (Int × ((List ((List Int) × ((List I6) × I2))) × (List (Int × I3))))))) (s : Int) : Tr (Int ⊕ (Unit ⊕ Unit)) true :=
 (.i10 (s < (((List.length x.2.2.2.1) : Nat) : Int))
 (.oR s (((List.length x.2.2.2.1) : Nat) : Int)
 (.od ((Int.toNat s) < (List.length x.2.2.2.1))
 (.od ((Int.toNat s) < (List.length x.2.2.2.1))
 (.oR s (((List.length x.2.2.2.2) : Nat) : Int)
 (.od ((Int.toNat s) < (List.length x.2.2.2.2))
 (.od ((Int.toNat s) < (List.length x.2.2.2.2))
 (.fn0 sizeM_S ((List.getD x.2.2.2.1 (Int.toNat s) ([], ([], zz2))), x.2.2.1) trivial fun y =>
 (.b00 (!(((List.getD x.2.2.2.2 (Int.toNat s) ((0 : Int), zz3)).2.2.1 == y.1) && (((List.getD x.2.2.2.2 (Int.toNat s) ((0 : Int), zz3)).2.2.2 == y.2) && true)))
 (.ret (.inr (Sum.inl ())))
 (.ret (.inl (w64 (s + (1 : Int)))))))))))))
 (.ret (.inr (Sum.inr (())))))
noncomputable def isM (x : (Int × (Int × (Int × ((List ((List Int) × ((List I6) × I2))) × (List (Int × I3))))))) : Bool :=
 (letV (numbersM (x.1, (x.2.1, x.2.2.1))) fun y =>
 (if ((!y) = true) then
 false else
 (if (((((List.length x.2.2.2.2) : Nat) : Int) != (((List.length x.2.2.2.1) : Nat) : Int)) = true) then
 false else
 (letV (rightR x.2.2.2.1) fun y_1 =>
 (if ((!y_1) = true) then
 false else
 (letV (run (isM_l0_step x) (0 : Int)) fun r =>
 (Sum.elim (fun a =>
 false) (fun b =>
 (letV (shis (x.1, (x.2.1, x.2.2.2.2))) fun y_2 =>
 y_2)) r)))))))
noncomputable def isM_pre (x : (Int × (Int × (Int × ((List ((List Int) × ((List I6) × I2))) × (List (Int × I3))))))) : Prop :=
 (letP (numbersM (x.1, (x.2.1, x.2.2.1))) fun y =>
 (¬ ((!y) = true) →
 (¬ (((((List.length x.2.2.2.2) : Nat) : Int) != (((List.length x.2.2.2.1) : Nat) : Int)) = true) →
 ((rightR_pre x.2.2.2.1) ∧
 letP (rightR x.2.2.2.1) fun y_1 =>
 (¬ ((!y_1) = true) →
 (Term (isM_l0_step x) (isM_l0_pre x) (0 : Int) ∧
 letP (run (isM_l0_step x) (0 : Int)) fun r =>
 (cS r (fun a =>
 True) (fun b =>
 (shis_pre (x.1, (x.2.1, x.2.2.2.2)))))))))))
noncomputable def isM_t (x : (Int × (Int × (Int × ((List ((List Int) × ((List I6) × I2))) × (List (Int × I3))))))) : Tr Bool true :=
 (.fn0 numbersM_S (x.1, (x.2.1, x.2.2.1)) trivial fun y =>
 (.b01 (!y)
 (.ret false)
 (.b01 ((((List.length x.2.2.2.2) : Nat) : Int) != (((List.length x.2.2.2.1) : Nat) : Int))
 (.ret false)
 (.fn rightR_S x.2.2.2.1 fun y_1 =>
 (.b01 (!y_1)
 (.ret false)
 (LoopD.lp (isM_l0 x) (isM_l0_t x) (0 : Int) fun r =>
 (.s01 r (fun a =>
 (.ret false)) (fun b =>
 (.fn shis_S (x.1, (x.2.1, x.2.2.2.2)) fun y_2 =>
 (.ret y_2))))))))))
noncomputable abbrev isM_S : FnS := ⟨(.agg (Ty.prod yi (Ty.prod yi (Ty.prod yi (Ty.prod (Ty.sl (Ty.prod (Ty.sl yi) (Ty.prod (Ty.sl yy6) yy2))) (Ty.sl (Ty.prod yi yy3))))))), (.one Ty.bool), isM_pre, isM⟩
theorem isM_ok : SpecOk Tryz.prog 47 (fnSpec isM_S) := SpecOk.tr isM_S isM_t (fn := Tryz.f47) tt_ok sp_sizeM_ok mixed (by kernel_rfl) (ItsOk.nil _ _) (fun x => (LpsOk.tr tt_ok (SpecsOk.ctxI sp_sizeM_ok (ItsOk.nil _ _)) mixed 0 (isM_l0 x) (isM_l0_t x) LpsOk.nil (by kernel_rfl) fun g s Q => (by kernel_rfl))) (fun x => (by kernel_rfl)) fun x Q => (by kernel_rfl)
def sp_isM : List (Nat × Ev.Spec) := (47, fnSpec isM_S) :: sp_sizeM
theorem sp_isM_ok : SpecsOk Tryz.prog sp_isM := SpecsOk.add (fn := Tryz.f47) (by kernel_rfl) isM_ok sp_sizeM_ok
noncomputable def allM_l0 (x : (Int × (Int × (Int × ((List ((List Int) × ((List I6) × I2))) × (List (Int × I3))))))) : LoopD := ⟨[], ⟨pvs 64 0 [(1, .v (.one (.ptr 0 0))), (5, .v (.one (.full 3))), (6, .v (.one (.full 4))), (15, .v (.one (.full 1))), (16, .v (.one (.i .i64))), (17, .v (.one (.i .i64)))], [.cells [.i .i64, .i .i64, .i .i64, .full 1, .full 2] 36, .row (Ty.prod (Ty.sl yi) (Ty.prod (Ty.sl yy6) yy2)) 0, .row (Ty.prod yi yy3) 0, .row yy6 2, .row yi 2], 0, none, [], [0, 2, 3, 4, 5, 6], [7, 8, 1], [(.l yy6), (.l yi), .i], [.i (((List.length x.2.2.2.1) : Nat) : Int), .i x.1, .i x.2.1, .i x.2.2.1, .l (Ty.prod (Ty.sl yi) (Ty.prod (Ty.sl yy6) yy2)) x.2.2.2.1, .l (Ty.prod yi yy3) x.2.2.2.2]⟩, [⟨.ret, .ret, ⟨pvs 64 0 [(2, .v (.one (.raw))), (3, .v (.one (.raw))), (4, .v (.one (.i .i64)))], [], 0, none, [], [0, 1], [2], [.i], [.v (.slice none 0 0), .v (.slice none 0 0)]⟩⟩, ⟨(.exit 0), .normal, ⟨pvs 64 0 [(5, .v (.one (.full 0))), (6, .v (.one (.full 1)))], [.row yy6 2, .row yi 2], 0, none, [], [], [0, 1], [(.l yy6), (.l yi)], []⟩⟩]⟩
noncomputable def allM_l0_step (x : (Int × (Int × (Int × ((List ((List Int) × ((List I6) × I2))) × (List (Int × I3))))))) (s : ((List I6) × ((List Int) × Int))) : ((List I6) × ((List Int) × Int)) ⊕ (Int ⊕ ((List I6) × (List Int))) :=
 (if (s.2.2 < (((List.length x.2.2.2.1) : Nat) : Int)) then
 (letV (fmove ((List.getD x.2.2.2.1 (Int.toNat s.2.2) ([], ([], ((0 : Int), (0 : Int))))), ((w64 ((16 : Int) * (w64 ((List.getD x.2.2.2.2 (Int.toNat s.2.2) ((0 : Int), ((0 : Int), ((0 : Int), (0 : Int))))).1 + x.2.2.1)))), (w64 ((16 : Int) * (w64 ((List.getD x.2.2.2.2 (Int.toNat s.2.2) ((0 : Int), ((0 : Int), ((0 : Int), (0 : Int))))).2.1 + x.2.2.1))))))) fun y =>
 (if ((y.2 != (0 : Int)) = true) then
 (Sum.inr (Sum.inl y.2)) else
 (letV (repeatM ([s.2.2], (((List.length y.1) : Nat) : Int))) fun y_1 =>
 (Sum.inl ((s.1 ++ y.1), ((s.2.1 ++ y_1), (w64 (s.2.2 + (1 : Int))))))))) else
 (Sum.inr (Sum.inr ((s.1, s.2.1)))))
noncomputable def allM_l0_pre (x : (Int × (Int × (Int × ((List ((List Int) × ((List I6) × I2))) × (List (Int × I3))))))) (s : ((List I6) × ((List Int) × Int))) : Prop :=
 ((s.2.2 < (((List.length x.2.2.2.1) : Nat) : Int)) →
 ((((0 : Int) ≤ s.2.2) ∧ (s.2.2 < (((List.length x.2.2.2.1) : Nat) : Int))) ∧
 (((Int.toNat s.2.2) < (List.length x.2.2.2.1)) ∧
 (((Int.toNat s.2.2) < (List.length x.2.2.2.1)) ∧
 ((((0 : Int) ≤ s.2.2) ∧ (s.2.2 < (((List.length x.2.2.2.2) : Nat) : Int))) ∧
 (((Int.toNat s.2.2) < (List.length x.2.2.2.2)) ∧
 (((Int.toNat s.2.2) < (List.length x.2.2.2.2)) ∧
 (((Int.toNat s.2.2) < (List.length x.2.2.2.2)) ∧
 ((((0 : Int) ≤ s.2.2) ∧ (s.2.2 < (((List.length x.2.2.2.2) : Nat) : Int))) ∧
 (((Int.toNat s.2.2) < (List.length x.2.2.2.2)) ∧
 (((Int.toNat s.2.2) < (List.length x.2.2.2.2)) ∧
 (((Int.toNat s.2.2) < (List.length x.2.2.2.2)) ∧
 ((fmove_pre ((List.getD x.2.2.2.1 (Int.toNat s.2.2) ([], ([], ((0 : Int), (0 : Int))))), ((w64 ((16 : Int) * (w64 ((List.getD x.2.2.2.2 (Int.toNat s.2.2) ((0 : Int), ((0 : Int), ((0 : Int), (0 : Int))))).1 + x.2.2.1)))), (w64 ((16 : Int) * (w64 ((List.getD x.2.2.2.2 (Int.toNat s.2.2) ((0 : Int), ((0 : Int), ((0 : Int), (0 : Int))))).2.1 + x.2.2.1))))))) ∧
 letP (fmove ((List.getD x.2.2.2.1 (Int.toNat s.2.2) ([], ([], ((0 : Int), (0 : Int))))), ((w64 ((16 : Int) * (w64 ((List.getD x.2.2.2.2 (Int.toNat s.2.2) ((0 : Int), ((0 : Int), ((0 : Int), (0 : Int))))).1 + x.2.2.1)))), (w64 ((16 : Int) * (w64 ((List.getD x.2.2.2.2 (Int.toNat s.2.2) ((0 : Int), ((0 : Int), ((0 : Int), (0 : Int))))).2.1 + x.2.2.1))))))) fun y =>
 (¬ ((y.2 != (0 : Int)) = true) →
 ((((List.length s.1) + (List.length y.1)) < 1099511627776) ∧
 ((repeatM_pre ([s.2.2], (((List.length y.1) : Nat) : Int))) ∧
 letP (repeatM ([s.2.2], (((List.length y.1) : Nat) : Int))) fun y_1 =>
 (((List.length s.2.1) + (List.length y_1)) < 1099511627776)))))))))))))))))
noncomputable def allM_l0_t (x : (Int × (Int × (Int × ((List ((List Int) × ((List I6) × I2))) × (List (Int × I3))))))) (s : ((List I6) × ((List Int) × Int))) : Tr (((List I6) × ((List Int) × Int)) ⊕ (Int ⊕ ((List I6) × (List Int)))) true :=
 (.i10 (s.2.2 < (((List.length x.2.2.2.1) : Nat) : Int))
 (.oR s.2.2 (((List.length x.2.2.2.1) : Nat) : Int)
 (.od ((Int.toNat s.2.2) < (List.length x.2.2.2.1))
 (.od ((Int.toNat s.2.2) < (List.length x.2.2.2.1))
 (.oR s.2.2 (((List.length x.2.2.2.2) : Nat) : Int)
 (.od ((Int.toNat s.2.2) < (List.length x.2.2.2.2))
 (.od ((Int.toNat s.2.2) < (List.length x.2.2.2.2))
 (.od ((Int.toNat s.2.2) < (List.length x.2.2.2.2))
 (.oR s.2.2 (((List.length x.2.2.2.2) : Nat) : Int)
 (.od ((Int.toNat s.2.2) < (List.length x.2.2.2.2))
 (.od ((Int.toNat s.2.2) < (List.length x.2.2.2.2))
 (.od ((Int.toNat s.2.2) < (List.length x.2.2.2.2))
 (.fn fmove_S ((List.getD x.2.2.2.1 (Int.toNat s.2.2) ([], ([], zz2))), ((w64 ((16 : Int) * (w64 ((List.getD x.2.2.2.2 (Int.toNat s.2.2) ((0 : Int), zz3)).1 + x.2.2.1)))), (w64 ((16 : Int) * (w64 ((List.getD x.2.2.2.2 (Int.toNat s.2.2) ((0 : Int), zz3)).2.1 + x.2.2.1)))))) fun y =>
 (.b01 (y.2 != (0 : Int))
 (.ret (.inr (Sum.inl y.2)))
 (.od (((List.length s.1) + (List.length y.1)) < 1099511627776)
 (.fn repeatM_S ([s.2.2], (((List.length y.1) : Nat) : Int)) fun y_1 =>
 (.od (((List.length s.2.1) + (List.length y_1)) < 1099511627776)
 (.ret (.inl ((s.1 ++ y.1), ((s.2.1 ++ y_1), (w64 (s.2.2 + (1 : Int)))))))))))))))))))))))
 (.ret (.inr (Sum.inr ((s.1, s.2.1))))))
noncomputable def allM (x : (Int × (Int × (Int × ((List ((List Int) × ((List I6) × I2))) × (List (Int × I3))))))) : ((List I6) × ((List Int) × Int)) :=
 (letV (isM x) fun y =>
 (if ((!y) = true) then
 ([], ([], (1 : Int))) else
 (letV (run (allM_l0_step x) ([], ([], (0 : Int)))) fun r =>
 (Sum.elim (fun a =>
 ([], ([], a))) (fun b =>
 (b.1, (b.2, (0 : Int)))) r))))
noncomputable def allM_pre (x : (Int × (Int × (Int × ((List ((List Int) × ((List I6) × I2))) × (List (Int × I3))))))) : Prop :=
 ((isM_pre x) ∧
 letP (isM x) fun y =>
 (¬ ((!y) = true) →
 (Term (allM_l0_step x) (allM_l0_pre x) ([], ([], (0 : Int))))))
noncomputable def allM_t (x : (Int × (Int × (Int × ((List ((List Int) × ((List I6) × I2))) × (List (Int × I3))))))) : Tr ((List I6) × ((List Int) × Int)) true :=
 (.fn isM_S x fun y =>
 (.b01 (!y)
 (.ret ([], ([], (1 : Int))))
 (LoopD.lp (allM_l0 x) (allM_l0_t x) ([], ([], (0 : Int))) fun r =>
 (.s00 r (fun a =>
 (.ret ([], ([], a)))) (fun b =>
 (.ret (b.1, (b.2, (0 : Int)))))))))
noncomputable abbrev allM_S : FnS := ⟨(.agg (Ty.prod yi (Ty.prod yi (Ty.prod yi (Ty.prod (Ty.sl (Ty.prod (Ty.sl yi) (Ty.prod (Ty.sl yy6) yy2))) (Ty.sl (Ty.prod yi yy3))))))), (.pair (.one (Ty.sl yy6)) (.pair (.one (Ty.sl yi)) (.one yi))), allM_pre, allM⟩
theorem allM_ok : SpecOk Tryz.prog 21 (fnSpec allM_S) := SpecOk.tr allM_S allM_t (fn := Tryz.f21) tt_ok sp_isM_ok mixed (by kernel_rfl) (ItsOk.nil _ _) (fun x => (LpsOk.tr tt_ok (SpecsOk.ctxI sp_isM_ok (ItsOk.nil _ _)) mixed 0 (allM_l0 x) (allM_l0_t x) LpsOk.nil (by kernel_rfl) fun g s Q => (by kernel_rfl))) (fun x => (by kernel_rfl)) fun x Q => (by kernel_rfl)
def sp_allM : List (Nat × Ev.Spec) := (21, fnSpec allM_S) :: sp_isM
theorem sp_allM_ok : SpecsOk Tryz.prog sp_allM := SpecsOk.add (fn := Tryz.f21) (by kernel_rfl) allM_ok sp_isM_ok
noncomputable def findM_l0 (x : ((Int × (Int × (Int × ((List ((List Int) × ((List I6) × I2))) × (List (Int × I3)))))) × Int)) : LoopD := ⟨[], ⟨pvs 48 0 [(1, .v (.one (.i .i64))), (4, .v (.one (.ptr 0 0))), (6, .v (.one (.full 1))), (9, .v (.one (.i .i64))), (23, .v (.one (.full 2))), (24, .v (.one (.i .i64))), (25, .v (.one (.i .i64)))], [.cells [.i .i64, .i .i64, .i .i64, .i .i64, .i .i64, .i .i64] 24, .row yy6 2, .row (Ty.prod (Ty.sl yi) (Ty.prod (Ty.sl yy6) yy2)) 0], 0, none, [], [0, 2, 4, 5, 6, 7, 8, 9, 11], [10, 1, 3], [(.l yy6), .i, .i], [.i x.2, .i (((List.length x.1.2.2.2.1) : Nat) : Int), .i (0 : Int), .i (0 : Int), .i (0 : Int), .i (0 : Int), .i (0 : Int), .i (0 : Int), .l (Ty.prod (Ty.sl yi) (Ty.prod (Ty.sl yy6) yy2)) x.1.2.2.2.1]⟩, [⟨.ret, .ret, ⟨pvs 48 0 [(4, .v (.one (.ptr 0 0))), (5, .v (.one (.b)))], [.cells [.i .i64, .i .i64, .i .i64, .i .i64, .i .i64, .i .i64] 24], 0, none, [], [0], [1, 2, 3, 4, 5, 6], [.i, .i, .i, .i, .i, .i], [.b true]⟩⟩, ⟨(.exit 0), .normal, ⟨pvs 48 0 [(4, .v (.one (.ptr 0 0)))], [.cells [.i .i64, .i .i64, .i .i64, .i .i64, .i .i64, .i .i64] 24], 0, none, [], [0, 1, 2, 3, 4, 5], [], [], [.i (0 : Int), .i (0 : Int), .i (0 : Int), .i (0 : Int), .i (0 : Int), .i (0 : Int)]⟩⟩]⟩
noncomputable def findM_l0_step (x : ((Int × (Int × (Int × ((List ((List Int) × ((List I6) × I2))) × (List (Int × I3)))))) × Int)) (s : ((List I6) × I2)) : ((List I6) × I2) ⊕ ((Int × (Int × (Int × I3))) ⊕ Unit) :=
 (if (s.2.2 < (((List.length x.1.2.2.2.1) : Nat) : Int)) then
 (letV (indexI ((List.getD x.1.2.2.2.1 (Int.toNat s.2.2) ([], ([], ((0 : Int), (0 : Int))))).1, x.2)) fun y =>
 (if (y ≥ (0 : Int)) then
 (Sum.inr (Sum.inl ((List.getD s.1 (Int.toNat (w64 (s.2.1 + y))) (((0 : Int), (0 : Int)), (((0 : Int), (0 : Int)), ((0 : Int), (0 : Int))))).1.1, ((List.getD s.1 (Int.toNat (w64 (s.2.1 + y))) (((0 : Int), (0 : Int)), (((0 : Int), (0 : Int)), ((0 : Int), (0 : Int))))).1.2, ((List.getD s.1 (Int.toNat (w64 (s.2.1 + y))) (((0 : Int), (0 : Int)), (((0 : Int), (0 : Int)), ((0 : Int), (0 : Int))))).2.1.1, ((List.getD s.1 (Int.toNat (w64 (s.2.1 + y))) (((0 : Int), (0 : Int)), (((0 : Int), (0 : Int)), ((0 : Int), (0 : Int))))).2.1.2, ((List.getD s.1 (Int.toNat (w64 (s.2.1 + y))) (((0 : Int), (0 : Int)), (((0 : Int), (0 : Int)), ((0 : Int), (0 : Int))))).2.2.1, (List.getD s.1 (Int.toNat (w64 (s.2.1 + y))) (((0 : Int), (0 : Int)), (((0 : Int), (0 : Int)), ((0 : Int), (0 : Int))))).2.2.2))))))) else
 (Sum.inl (s.1, ((w64 (s.2.1 + (((List.length (List.getD x.1.2.2.2.1 (Int.toNat s.2.2) ([], ([], ((0 : Int), (0 : Int))))).1) : Nat) : Int))), (w64 (s.2.2 + (1 : Int)))))))) else
 (Sum.inr (Sum.inr (()))))
noncomputable def findM_l0_pre (x : ((Int × (Int × (Int × ((List ((List Int) × ((List I6) × I2))) × (List (Int × I3)))))) × Int)) (s : ((List I6) × I2)) : Prop :=
 ((s.2.2 < (((List.length x.1.2.2.2.1) : Nat) : Int)) →
 ((((0 : Int) ≤ s.2.2) ∧ (s.2.2 < (((List.length x.1.2.2.2.1) : Nat) : Int))) ∧
 (((Int.toNat s.2.2) < (List.length x.1.2.2.2.1)) ∧
 (((Int.toNat s.2.2) < (List.length x.1.2.2.2.1)) ∧
 ((indexI_pre ((List.getD x.1.2.2.2.1 (Int.toNat s.2.2) ([], ([], ((0 : Int), (0 : Int))))).1, x.2)) ∧
 letP (indexI ((List.getD x.1.2.2.2.1 (Int.toNat s.2.2) ([], ([], ((0 : Int), (0 : Int))))).1, x.2)) fun y =>
 ((y ≥ (0 : Int)) →
 ((((0 : Int) ≤ (w64 (s.2.1 + y))) ∧ ((w64 (s.2.1 + y)) < (((List.length s.1) : Nat) : Int))) ∧
 (((Int.toNat (w64 (s.2.1 + y))) < (List.length s.1)) ∧
 ((Int.toNat (w64 (s.2.1 + y))) < (List.length s.1))))))))))
noncomputable def findM_l0_t (x : ((Int × (Int × (Int × ((List ((List Int) × ((List I6) × I2))) × (List (Int × I3)))))) × Int)) (s : ((List I6) × I2)) : Tr (((List I6) × I2) ⊕ ((Int × (Int × (Int × I3))) ⊕ Unit)) true :=
 (.i10 (s.2.2 < (((List.length x.1.2.2.2.1) : Nat) : Int))
 (.oR s.2.2 (((List.length x.1.2.2.2.1) : Nat) : Int)
 (.od ((Int.toNat s.2.2) < (List.length x.1.2.2.2.1))
 (.od ((Int.toNat s.2.2) < (List.length x.1.2.2.2.1))
 (.fn indexI_S ((List.getD x.1.2.2.2.1 (Int.toNat s.2.2) ([], ([], zz2))).1, x.2) fun y =>
 (.i10 (y ≥ (0 : Int))
 (.oR (w64 (s.2.1 + y)) (((List.length s.1) : Nat) : Int)
 (.od ((Int.toNat (w64 (s.2.1 + y))) < (List.length s.1))
 (.od ((Int.toNat (w64 (s.2.1 + y))) < (List.length s.1))
 (.ret (.inr (Sum.inl ((List.getD s.1 (Int.toNat (w64 (s.2.1 + y))) zz6).1.1, ((List.getD s.1 (Int.toNat (w64 (s.2.1 + y))) zz6).1.2, ((List.getD s.1 (Int.toNat (w64 (s.2.1 + y))) zz6).2.1.1, ((List.getD s.1 (Int.toNat (w64 (s.2.1 + y))) zz6).2.1.2, ((List.getD s.1 (Int.toNat (w64 (s.2.1 + y))) zz6).2.2.1, (List.getD s.1 (Int.toNat (w64 (s.2.1 + y))) zz6).2.2.2)))))))))))
 (.ret (.inl (s.1, ((w64 (s.2.1 + (((List.length (List.getD x.1.2.2.2.1 (Int.toNat s.2.2) ([], ([], zz2))).1) : Nat) : Int))), (w64 (s.2.2 + (1 : Int))))))))))))
 (.ret (.inr (Sum.inr (())))))
noncomputable def findM (x : ((Int × (Int × (Int × ((List ((List Int) × ((List I6) × I2))) × (List (Int × I3)))))) × Int)) : (I6 × Bool) :=
 (letV (allM x.1) fun y =>
 (if ((y.2.2 != (0 : Int)) = true) then
 ((((0 : Int), (0 : Int)), (((0 : Int), (0 : Int)), ((0 : Int), (0 : Int)))), false) else
 (letV (run (findM_l0_step x) (y.1, ((0 : Int), (0 : Int)))) fun r =>
 (Sum.elim (fun a =>
 (((a.1, a.2.1), ((a.2.2.1, a.2.2.2.1), a.2.2.2.2)), true)) (fun b =>
 ((((0 : Int), (0 : Int)), (((0 : Int), (0 : Int)), ((0 : Int), (0 : Int)))), false)) r))))
noncomputable def findM_pre (x : ((Int × (Int × (Int × ((List ((List Int) × ((List I6) × I2))) × (List (Int × I3)))))) × Int)) : Prop :=
 ((allM_pre x.1) ∧
 letP (allM x.1) fun y =>
 (¬ ((y.2.2 != (0 : Int)) = true) →
 (Term (findM_l0_step x) (findM_l0_pre x) (y.1, ((0 : Int), (0 : Int))))))
noncomputable def findM_t (x : ((Int × (Int × (Int × ((List ((List Int) × ((List I6) × I2))) × (List (Int × I3)))))) × Int)) : Tr (I6 × Bool) true :=
 (.fn allM_S x.1 fun y =>
 (.b01 (y.2.2 != (0 : Int))
 (.ret (zz6, false))
 (LoopD.lp (findM_l0 x) (findM_l0_t x) (y.1, zz2) fun r =>
 (.s00 r (fun a =>
 (.ret (((a.1, a.2.1), ((a.2.2.1, a.2.2.2.1), a.2.2.2.2)), true))) (fun b =>
 (.ret (zz6, false)))))))
noncomputable abbrev findM_S : FnS := ⟨(.pair (.agg (Ty.prod yi (Ty.prod yi (Ty.prod yi (Ty.prod (Ty.sl (Ty.prod (Ty.sl yi) (Ty.prod (Ty.sl yy6) yy2))) (Ty.sl (Ty.prod yi yy3))))))) (.one yi)), (.pair (.agg yy6) (.one Ty.bool)), findM_pre, findM⟩
theorem findM_ok : SpecOk Tryz.prog 25 (fnSpec findM_S) := SpecOk.tr findM_S findM_t (fn := Tryz.f25) tt_ok sp_allM_ok mixed (by kernel_rfl) (ItsOk.nil _ _) (fun x => (LpsOk.tr tt_ok (SpecsOk.ctxI sp_allM_ok (ItsOk.nil _ _)) mixed 0 (findM_l0 x) (findM_l0_t x) LpsOk.nil (by kernel_rfl) fun g s Q => (by kernel_rfl))) (fun x => (by kernel_rfl)) fun x Q => (by kernel_rfl)
def sp_findM : List (Nat × Ev.Spec) := (25, fnSpec findM_S) :: sp_allM
theorem sp_findM_ok : SpecsOk Tryz.prog sp_findM := SpecsOk.add (fn := Tryz.f25) (by kernel_rfl) findM_ok sp_allM_ok
end Go.Proofs.YtfgdjlhilladhaaGreat
