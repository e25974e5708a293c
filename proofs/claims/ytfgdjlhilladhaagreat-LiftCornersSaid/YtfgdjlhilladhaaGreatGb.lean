/- Models of functions of layer 20. -/
import Derived.Test.YtfgdjlhilladhaaGreatGa
namespace Go.Proofs.YtfgdjlhilladhaaGreat
open Go Go.Ev Go.Proofs
set_option linter.unusedVariables false
abbrev meshY : Ty := (.prod (.sl (.prod (.int .i64) (.prod (.int .i64) (.int .i64)))) (.prod (.sl (.prod (.int .i64) (.int .i64))) (.prod (.sl (.prod (.int .i64) (.prod (.int .i64) (.int .i64)))) (.sl (.prod (.prod (.int .i64) (.prod (.int .i64) (.int .i64))) (.prod (.prod (.int .i64) (.prod (.int .i64) (.int .i64))) (.prod (.int .i64) (.prod (.int .i64) (.int .i64)))))))))
noncomputable def lcentre (x : I2) : (I2 × Int) :=
 (if ((minI x.1 x.2) < (0 : Int)) then
 (((0 : Int), (0 : Int)), (5 : Int)) else
 (if ((maxI x.1 x.2) ≥ (256 : Int)) then
 (((0 : Int), (0 : Int)), (5 : Int)) else
 (((w64 ((w64 ((16 : Int) * x.1)) + (8 : Int))), (w64 ((w64 ((16 : Int) * x.2)) + (8 : Int)))), (0 : Int))))
noncomputable def lcentre_pre (_ : I2) : Prop := True
noncomputable def lcentre_t (x : I2) : Tr (I2 × Int) false :=
 (.i00 ((minI x.1 x.2) < (0 : Int))
 (.ret (zz2, (5 : Int)))
 (.i00 ((maxI x.1 x.2) ≥ (256 : Int))
 (.ret (zz2, (5 : Int)))
 (.ret (((w64 ((w64 ((16 : Int) * x.1)) + (8 : Int))), (w64 ((w64 ((16 : Int) * x.2)) + (8 : Int)))), (0 : Int)))))
noncomputable abbrev lcentre_S : FnS := ⟨(.pair (.one yi) (.one yi)), (.pair (.agg yy2) (.one yi)), lcentre_pre, lcentre⟩
theorem lcentre_ok : SpecOk Tryz.prog 9 (fnSpec lcentre_S) := SpecOk.tr lcentre_S lcentre_t (fn := Tryz.f9) tt_ok sp_rowners_ok mixed (by kernel_rfl) (ItsOk.nil _ _) (fun x => LpsOk.nil) (fun x => (by kernel_rfl)) fun x Q => (by kernel_rfl)
def sp_lcentre : List (Nat × Ev.Spec) := (9, fnSpec lcentre_S) :: sp_rowners
theorem sp_lcentre_ok : SpecsOk Tryz.prog sp_lcentre := SpecsOk.add (fn := Tryz.f9) (by kernel_rfl) lcentre_ok sp_rowners_ok
noncomputable def lpoint (x : (Int × (Int × (I6 × I9)))) : (I3 × Int) :=
 (letV (lcentre (x.1, x.2.1)) fun y =>
 (if ((y.2 != (0 : Int)) = true) then
 (((0 : Int), ((0 : Int), (0 : Int))), y.2) else
 (letV (closest (y.1, x.2.2.1)) fun y_1 =>
 (if ((y_1.2.2 != (0 : Int)) = true) then
 (((0 : Int), ((0 : Int), (0 : Int))), y_1.2.2) else
 (letV (nlift (y_1.1, x.2.2)) fun y_2 =>
 y_2)))))
noncomputable def lpoint_pre (x : (Int × (Int × (I6 × I9)))) : Prop :=
 (letP (lcentre (x.1, x.2.1)) fun y =>
 (¬ ((y.2 != (0 : Int)) = true) →
 ((closest_pre (y.1, x.2.2.1)) ∧
 letP (closest (y.1, x.2.2.1)) fun y_1 =>
 (¬ ((y_1.2.2 != (0 : Int)) = true) →
 (nlift_pre (y_1.1, x.2.2))))))
noncomputable def lpoint_t (x : (Int × (Int × (I6 × I9)))) : Tr (I3 × Int) true :=
 (.fn0 lcentre_S (x.1, x.2.1) trivial fun y =>
 (.b01 (y.2 != (0 : Int))
 (.ret (zz3, y.2))
 (.fn closest_S (y.1, x.2.2.1) fun y_1 =>
 (.b01 (y_1.2.2 != (0 : Int))
 (.ret (zz3, y_1.2.2))
 (.fn nlift_S (y_1.1, x.2.2) fun y_2 =>
 (.ret y_2))))))
noncomputable abbrev lpoint_S : FnS := ⟨(.pair (.one yi) (.pair (.one yi) (.pair (.agg yy6) (.agg yy9)))), (.pair (.agg yy3) (.one yi)), lpoint_pre, lpoint⟩
theorem lpoint_ok : SpecOk Tryz.prog 11 (fnSpec lpoint_S) := SpecOk.tr lpoint_S lpoint_t (fn := Tryz.f11) tt_ok sp_lcentre_ok mixed (by kernel_rfl) (ItsOk.nil _ _) (fun x => LpsOk.nil) (fun x => (by kernel_rfl)) fun x Q => (by kernel_rfl)
def sp_lpoint : List (Nat × Ev.Spec) := (11, fnSpec lpoint_S) :: sp_lcentre
theorem sp_lpoint_ok : SpecsOk Tryz.prog sp_lpoint := SpecsOk.add (fn := Tryz.f11) (by kernel_rfl) lpoint_ok sp_lcentre_ok
noncomputable def lodd (x : (Int × ((List I3) × ((List I2) × ((List I3) × (List I9)))))) : Bool :=
 (if (x.1 < (0 : Int)) then
 true else
 (decide (x.1 ≥ (((List.length x.2.2.2.2) : Nat) : Int))))
noncomputable def lodd_pre (_ : (Int × ((List I3) × ((List I2) × ((List I3) × (List I9)))))) : Prop := True
noncomputable def lodd_t (x : (Int × ((List I3) × ((List I2) × ((List I3) × (List I9)))))) : Tr Bool false :=
 (.i00 (x.1 < (0 : Int))
 (.ret true)
 (.ret (decide (x.1 ≥ (((List.length x.2.2.2.2) : Nat) : Int)))))
noncomputable abbrev lodd_S : FnS := ⟨(.pair (.one yi) (.ptr meshY)), (.one Ty.bool), lodd_pre, lodd⟩
theorem lodd_ok : SpecOk Tryz.prog 74 (fnSpec lodd_S) := SpecOk.tr lodd_S lodd_t (fn := Tryz.f74) tt_ok sp_lpoint_ok mixed (by kernel_rfl) (ItsOk.nil _ _) (fun x => LpsOk.nil) (fun x => (by kernel_rfl)) fun x Q => (by kernel_rfl)
def sp_lodd : List (Nat × Ev.Spec) := (74, fnSpec lodd_S) :: sp_lpoint
theorem sp_lodd_ok : SpecsOk Tryz.prog sp_lodd := SpecsOk.add (fn := Tryz.f74) (by kernel_rfl) lodd_ok sp_lpoint_ok
noncomputable def indexO_l0 (x : ((List Int) × ((List I3) × ((List I2) × ((List I3) × (List I9)))))) : LoopD := ⟨[], ⟨pvs 19 0 [(0, .v (.one (.full 0))), (1, .v (.one (.clo 74 0 [.elem 1]))), (7, .v (.one (.i .i64))), (8, .v (.one (.i .i64)))], [.row yi 0, .row (Ty.prod (Ty.sl yy3) (Ty.prod (Ty.sl yy2) (Ty.prod (Ty.sl yy3) (Ty.sl yy9)))) 0], 0, none, [], [0, 1, 3, 4], [2], [.i], [.n 0, .i (((List.length x.1) : Nat) : Int), .l yi x.1, .l (Ty.prod (Ty.sl yy3) (Ty.prod (Ty.sl yy2) (Ty.prod (Ty.sl yy3) (Ty.sl yy9)))) [x.2]]⟩, [⟨.ret, .ret, ⟨pvs 19 0 [(4, .v (.one (.i .i64)))], [], 0, none, [], [], [0], [.i], []⟩⟩, ⟨(.exit 0), .normal, ⟨pvs 19 0 [], [], 0, none, [], [], [], [], []⟩⟩]⟩
noncomputable def indexO_l0_step (x : ((List Int) × ((List I3) × ((List I2) × ((List I3) × (List I9)))))) (s : Int) : Int ⊕ (Int ⊕ Unit) :=
 (if (s < (((List.length x.1) : Nat) : Int)) then
 (letV (lodd ((List.getD x.1 (Int.toNat s) (0 : Int)), x.2)) fun y =>
 (if (y = true) then
 (Sum.inr (Sum.inl s)) else
 (Sum.inl (w64 (s + (1 : Int)))))) else
 (Sum.inr (Sum.inr (()))))
noncomputable def indexO_l0_pre (x : ((List Int) × ((List I3) × ((List I2) × ((List I3) × (List I9)))))) (s : Int) : Prop :=
 ((s < (((List.length x.1) : Nat) : Int)) →
 ((((0 : Int) ≤ s) ∧ (s < (((List.length x.1) : Nat) : Int))) ∧
 (((Int.toNat s) < (List.length x.1)) ∧
 ((Int.toNat s) < (List.length x.1)))))
noncomputable def indexO_l0_t (x : ((List Int) × ((List I3) × ((List I2) × ((List I3) × (List I9)))))) (s : Int) : Tr (Int ⊕ (Int ⊕ Unit)) true :=
 (.i10 (s < (((List.length x.1) : Nat) : Int))
 (.oR s (((List.length x.1) : Nat) : Int)
 (.od ((Int.toNat s) < (List.length x.1))
 (.od ((Int.toNat s) < (List.length x.1))
 (.fn0 lodd_S ((List.getD x.1 (Int.toNat s) (0 : Int)), x.2) trivial fun y =>
 (.b00 y
 (.ret (.inr (Sum.inl s)))
 (.ret (.inl (w64 (s + (1 : Int))))))))))
 (.ret (.inr (Sum.inr (())))))
noncomputable def indexO (x : ((List Int) × ((List I3) × ((List I2) × ((List I3) × (List I9)))))) : Int :=
 (letV (run (indexO_l0_step x) (0 : Int)) fun r =>
 (Sum.elim (fun a =>
 a) (fun b =>
 (-1 : Int)) r))
noncomputable def indexO_pre (x : ((List Int) × ((List I3) × ((List I2) × ((List I3) × (List I9)))))) : Prop :=
 (Term (indexO_l0_step x) (indexO_l0_pre x) (0 : Int))
noncomputable def indexO_t (x : ((List Int) × ((List I3) × ((List I2) × ((List I3) × (List I9)))))) : Tr Int true :=
 (LoopD.lp (indexO_l0 x) (indexO_l0_t x) (0 : Int) fun r =>
 (.s00 r (fun a =>
 (.ret a)) (fun b =>
 (.ret (-1 : Int)))))
noncomputable abbrev indexO_S : FnS := ⟨(.pair (.one (Ty.sl yi)) (.clo 74 (.ptr meshY))), (.one yi), indexO_pre, indexO⟩
theorem indexO_ok : SpecOk Tryz.prog 116 (fnSpec indexO_S) := SpecOk.tr indexO_S indexO_t (fn := Tryz.f116) tt_ok sp_lodd_ok mixed (by kernel_rfl) (ItsOk.nil _ _) (fun x => (LpsOk.tr tt_ok (SpecsOk.ctxI sp_lodd_ok (ItsOk.nil _ _)) mixed 0 (indexO_l0 x) (indexO_l0_t x) LpsOk.nil (by kernel_rfl) fun g s Q => (by kernel_rfl))) (fun x => (by kernel_rfl)) fun x Q => (by kernel_rfl)
def sp_indexO : List (Nat × Ev.Spec) := (116, fnSpec indexO_S) :: sp_lodd
theorem sp_indexO_ok : SpecsOk Tryz.prog sp_indexO := SpecsOk.add (fn := Tryz.f116) (by kernel_rfl) indexO_ok sp_lodd_ok
noncomputable def containsO (x : ((List Int) × ((List I3) × ((List I2) × ((List I3) × (List I9)))))) : Bool :=
 (letV (indexO x) fun y =>
 (decide (y ≥ (0 : Int))))
noncomputable def containsO_pre (x : ((List Int) × ((List I3) × ((List I2) × ((List I3) × (List I9)))))) : Prop :=
 (indexO_pre x)
noncomputable def containsO_t (x : ((List Int) × ((List I3) × ((List I2) × ((List I3) × (List I9)))))) : Tr Bool true :=
 (.fn indexO_S x fun y =>
 (.ret (decide (y ≥ (0 : Int)))))
noncomputable abbrev containsO_S : FnS := ⟨(.pair (.one (Ty.sl yi)) (.clo 74 (.ptr meshY))), (.one Ty.bool), containsO_pre, containsO⟩
theorem containsO_ok : SpecOk Tryz.prog 75 (fnSpec containsO_S) := SpecOk.tr containsO_S containsO_t (fn := Tryz.f75) tt_ok sp_indexO_ok mixed (by kernel_rfl) (ItsOk.nil _ _) (fun x => LpsOk.nil) (fun x => (by kernel_rfl)) fun x Q => (by kernel_rfl)
def sp_containsO : List (Nat × Ev.Spec) := (75, fnSpec containsO_S) :: sp_indexO
theorem sp_containsO_ok : SpecsOk Tryz.prog sp_containsO := SpecsOk.add (fn := Tryz.f75) (by kernel_rfl) containsO_ok sp_indexO_ok
noncomputable def lplaces_l0 (x : (((List I3) × ((List I2) × ((List I3) × (List I9)))) × (Int × (Int × (Int × ((List ((List Int) × ((List I6) × I2))) × (List (Int × I3)))))))) : LoopD := ⟨[], ⟨pvs 28 0 [(2, .v (.one (.ptr 0 0))), (6, .v (.one (.full 5))), (11, .v (.one (.full 6))), (12, .v (.one (.i .i64))), (13, .v (.one (.i .i64)))], [.cells [.full 1, .full 2, .full 3, .full 4] 32, .row yy3 0, .row yy2 0, .row yy3 0, .row yy9 0, .row yi 2, .row (Ty.prod (Ty.sl yi) (Ty.prod (Ty.sl yy6) yy2)) 0], 0, none, [], [0, 2, 3, 4, 5, 7], [6, 1], [(.l yi), .i], [.i (((List.length x.2.2.2.2.1) : Nat) : Int), .l yy3 x.1.1, .l yy2 x.1.2.1, .l yy3 x.1.2.2.1, .l yy9 x.1.2.2.2, .l (Ty.prod (Ty.sl yi) (Ty.prod (Ty.sl yy6) yy2)) x.2.2.2.2.1]⟩, [⟨(.exit 0), .normal, ⟨pvs 28 0 [(2, .v (.one (.ptr 0 0))), (6, .v (.one (.full 5)))], [.cells [.full 1, .full 2, .full 3, .full 4] 32, .row yy3 0, .row yy2 0, .row yy3 0, .row yy9 0, .row yi 2], 0, none, [], [0, 1, 2, 3], [4], [(.l yi)], [.l yy3 x.1.1, .l yy2 x.1.2.1, .l yy3 x.1.2.2.1, .l yy9 x.1.2.2.2]⟩⟩]⟩
noncomputable def lplaces_l0_step (x : (((List I3) × ((List I2) × ((List I3) × (List I9)))) × (Int × (Int × (Int × ((List ((List Int) × ((List I6) × I2))) × (List (Int × I3)))))))) (s : ((List Int) × Int)) : ((List Int) × Int) ⊕ (List Int) :=
 (if (s.2 < (((List.length x.2.2.2.2.1) : Nat) : Int)) then
 (Sum.inl ((s.1 ++ (List.getD x.2.2.2.2.1 (Int.toNat s.2) ([], ([], ((0 : Int), (0 : Int))))).1), (w64 (s.2 + (1 : Int))))) else
 (Sum.inr (s.1)))
noncomputable def lplaces_l0_pre (x : (((List I3) × ((List I2) × ((List I3) × (List I9)))) × (Int × (Int × (Int × ((List ((List Int) × ((List I6) × I2))) × (List (Int × I3)))))))) (s : ((List Int) × Int)) : Prop :=
 ((s.2 < (((List.length x.2.2.2.2.1) : Nat) : Int)) →
 ((((0 : Int) ≤ s.2) ∧ (s.2 < (((List.length x.2.2.2.2.1) : Nat) : Int))) ∧
 (((Int.toNat s.2) < (List.length x.2.2.2.2.1)) ∧
 (((Int.toNat s.2) < (List.length x.2.2.2.2.1)) ∧
 (((List.length s.1) + (List.length (List.getD x.2.2.2.2.1 (Int.toNat s.2) ([], ([], ((0 : Int), (0 : Int))))).1)) < 1099511627776)))))
noncomputable def lplaces_l0_t (x : (((List I3) × ((List I2) × ((List I3) × (List I9)))) × (Int × (Int × (Int × ((List ((List Int) × ((List I6) × I2))) × (List (Int × I3)))))))) (s : ((List Int) × Int)) : Tr (((List Int) × Int) ⊕ (List Int)) true :=
 (.i10 (s.2 < (((List.length x.2.2.2.2.1) : Nat) : Int))
 (.oR s.2 (((List.length x.2.2.2.2.1) : Nat) : Int)
 (.od ((Int.toNat s.2) < (List.length x.2.2.2.2.1))
 (.od ((Int.toNat s.2) < (List.length x.2.2.2.2.1))
 (.od (((List.length s.1) + (List.length (List.getD x.2.2.2.2.1 (Int.toNat s.2) ([], ([], zz2))).1)) < 1099511627776)
 (.ret (.inl ((s.1 ++ (List.getD x.2.2.2.2.1 (Int.toNat s.2) ([], ([], zz2))).1), (w64 (s.2 + (1 : Int))))))))))
 (.ret (.inr (s.1))))
noncomputable def lplaces (x : (((List I3) × ((List I2) × ((List I3) × (List I9)))) × (Int × (Int × (Int × ((List ((List Int) × ((List I6) × I2))) × (List (Int × I3)))))))) : ((List Int) × Bool) :=
 (letV (run (lplaces_l0_step x) ([], (0 : Int))) fun r =>
 (letV (containsO (r, x.1)) fun y =>
 (r, (!y))))
noncomputable def lplaces_pre (x : (((List I3) × ((List I2) × ((List I3) × (List I9)))) × (Int × (Int × (Int × ((List ((List Int) × ((List I6) × I2))) × (List (Int × I3)))))))) : Prop :=
 (Term (lplaces_l0_step x) (lplaces_l0_pre x) ([], (0 : Int)) ∧
 letP (run (lplaces_l0_step x) ([], (0 : Int))) fun r =>
 (containsO_pre (r, x.1)))
noncomputable def lplaces_t (x : (((List I3) × ((List I2) × ((List I3) × (List I9)))) × (Int × (Int × (Int × ((List ((List Int) × ((List I6) × I2))) × (List (Int × I3)))))))) : Tr ((List Int) × Bool) true :=
 (LoopD.lp (lplaces_l0 x) (lplaces_l0_t x) ([], (0 : Int)) fun r =>
 (.fn containsO_S (r, x.1) fun y =>
 (.ret (r, (!y)))))
noncomputable abbrev lplaces_S : FnS := ⟨(.pair (.agg (Ty.prod (Ty.sl yy3) (Ty.prod (Ty.sl yy2) (Ty.prod (Ty.sl yy3) (Ty.sl yy9))))) (.agg (Ty.prod yi (Ty.prod yi (Ty.prod yi (Ty.prod (Ty.sl (Ty.prod (Ty.sl yi) (Ty.prod (Ty.sl yy6) yy2))) (Ty.sl (Ty.prod yi yy3)))))))), (.pair (.one (Ty.sl yi)) (.one Ty.bool)), lplaces_pre, lplaces⟩
theorem lplaces_ok : SpecOk Tryz.prog 34 (fnSpec lplaces_S) := SpecOk.tr lplaces_S lplaces_t (fn := Tryz.f34) tt_ok sp_containsO_ok mixed (by kernel_rfl) (ItsOk.nil _ _) (fun x => (LpsOk.tr tt_ok (SpecsOk.ctxI sp_containsO_ok (ItsOk.nil _ _)) mixed 0 (lplaces_l0 x) (lplaces_l0_t x) LpsOk.nil (by kernel_rfl) fun g s Q => (by kernel_rfl))) (fun x => (by kernel_rfl)) fun x Q => (by kernel_rfl)
def sp_lplaces : List (Nat × Ev.Spec) := (34, fnSpec lplaces_S) :: sp_containsO
theorem sp_lplaces_ok : SpecsOk Tryz.prog sp_lplaces := SpecsOk.add (fn := Tryz.f34) (by kernel_rfl) lplaces_ok sp_containsO_ok
noncomputable def lpoints (x : (((List I3) × ((List I2) × ((List I3) × (List I9)))) × Int)) : I9 :=
 ((List.getD x.1.1 (Int.toNat (List.getD x.1.2.2.2 (Int.toNat x.2) (((0 : Int), ((0 : Int), (0 : Int))), (((0 : Int), ((0 : Int), (0 : Int))), ((0 : Int), ((0 : Int), (0 : Int)))))).1.1) ((0 : Int), ((0 : Int), (0 : Int)))), ((List.getD x.1.1 (Int.toNat (List.getD x.1.2.2.2 (Int.toNat x.2) (((0 : Int), ((0 : Int), (0 : Int))), (((0 : Int), ((0 : Int), (0 : Int))), ((0 : Int), ((0 : Int), (0 : Int)))))).2.1.1) ((0 : Int), ((0 : Int), (0 : Int)))), (List.getD x.1.1 (Int.toNat (List.getD x.1.2.2.2 (Int.toNat x.2) (((0 : Int), ((0 : Int), (0 : Int))), (((0 : Int), ((0 : Int), (0 : Int))), ((0 : Int), ((0 : Int), (0 : Int)))))).2.2.1) ((0 : Int), ((0 : Int), (0 : Int))))))
noncomputable def lpoints_pre (x : (((List I3) × ((List I2) × ((List I3) × (List I9)))) × Int)) : Prop :=
 ((((0 : Int) ≤ x.2) ∧ (x.2 < (((List.length x.1.2.2.2) : Nat) : Int))) ∧
 (((Int.toNat x.2) < (List.length x.1.2.2.2)) ∧
 (((Int.toNat x.2) < (List.length x.1.2.2.2)) ∧
 ((((0 : Int) ≤ (List.getD x.1.2.2.2 (Int.toNat x.2) (((0 : Int), ((0 : Int), (0 : Int))), (((0 : Int), ((0 : Int), (0 : Int))), ((0 : Int), ((0 : Int), (0 : Int)))))).1.1) ∧ ((List.getD x.1.2.2.2 (Int.toNat x.2) (((0 : Int), ((0 : Int), (0 : Int))), (((0 : Int), ((0 : Int), (0 : Int))), ((0 : Int), ((0 : Int), (0 : Int)))))).1.1 < (((List.length x.1.1) : Nat) : Int))) ∧
 (((Int.toNat (List.getD x.1.2.2.2 (Int.toNat x.2) (((0 : Int), ((0 : Int), (0 : Int))), (((0 : Int), ((0 : Int), (0 : Int))), ((0 : Int), ((0 : Int), (0 : Int)))))).1.1) < (List.length x.1.1)) ∧
 (((Int.toNat (List.getD x.1.2.2.2 (Int.toNat x.2) (((0 : Int), ((0 : Int), (0 : Int))), (((0 : Int), ((0 : Int), (0 : Int))), ((0 : Int), ((0 : Int), (0 : Int)))))).1.1) < (List.length x.1.1)) ∧
 ((((0 : Int) ≤ (List.getD x.1.2.2.2 (Int.toNat x.2) (((0 : Int), ((0 : Int), (0 : Int))), (((0 : Int), ((0 : Int), (0 : Int))), ((0 : Int), ((0 : Int), (0 : Int)))))).2.1.1) ∧ ((List.getD x.1.2.2.2 (Int.toNat x.2) (((0 : Int), ((0 : Int), (0 : Int))), (((0 : Int), ((0 : Int), (0 : Int))), ((0 : Int), ((0 : Int), (0 : Int)))))).2.1.1 < (((List.length x.1.1) : Nat) : Int))) ∧
 (((Int.toNat (List.getD x.1.2.2.2 (Int.toNat x.2) (((0 : Int), ((0 : Int), (0 : Int))), (((0 : Int), ((0 : Int), (0 : Int))), ((0 : Int), ((0 : Int), (0 : Int)))))).2.1.1) < (List.length x.1.1)) ∧
 (((Int.toNat (List.getD x.1.2.2.2 (Int.toNat x.2) (((0 : Int), ((0 : Int), (0 : Int))), (((0 : Int), ((0 : Int), (0 : Int))), ((0 : Int), ((0 : Int), (0 : Int)))))).2.1.1) < (List.length x.1.1)) ∧
 ((((0 : Int) ≤ (List.getD x.1.2.2.2 (Int.toNat x.2) (((0 : Int), ((0 : Int), (0 : Int))), (((0 : Int), ((0 : Int), (0 : Int))), ((0 : Int), ((0 : Int), (0 : Int)))))).2.2.1) ∧ ((List.getD x.1.2.2.2 (Int.toNat x.2) (((0 : Int), ((0 : Int), (0 : Int))), (((0 : Int), ((0 : Int), (0 : Int))), ((0 : Int), ((0 : Int), (0 : Int)))))).2.2.1 < (((List.length x.1.1) : Nat) : Int))) ∧
 (((Int.toNat (List.getD x.1.2.2.2 (Int.toNat x.2) (((0 : Int), ((0 : Int), (0 : Int))), (((0 : Int), ((0 : Int), (0 : Int))), ((0 : Int), ((0 : Int), (0 : Int)))))).2.2.1) < (List.length x.1.1)) ∧
 ((Int.toNat (List.getD x.1.2.2.2 (Int.toNat x.2) (((0 : Int), ((0 : Int), (0 : Int))), (((0 : Int), ((0 : Int), (0 : Int))), ((0 : Int), ((0 : Int), (0 : Int)))))).2.2.1) < (List.length x.1.1)))))))))))))
noncomputable def lpoints_t (x : (((List I3) × ((List I2) × ((List I3) × (List I9)))) × Int)) : Tr I9 true :=
 (.oR x.2 (((List.length x.1.2.2.2) : Nat) : Int)
 (.od ((Int.toNat x.2) < (List.length x.1.2.2.2))
 (.od ((Int.toNat x.2) < (List.length x.1.2.2.2))
 (.oR (List.getD x.1.2.2.2 (Int.toNat x.2) zz9).1.1 (((List.length x.1.1) : Nat) : Int)
 (.od ((Int.toNat (List.getD x.1.2.2.2 (Int.toNat x.2) zz9).1.1) < (List.length x.1.1))
 (.od ((Int.toNat (List.getD x.1.2.2.2 (Int.toNat x.2) zz9).1.1) < (List.length x.1.1))
 (.oR (List.getD x.1.2.2.2 (Int.toNat x.2) zz9).2.1.1 (((List.length x.1.1) : Nat) : Int)
 (.od ((Int.toNat (List.getD x.1.2.2.2 (Int.toNat x.2) zz9).2.1.1) < (List.length x.1.1))
 (.od ((Int.toNat (List.getD x.1.2.2.2 (Int.toNat x.2) zz9).2.1.1) < (List.length x.1.1))
 (.oR (List.getD x.1.2.2.2 (Int.toNat x.2) zz9).2.2.1 (((List.length x.1.1) : Nat) : Int)
 (.od ((Int.toNat (List.getD x.1.2.2.2 (Int.toNat x.2) zz9).2.2.1) < (List.length x.1.1))
 (.od ((Int.toNat (List.getD x.1.2.2.2 (Int.toNat x.2) zz9).2.2.1) < (List.length x.1.1))
 (.ret ((List.getD x.1.1 (Int.toNat (List.getD x.1.2.2.2 (Int.toNat x.2) zz9).1.1) zz3), ((List.getD x.1.1 (Int.toNat (List.getD x.1.2.2.2 (Int.toNat x.2) zz9).2.1.1) zz3), (List.getD x.1.1 (Int.toNat (List.getD x.1.2.2.2 (Int.toNat x.2) zz9).2.2.1) zz3))))))))))))))))
noncomputable abbrev lpoints_S : FnS := ⟨(.pair (.agg (Ty.prod (Ty.sl yy3) (Ty.prod (Ty.sl yy2) (Ty.prod (Ty.sl yy3) (Ty.sl yy9))))) (.one yi)), (.agg yy9), lpoints_pre, lpoints⟩
theorem lpoints_ok : SpecOk Tryz.prog 36 (fnSpec lpoints_S) := SpecOk.tr lpoints_S lpoints_t (fn := Tryz.f36) tt_ok sp_lplaces_ok mixed (by kernel_rfl) (ItsOk.nil _ _) (fun x => (LpsOk.unrollT tt_ok (SpecsOk.ctxI sp_lplaces_ok (ItsOk.nil _ _)) mixed 0 4 LpsOk.nil (by kernel_rfl))) (fun x => (by kernel_rfl)) fun x Q => (by kernel_rfl)
def sp_lpoints : List (Nat × Ev.Spec) := (36, fnSpec lpoints_S) :: sp_lplaces
theorem sp_lpoints_ok : SpecsOk Tryz.prog sp_lpoints := SpecsOk.add (fn := Tryz.f36) (by kernel_rfl) lpoints_ok sp_lplaces_ok
noncomputable def lsamples_l2 (x : (((List I3) × ((List I2) × ((List I3) × (List I9)))) × (Int × (Int × (Int × ((List ((List Int) × ((List I6) × I2))) × (List (Int × I3)))))))) : LoopD := ⟨[], ⟨pvs 107 0 [(2, .v (.one (.ptr 0 0))), (3, .v (.one (.ptr 5 0))), (6, .v (.one (.full 8))), (9, .v (.one (.full 9))), (11, .v (.one (.full 10))), (12, .v (.one (.full 11))), (13, .v (.one (.i .i64))), (54, .v (.one (.i .i64))), (55, .v (.one (.i .i64))), (59, .v (.one (.i .i64))), (60, .v (.one (.i .i64)))], [.cells [.full 1, .full 2, .full 3, .full 4] 32, .row yy3 0, .row yy2 0, .row yy3 0, .row yy9 0, .cells [.i .i64, .i .i64, .i .i64, .full 6, .full 7] 36, .row (Ty.prod (Ty.sl yi) (Ty.prod (Ty.sl yy6) yy2)) 0, .row (Ty.prod yi yy3) 0, .row yy6 2, .row yi 2, .row yi 2, .row (Ty.prod yi (Ty.prod yi (Ty.prod yi yy3))) 2], 0, none, [], [1, 3, 5, 6, 7, 8, 9, 10, 11, 12, 13], [14, 15, 16, 17, 0, 2, 4], [(.l yy6), (.l yi), (.l yi), (.l (Ty.prod yi (Ty.prod yi (Ty.prod yi yy3)))), .i, .i, .i], [.i x.2.2.1, .i x.2.1, .l yy3 x.1.1, .l yy2 x.1.2.1, .l yy3 x.1.2.2.1, .l yy9 x.1.2.2.2, .i x.2.1, .i x.2.2.1, .i x.2.2.2.1, .l (Ty.prod (Ty.sl yi) (Ty.prod (Ty.sl yy6) yy2)) x.2.2.2.2.1, .l (Ty.prod yi yy3) x.2.2.2.2.2]⟩, [⟨.ret, .ret, ⟨pvs 107 0 [(4, .v (.one (.raw))), (5, .v (.one (.i .i64)))], [], 0, none, [], [0], [1], [.i], [.v (.slice none 0 0)]⟩⟩, ⟨(.exit 2), .normal, ⟨pvs 107 0 [(2, .v (.one (.ptr 0 0))), (3, .v (.one (.ptr 5 0))), (6, .v (.one (.full 8))), (9, .v (.one (.full 9))), (11, .v (.one (.full 10))), (12, .v (.one (.full 11))), (54, .v (.one (.i .i64))), (55, .v (.one (.i .i64)))], [.cells [.full 1, .full 2, .full 3, .full 4] 32, .row yy3 0, .row yy2 0, .row yy3 0, .row yy9 0, .cells [.i .i64, .i .i64, .i .i64, .full 6, .full 7] 36, .row (Ty.prod (Ty.sl yi) (Ty.prod (Ty.sl yy6) yy2)) 0, .row (Ty.prod yi yy3) 0, .row yy6 2, .row yi 2, .row yi 2, .row (Ty.prod yi (Ty.prod yi (Ty.prod yi yy3))) 2], 0, none, [], [0, 2, 3, 4, 5, 6, 7, 8, 9, 10], [11, 12, 13, 14, 1], [(.l yy6), (.l yi), (.l yi), (.l (Ty.prod yi (Ty.prod yi (Ty.prod yi yy3)))), .i], [.i x.2.2.1, .l yy3 x.1.1, .l yy2 x.1.2.1, .l yy3 x.1.2.2.1, .l yy9 x.1.2.2.2, .i x.2.1, .i x.2.2.1, .i x.2.2.2.1, .l (Ty.prod (Ty.sl yi) (Ty.prod (Ty.sl yy6) yy2)) x.2.2.2.2.1, .l (Ty.prod yi yy3) x.2.2.2.2.2]⟩⟩]⟩
noncomputable def lsamples_l2_step (x : (((List I3) × ((List I2) × ((List I3) × (List I9)))) × (Int × (Int × (Int × ((List ((List Int) × ((List I6) × I2))) × (List (Int × I3)))))))) (s : ((List I6) × ((List Int) × ((List Int) × ((List (Int × (Int × (Int × I3)))) × I3))))) : ((List I6) × ((List Int) × ((List Int) × ((List (Int × (Int × (Int × I3)))) × I3)))) ⊕ (Int ⊕ ((List I6) × ((List Int) × ((List Int) × ((List (Int × (Int × (Int × I3)))) × Int))))) :=
 (if (s.2.2.2.2.2.2 < x.2.1) then
 (if ((List.getD s.2.2.1 (Int.toNat (w64 ((w64 (s.2.2.2.2.1 * x.2.1)) + s.2.2.2.2.2.2))) (0 : Int)) < (0 : Int)) then
 (Sum.inl (s.1, (s.2.1, (s.2.2.1, (s.2.2.2.1, (s.2.2.2.2.1, (s.2.2.2.2.2.1, (w64 (s.2.2.2.2.2.2 + (1 : Int)))))))))) else
 (letV (lpoints (x.1, (List.getD s.2.1 (Int.toNat (List.getD s.2.2.1 (Int.toNat (w64 ((w64 (s.2.2.2.2.1 * x.2.1)) + s.2.2.2.2.2.2))) (0 : Int))) (0 : Int)))) fun y =>
 (letV (lpoint (s.2.2.2.2.2.2, (s.2.2.2.2.1, ((List.getD s.1 (Int.toNat (List.getD s.2.2.1 (Int.toNat (w64 ((w64 (s.2.2.2.2.1 * x.2.1)) + s.2.2.2.2.2.2))) (0 : Int))) (((0 : Int), (0 : Int)), (((0 : Int), (0 : Int)), ((0 : Int), (0 : Int))))), y)))) fun y_1 =>
 (if ((y_1.2 != (0 : Int)) = true) then
 (Sum.inr (Sum.inl y_1.2)) else
 (Sum.inl (s.1, (s.2.1, (s.2.2.1, ((s.2.2.2.1 ++ [(s.2.2.2.2.2.2, (s.2.2.2.2.1, ((List.getD s.2.1 (Int.toNat (List.getD s.2.2.1 (Int.toNat (w64 ((w64 (s.2.2.2.2.1 * x.2.1)) + s.2.2.2.2.2.2))) (0 : Int))) (0 : Int)), y_1.1)))]), (s.2.2.2.2.1, (s.2.2.2.2.2.1, (w64 (s.2.2.2.2.2.2 + (1 : Int)))))))))))))) else
 (Sum.inr (Sum.inr ((s.1, (s.2.1, (s.2.2.1, (s.2.2.2.1, s.2.2.2.2.2.1))))))))
noncomputable def lsamples_l2_pre (x : (((List I3) × ((List I2) × ((List I3) × (List I9)))) × (Int × (Int × (Int × ((List ((List Int) × ((List I6) × I2))) × (List (Int × I3)))))))) (s : ((List I6) × ((List Int) × ((List Int) × ((List (Int × (Int × (Int × I3)))) × I3))))) : Prop :=
 ((s.2.2.2.2.2.2 < x.2.1) →
 ((((0 : Int) ≤ (w64 ((w64 (s.2.2.2.2.1 * x.2.1)) + s.2.2.2.2.2.2))) ∧ ((w64 ((w64 (s.2.2.2.2.1 * x.2.1)) + s.2.2.2.2.2.2)) < (((List.length s.2.2.1) : Nat) : Int))) ∧
 (((Int.toNat (w64 ((w64 (s.2.2.2.2.1 * x.2.1)) + s.2.2.2.2.2.2))) < (List.length s.2.2.1)) ∧
 (((Int.toNat (w64 ((w64 (s.2.2.2.2.1 * x.2.1)) + s.2.2.2.2.2.2))) < (List.length s.2.2.1)) ∧
 (¬ ((List.getD s.2.2.1 (Int.toNat (w64 ((w64 (s.2.2.2.2.1 * x.2.1)) + s.2.2.2.2.2.2))) (0 : Int)) < (0 : Int)) →
 ((((0 : Int) ≤ (List.getD s.2.2.1 (Int.toNat (w64 ((w64 (s.2.2.2.2.1 * x.2.1)) + s.2.2.2.2.2.2))) (0 : Int))) ∧ ((List.getD s.2.2.1 (Int.toNat (w64 ((w64 (s.2.2.2.2.1 * x.2.1)) + s.2.2.2.2.2.2))) (0 : Int)) < (((List.length s.1) : Nat) : Int))) ∧
 (((Int.toNat (List.getD s.2.2.1 (Int.toNat (w64 ((w64 (s.2.2.2.2.1 * x.2.1)) + s.2.2.2.2.2.2))) (0 : Int))) < (List.length s.1)) ∧
 (((Int.toNat (List.getD s.2.2.1 (Int.toNat (w64 ((w64 (s.2.2.2.2.1 * x.2.1)) + s.2.2.2.2.2.2))) (0 : Int))) < (List.length s.1)) ∧
 ((((0 : Int) ≤ (List.getD s.2.2.1 (Int.toNat (w64 ((w64 (s.2.2.2.2.1 * x.2.1)) + s.2.2.2.2.2.2))) (0 : Int))) ∧ ((List.getD s.2.2.1 (Int.toNat (w64 ((w64 (s.2.2.2.2.1 * x.2.1)) + s.2.2.2.2.2.2))) (0 : Int)) < (((List.length s.2.1) : Nat) : Int))) ∧
 (((Int.toNat (List.getD s.2.2.1 (Int.toNat (w64 ((w64 (s.2.2.2.2.1 * x.2.1)) + s.2.2.2.2.2.2))) (0 : Int))) < (List.length s.2.1)) ∧
 (((Int.toNat (List.getD s.2.2.1 (Int.toNat (w64 ((w64 (s.2.2.2.2.1 * x.2.1)) + s.2.2.2.2.2.2))) (0 : Int))) < (List.length s.2.1)) ∧
 ((lpoints_pre (x.1, (List.getD s.2.1 (Int.toNat (List.getD s.2.2.1 (Int.toNat (w64 ((w64 (s.2.2.2.2.1 * x.2.1)) + s.2.2.2.2.2.2))) (0 : Int))) (0 : Int)))) ∧
 letP (lpoints (x.1, (List.getD s.2.1 (Int.toNat (List.getD s.2.2.1 (Int.toNat (w64 ((w64 (s.2.2.2.2.1 * x.2.1)) + s.2.2.2.2.2.2))) (0 : Int))) (0 : Int)))) fun y =>
 ((lpoint_pre (s.2.2.2.2.2.2, (s.2.2.2.2.1, ((List.getD s.1 (Int.toNat (List.getD s.2.2.1 (Int.toNat (w64 ((w64 (s.2.2.2.2.1 * x.2.1)) + s.2.2.2.2.2.2))) (0 : Int))) (((0 : Int), (0 : Int)), (((0 : Int), (0 : Int)), ((0 : Int), (0 : Int))))), y)))) ∧
 letP (lpoint (s.2.2.2.2.2.2, (s.2.2.2.2.1, ((List.getD s.1 (Int.toNat (List.getD s.2.2.1 (Int.toNat (w64 ((w64 (s.2.2.2.2.1 * x.2.1)) + s.2.2.2.2.2.2))) (0 : Int))) (((0 : Int), (0 : Int)), (((0 : Int), (0 : Int)), ((0 : Int), (0 : Int))))), y)))) fun y_1 =>
 (¬ ((y_1.2 != (0 : Int)) = true) →
 ((((0 : Int) ≤ (List.getD s.2.2.1 (Int.toNat (w64 ((w64 (s.2.2.2.2.1 * x.2.1)) + s.2.2.2.2.2.2))) (0 : Int))) ∧ ((List.getD s.2.2.1 (Int.toNat (w64 ((w64 (s.2.2.2.2.1 * x.2.1)) + s.2.2.2.2.2.2))) (0 : Int)) < (((List.length s.2.1) : Nat) : Int))) ∧
 (((Int.toNat (List.getD s.2.2.1 (Int.toNat (w64 ((w64 (s.2.2.2.2.1 * x.2.1)) + s.2.2.2.2.2.2))) (0 : Int))) < (List.length s.2.1)) ∧
 (((Int.toNat (List.getD s.2.2.1 (Int.toNat (w64 ((w64 (s.2.2.2.2.1 * x.2.1)) + s.2.2.2.2.2.2))) (0 : Int))) < (List.length s.2.1)) ∧
 (((List.length s.2.2.2.1) + 1) < 1099511627776))))))))))))))))))
noncomputable def lsamples_l2_t (x : (((List I3) × ((List I2) × ((List I3) × (List I9)))) × (Int × (Int × (Int × ((List ((List Int) × ((List I6) × I2))) × (List (Int × I3)))))))) (s : ((List I6) × ((List Int) × ((List Int) × ((List (Int × (Int × (Int × I3)))) × I3))))) : Tr (((List I6) × ((List Int) × ((List Int) × ((List (Int × (Int × (Int × I3)))) × I3)))) ⊕ (Int ⊕ ((List I6) × ((List Int) × ((List Int) × ((List (Int × (Int × (Int × I3)))) × Int)))))) true :=
 (.i10 (s.2.2.2.2.2.2 < x.2.1)
 (.oR (w64 ((w64 (s.2.2.2.2.1 * x.2.1)) + s.2.2.2.2.2.2)) (((List.length s.2.2.1) : Nat) : Int)
 (.od ((Int.toNat (w64 ((w64 (s.2.2.2.2.1 * x.2.1)) + s.2.2.2.2.2.2))) < (List.length s.2.2.1))
 (.od ((Int.toNat (w64 ((w64 (s.2.2.2.2.1 * x.2.1)) + s.2.2.2.2.2.2))) < (List.length s.2.2.1))
 (.i01 ((List.getD s.2.2.1 (Int.toNat (w64 ((w64 (s.2.2.2.2.1 * x.2.1)) + s.2.2.2.2.2.2))) (0 : Int)) < (0 : Int))
 (.ret (.inl (s.1, (s.2.1, (s.2.2.1, (s.2.2.2.1, (s.2.2.2.2.1, (s.2.2.2.2.2.1, (w64 (s.2.2.2.2.2.2 + (1 : Int)))))))))))
 (.oR (List.getD s.2.2.1 (Int.toNat (w64 ((w64 (s.2.2.2.2.1 * x.2.1)) + s.2.2.2.2.2.2))) (0 : Int)) (((List.length s.1) : Nat) : Int)
 (.od ((Int.toNat (List.getD s.2.2.1 (Int.toNat (w64 ((w64 (s.2.2.2.2.1 * x.2.1)) + s.2.2.2.2.2.2))) (0 : Int))) < (List.length s.1))
 (.od ((Int.toNat (List.getD s.2.2.1 (Int.toNat (w64 ((w64 (s.2.2.2.2.1 * x.2.1)) + s.2.2.2.2.2.2))) (0 : Int))) < (List.length s.1))
 (.oR (List.getD s.2.2.1 (Int.toNat (w64 ((w64 (s.2.2.2.2.1 * x.2.1)) + s.2.2.2.2.2.2))) (0 : Int)) (((List.length s.2.1) : Nat) : Int)
 (.od ((Int.toNat (List.getD s.2.2.1 (Int.toNat (w64 ((w64 (s.2.2.2.2.1 * x.2.1)) + s.2.2.2.2.2.2))) (0 : Int))) < (List.length s.2.1))
 (.od ((Int.toNat (List.getD s.2.2.1 (Int.toNat (w64 ((w64 (s.2.2.2.2.1 * x.2.1)) + s.2.2.2.2.2.2))) (0 : Int))) < (List.length s.2.1))
 (.fn lpoints_S (x.1, (List.getD s.2.1 (Int.toNat (List.getD s.2.2.1 (Int.toNat (w64 ((w64 (s.2.2.2.2.1 * x.2.1)) + s.2.2.2.2.2.2))) (0 : Int))) (0 : Int))) fun y =>
 (.fn lpoint_S (s.2.2.2.2.2.2, (s.2.2.2.2.1, ((List.getD s.1 (Int.toNat (List.getD s.2.2.1 (Int.toNat (w64 ((w64 (s.2.2.2.2.1 * x.2.1)) + s.2.2.2.2.2.2))) (0 : Int))) zz6), y))) fun y_1 =>
 (.b01 (y_1.2 != (0 : Int))
 (.ret (.inr (Sum.inl y_1.2)))
 (.oR (List.getD s.2.2.1 (Int.toNat (w64 ((w64 (s.2.2.2.2.1 * x.2.1)) + s.2.2.2.2.2.2))) (0 : Int)) (((List.length s.2.1) : Nat) : Int)
 (.od ((Int.toNat (List.getD s.2.2.1 (Int.toNat (w64 ((w64 (s.2.2.2.2.1 * x.2.1)) + s.2.2.2.2.2.2))) (0 : Int))) < (List.length s.2.1))
 (.od ((Int.toNat (List.getD s.2.2.1 (Int.toNat (w64 ((w64 (s.2.2.2.2.1 * x.2.1)) + s.2.2.2.2.2.2))) (0 : Int))) < (List.length s.2.1))
 (.od (((List.length s.2.2.2.1) + 1) < 1099511627776)
 (.ret (.inl (s.1, (s.2.1, (s.2.2.1, ((s.2.2.2.1 ++ [(s.2.2.2.2.2.2, (s.2.2.2.2.1, ((List.getD s.2.1 (Int.toNat (List.getD s.2.2.1 (Int.toNat (w64 ((w64 (s.2.2.2.2.1 * x.2.1)) + s.2.2.2.2.2.2))) (0 : Int))) (0 : Int)), y_1.1)))]), (s.2.2.2.2.1, (s.2.2.2.2.2.1, (w64 (s.2.2.2.2.2.2 + (1 : Int))))))))))))))))))))))))))))
 (.ret (.inr (Sum.inr ((s.1, (s.2.1, (s.2.2.1, (s.2.2.2.1, s.2.2.2.2.2.1)))))))))
noncomputable def lsamples_l0 (x : (((List I3) × ((List I2) × ((List I3) × (List I9)))) × (Int × (Int × (Int × ((List ((List Int) × ((List I6) × I2))) × (List (Int × I3)))))))) : LoopD := ⟨[], ⟨pvs 107 0 [(2, .v (.one (.ptr 0 0))), (3, .v (.one (.ptr 5 0))), (6, .v (.one (.full 8))), (9, .v (.one (.full 9))), (11, .v (.one (.full 10))), (12, .v (.one (.full 11))), (54, .v (.one (.i .i64))), (55, .v (.one (.i .i64)))], [.cells [.full 1, .full 2, .full 3, .full 4] 32, .row yy3 0, .row yy2 0, .row yy3 0, .row yy9 0, .cells [.i .i64, .i .i64, .i .i64, .full 6, .full 7] 36, .row (Ty.prod (Ty.sl yi) (Ty.prod (Ty.sl yy6) yy2)) 0, .row (Ty.prod yi yy3) 0, .row yy6 2, .row yi 2, .row yi 2, .row (Ty.prod yi (Ty.prod yi (Ty.prod yi yy3))) 2], 0, none, [], [0, 2, 3, 4, 5, 6, 7, 8, 9, 10], [11, 12, 13, 14, 1], [(.l yy6), (.l yi), (.l yi), (.l (Ty.prod yi (Ty.prod yi (Ty.prod yi yy3)))), .i], [.i x.2.2.1, .l yy3 x.1.1, .l yy2 x.1.2.1, .l yy3 x.1.2.2.1, .l yy9 x.1.2.2.2, .i x.2.1, .i x.2.2.1, .i x.2.2.2.1, .l (Ty.prod (Ty.sl yi) (Ty.prod (Ty.sl yy6) yy2)) x.2.2.2.2.1, .l (Ty.prod yi yy3) x.2.2.2.2.2]⟩, [⟨.ret, .ret, ⟨pvs 107 0 [(4, .v (.one (.raw))), (5, .v (.one (.i .i64)))], [], 0, none, [], [0], [1], [.i], [.v (.slice none 0 0)]⟩⟩, ⟨(.exit 0), .normal, ⟨pvs 107 0 [(12, .v (.one (.full 0)))], [.row (Ty.prod yi (Ty.prod yi (Ty.prod yi yy3))) 2], 0, none, [], [], [0], [(.l (Ty.prod yi (Ty.prod yi (Ty.prod yi yy3))))], []⟩⟩]⟩
noncomputable def lsamples_l0_step (x : (((List I3) × ((List I2) × ((List I3) × (List I9)))) × (Int × (Int × (Int × ((List ((List Int) × ((List I6) × I2))) × (List (Int × I3)))))))) (s : ((List I6) × ((List Int) × ((List Int) × ((List (Int × (Int × (Int × I3)))) × Int))))) : ((List I6) × ((List Int) × ((List Int) × ((List (Int × (Int × (Int × I3)))) × Int)))) ⊕ (Int ⊕ (List (Int × (Int × (Int × I3))))) :=
 (if (s.2.2.2.2 < x.2.2.1) then
 (letV (run (lsamples_l2_step x) (s.1, (s.2.1, (s.2.2.1, (s.2.2.2.1, (s.2.2.2.2, (s.2.2.2.2, (0 : Int)))))))) fun r =>
 (Sum.elim (fun a =>
 (Sum.inr (Sum.inl a))) (fun b =>
 (Sum.inl (b.1, (b.2.1, (b.2.2.1, (b.2.2.2.1, (w64 (b.2.2.2.2 + (1 : Int))))))))) r)) else
 (Sum.inr (Sum.inr (s.2.2.2.1))))
noncomputable def lsamples_l0_pre (x : (((List I3) × ((List I2) × ((List I3) × (List I9)))) × (Int × (Int × (Int × ((List ((List Int) × ((List I6) × I2))) × (List (Int × I3)))))))) (s : ((List I6) × ((List Int) × ((List Int) × ((List (Int × (Int × (Int × I3)))) × Int))))) : Prop :=
 ((s.2.2.2.2 < x.2.2.1) →
 (Term (lsamples_l2_step x) (lsamples_l2_pre x) (s.1, (s.2.1, (s.2.2.1, (s.2.2.2.1, (s.2.2.2.2, (s.2.2.2.2, (0 : Int)))))))))
noncomputable def lsamples_l0_t (x : (((List I3) × ((List I2) × ((List I3) × (List I9)))) × (Int × (Int × (Int × ((List ((List Int) × ((List I6) × I2))) × (List (Int × I3)))))))) (s : ((List I6) × ((List Int) × ((List Int) × ((List (Int × (Int × (Int × I3)))) × Int))))) : Tr (((List I6) × ((List Int) × ((List Int) × ((List (Int × (Int × (Int × I3)))) × Int)))) ⊕ (Int ⊕ (List (Int × (Int × (Int × I3)))))) true :=
 (.i10 (s.2.2.2.2 < x.2.2.1)
 (LoopD.lp (lsamples_l2 x) (lsamples_l2_t x) (s.1, (s.2.1, (s.2.2.1, (s.2.2.2.1, (s.2.2.2.2, (s.2.2.2.2, (0 : Int))))))) fun r =>
 (.s00 r (fun a =>
 (.ret (.inr (Sum.inl a)))) (fun b =>
 (.ret (.inl (b.1, (b.2.1, (b.2.2.1, (b.2.2.2.1, (w64 (b.2.2.2.2 + (1 : Int))))))))))))
 (.ret (.inr (Sum.inr (s.2.2.2.1)))))
noncomputable def lsamples (x : (((List I3) × ((List I2) × ((List I3) × (List I9)))) × (Int × (Int × (Int × ((List ((List Int) × ((List I6) × I2))) × (List (Int × I3)))))))) : ((List (Int × (Int × (Int × I3)))) × Int) :=
 (letV (allM x.2) fun y =>
 (letV (lplaces x) fun y_1 =>
 (if ((y.2.2 != (0 : Int)) = true) then
 ([], (1 : Int)) else
 (if ((!y_1.2) = true) then
 ([], (1 : Int)) else
 (letV (tame x.1) fun y_2 =>
 (if ((!y_2) = true) then
 ([], (1 : Int)) else
 (letV (rowners (x.2.1, (x.2.2.1, y.1))) fun y_3 =>
 (if ((y_3.2 != (0 : Int)) = true) then
 ([], y_3.2) else
 (letV (run (lsamples_l0_step x) (y.1, (y_1.1, (y_3.1, ([], (0 : Int)))))) fun r =>
 (Sum.elim (fun a =>
 ([], a)) (fun b =>
 (b, (0 : Int))) r))))))))))
noncomputable def lsamples_pre (x : (((List I3) × ((List I2) × ((List I3) × (List I9)))) × (Int × (Int × (Int × ((List ((List Int) × ((List I6) × I2))) × (List (Int × I3)))))))) : Prop :=
 ((allM_pre x.2) ∧
 letP (allM x.2) fun y =>
 ((lplaces_pre x) ∧
 letP (lplaces x) fun y_1 =>
 (¬ ((y.2.2 != (0 : Int)) = true) →
 (¬ ((!y_1.2) = true) →
 ((tame_pre x.1) ∧
 letP (tame x.1) fun y_2 =>
 (¬ ((!y_2) = true) →
 ((rowners_pre (x.2.1, (x.2.2.1, y.1))) ∧
 letP (rowners (x.2.1, (x.2.2.1, y.1))) fun y_3 =>
 (¬ ((y_3.2 != (0 : Int)) = true) →
 (Term (lsamples_l0_step x) (lsamples_l0_pre x) (y.1, (y_1.1, (y_3.1, ([], (0 : Int))))))))))))))
noncomputable def lsamples_t (x : (((List I3) × ((List I2) × ((List I3) × (List I9)))) × (Int × (Int × (Int × ((List ((List Int) × ((List I6) × I2))) × (List (Int × I3)))))))) : Tr ((List (Int × (Int × (Int × I3)))) × Int) true :=
 (.fn allM_S x.2 fun y =>
 (.fn lplaces_S x fun y_1 =>
 (.b01 (y.2.2 != (0 : Int))
 (.ret ([], (1 : Int)))
 (.b01 (!y_1.2)
 (.ret ([], (1 : Int)))
 (.fn tame_S x.1 fun y_2 =>
 (.b01 (!y_2)
 (.ret ([], (1 : Int)))
 (.fn rowners_S (x.2.1, (x.2.2.1, y.1)) fun y_3 =>
 (.b01 (y_3.2 != (0 : Int))
 (.ret ([], y_3.2))
 (LoopD.lp (lsamples_l0 x) (lsamples_l0_t x) (y.1, (y_1.1, (y_3.1, ([], (0 : Int))))) fun r =>
 (.s00 r (fun a =>
 (.ret ([], a))) (fun b =>
 (.ret (b, (0 : Int))))))))))))))
noncomputable abbrev lsamples_S : FnS := ⟨(.pair (.agg (Ty.prod (Ty.sl yy3) (Ty.prod (Ty.sl yy2) (Ty.prod (Ty.sl yy3) (Ty.sl yy9))))) (.agg (Ty.prod yi (Ty.prod yi (Ty.prod yi (Ty.prod (Ty.sl (Ty.prod (Ty.sl yi) (Ty.prod (Ty.sl yy6) yy2))) (Ty.sl (Ty.prod yi yy3)))))))), (.pair (.one (Ty.sl (Ty.prod yi (Ty.prod yi (Ty.prod yi yy3))))) (.one yi)), lsamples_pre, lsamples⟩
theorem lsamples_ok : SpecOk Tryz.prog 13 (fnSpec lsamples_S) := SpecOk.tr lsamples_S lsamples_t (fn := Tryz.f13) tt_ok sp_lpoints_ok mixed (by kernel_rfl) (ItsOk.nil _ _) (fun x => (LpsOk.tr tt_ok (SpecsOk.ctxI sp_lpoints_ok (ItsOk.nil _ _)) mixed 0 (lsamples_l0 x) (lsamples_l0_t x) (LpsOk.tr tt_ok (SpecsOk.ctxI sp_lpoints_ok (ItsOk.nil _ _)) mixed 2 (lsamples_l2 x) (lsamples_l2_t x) LpsOk.nil (by kernel_rfl) fun g s Q => (by kernel_rfl)) (by kernel_rfl) fun g s Q => (by kernel_rfl))) (fun x => (by kernel_rfl)) fun x Q => (by kernel_rfl)
def sp_lsamples : List (Nat × Ev.Spec) := (13, fnSpec lsamples_S) :: sp_lpoints
theorem sp_lsamples_ok : SpecsOk Tryz.prog sp_lsamples := SpecsOk.add (fn := Tryz.f13) (by kernel_rfl) lsamples_ok sp_lpoints_ok
noncomputable def lhere (x : ((Int × (Int × (Int × I3))) × I2)) : Bool :=
 ((x.1.1 == x.2.1) && ((x.1.2.1 == x.2.2) && ((x.1.2.2.1 == x.1.2.2.1) && (((x.1.2.2.2.1 == x.1.2.2.2.1) && ((x.1.2.2.2.2.1 == x.1.2.2.2.2.1) && ((x.1.2.2.2.2.2 == x.1.2.2.2.2.2) && true))) && true))))
noncomputable def lhere_pre (_ : ((Int × (Int × (Int × I3))) × I2)) : Prop := True
noncomputable def lhere_t (x : ((Int × (Int × (Int × I3))) × I2)) : Tr Bool false :=
 (.ret ((x.1.1 == x.2.1) && ((x.1.2.1 == x.2.2) && ((x.1.2.2.1 == x.1.2.2.1) && (((x.1.2.2.2.1 == x.1.2.2.2.1) && ((x.1.2.2.2.2.1 == x.1.2.2.2.2.1) && ((x.1.2.2.2.2.2 == x.1.2.2.2.2.2) && true))) && true)))))
noncomputable abbrev lhere_S : FnS := ⟨(.pair (.agg (Ty.prod yi (Ty.prod yi (Ty.prod yi yy3)))) (.pair (.ptr (.int .i64)) (.ptr (.int .i64)))), (.one Ty.bool), lhere_pre, lhere⟩
theorem lhere_ok : SpecOk Tryz.prog 42 (fnSpec lhere_S) := SpecOk.tr lhere_S lhere_t (fn := Tryz.f42) tt_ok sp_lsamples_ok mixed (by kernel_rfl) (ItsOk.nil _ _) (fun x => LpsOk.nil) (fun x => (by kernel_rfl)) fun x Q => (by kernel_rfl)
def sp_lhere : List (Nat × Ev.Spec) := (42, fnSpec lhere_S) :: sp_lsamples
theorem sp_lhere_ok : SpecsOk Tryz.prog sp_lhere := SpecsOk.add (fn := Tryz.f42) (by kernel_rfl) lhere_ok sp_lsamples_ok
noncomputable def indexS_l0 (x : ((List (Int × (Int × (Int × I3)))) × I2)) : LoopD := ⟨[], ⟨pvs 19 0 [(0, .v (.one (.full 0))), (1, .v (.one (.clo 42 0 [.elem 1, .elem 2]))), (7, .v (.one (.i .i64))), (8, .v (.one (.i .i64)))], [.row (Ty.prod yi (Ty.prod yi (Ty.prod yi yy3))) 0, .row yi 0, .row yi 0], 0, none, [], [0, 1, 2, 4, 5, 6], [3], [.i], [.n 0, .n 0, .i (((List.length x.1) : Nat) : Int), .l (Ty.prod yi (Ty.prod yi (Ty.prod yi yy3))) x.1, .l yi [x.2.1], .l yi [x.2.2]]⟩, [⟨.ret, .ret, ⟨pvs 19 0 [(4, .v (.one (.i .i64)))], [], 0, none, [], [], [0], [.i], []⟩⟩, ⟨(.exit 0), .normal, ⟨pvs 19 0 [], [], 0, none, [], [], [], [], []⟩⟩]⟩
noncomputable def indexS_l0_step (x : ((List (Int × (Int × (Int × I3)))) × I2)) (s : Int) : Int ⊕ (Int ⊕ Unit) :=
 (if (s < (((List.length x.1) : Nat) : Int)) then
 (letV (lhere ((List.getD x.1 (Int.toNat s) ((0 : Int), ((0 : Int), ((0 : Int), ((0 : Int), ((0 : Int), (0 : Int))))))), x.2)) fun y =>
 (if (y = true) then
 (Sum.inr (Sum.inl s)) else
 (Sum.inl (w64 (s + (1 : Int)))))) else
 (Sum.inr (Sum.inr (()))))
noncomputable def indexS_l0_pre (x : ((List (Int × (Int × (Int × I3)))) × I2)) (s : Int) : Prop :=
 ((s < (((List.length x.1) : Nat) : Int)) →
 ((((0 : Int) ≤ s) ∧ (s < (((List.length x.1) : Nat) : Int))) ∧
 (((Int.toNat s) < (List.length x.1)) ∧
 ((Int.toNat s) < (List.length x.1)))))
noncomputable def indexS_l0_t (x : ((List (Int × (Int × (Int × I3)))) × I2)) (s : Int) : Tr (Int ⊕ (Int ⊕ Unit)) true :=
 (.i10 (s < (((List.length x.1) : Nat) : Int))
 (.oR s (((List.length x.1) : Nat) : Int)
 (.od ((Int.toNat s) < (List.length x.1))
 (.od ((Int.toNat s) < (List.length x.1))
 (.fn0 lhere_S ((List.getD x.1 (Int.toNat s) ((0 : Int), ((0 : Int), ((0 : Int), zz3)))), x.2) trivial fun y =>
 (.b00 y
 (.ret (.inr (Sum.inl s)))
 (.ret (.inl (w64 (s + (1 : Int))))))))))
 (.ret (.inr (Sum.inr (())))))
noncomputable def indexS (x : ((List (Int × (Int × (Int × I3)))) × I2)) : Int :=
 (letV (run (indexS_l0_step x) (0 : Int)) fun r =>
 (Sum.elim (fun a =>
 a) (fun b =>
 (-1 : Int)) r))
noncomputable def indexS_pre (x : ((List (Int × (Int × (Int × I3)))) × I2)) : Prop :=
 (Term (indexS_l0_step x) (indexS_l0_pre x) (0 : Int))
noncomputable def indexS_t (x : ((List (Int × (Int × (Int × I3)))) × I2)) : Tr Int true :=
 (LoopD.lp (indexS_l0 x) (indexS_l0_t x) (0 : Int) fun r =>
 (.s00 r (fun a =>
 (.ret a)) (fun b =>
 (.ret (-1 : Int)))))
noncomputable abbrev indexS_S : FnS := ⟨(.pair (.one (Ty.sl (Ty.prod yi (Ty.prod yi (Ty.prod yi yy3))))) (.clo 42 (.pair (.ptr (.int .i64)) (.ptr (.int .i64))))), (.one yi), indexS_pre, indexS⟩
theorem indexS_ok : SpecOk Tryz.prog 43 (fnSpec indexS_S) := SpecOk.tr indexS_S indexS_t (fn := Tryz.f43) tt_ok sp_lhere_ok mixed (by kernel_rfl) (ItsOk.nil _ _) (fun x => (LpsOk.tr tt_ok (SpecsOk.ctxI sp_lhere_ok (ItsOk.nil _ _)) mixed 0 (indexS_l0 x) (indexS_l0_t x) LpsOk.nil (by kernel_rfl) fun g s Q => (by kernel_rfl))) (fun x => (by kernel_rfl)) fun x Q => (by kernel_rfl)
def sp_indexS : List (Nat × Ev.Spec) := (43, fnSpec indexS_S) :: sp_lhere
theorem sp_indexS_ok : SpecsOk Tryz.prog sp_indexS := SpecsOk.add (fn := Tryz.f43) (by kernel_rfl) indexS_ok sp_lhere_ok
noncomputable def lat (x : ((List (Int × (Int × (Int × I3)))) × I2)) : ((Int × (Int × (Int × I3))) × Bool) :=
 (letV (indexS x) fun y =>
 (if (y ≥ (0 : Int)) then
 ((List.getD x.1 (Int.toNat y) ((0 : Int), ((0 : Int), ((0 : Int), ((0 : Int), ((0 : Int), (0 : Int))))))), true) else
 (((0 : Int), ((0 : Int), ((0 : Int), ((0 : Int), ((0 : Int), (0 : Int)))))), false)))
noncomputable def lat_pre (x : ((List (Int × (Int × (Int × I3)))) × I2)) : Prop :=
 ((indexS_pre x) ∧
 letP (indexS x) fun y =>
 ((y ≥ (0 : Int)) →
 ((((0 : Int) ≤ y) ∧ (y < (((List.length x.1) : Nat) : Int))) ∧
 (((Int.toNat y) < (List.length x.1)) ∧
 ((Int.toNat y) < (List.length x.1))))))
noncomputable def lat_t (x : ((List (Int × (Int × (Int × I3)))) × I2)) : Tr ((Int × (Int × (Int × I3))) × Bool) true :=
 (.fn indexS_S x fun y =>
 (.i10 (y ≥ (0 : Int))
 (.oR y (((List.length x.1) : Nat) : Int)
 (.od ((Int.toNat y) < (List.length x.1))
 (.od ((Int.toNat y) < (List.length x.1))
 (.ret ((List.getD x.1 (Int.toNat y) ((0 : Int), ((0 : Int), ((0 : Int), zz3)))), true)))))
 (.ret (((0 : Int), ((0 : Int), ((0 : Int), zz3))), false))))
noncomputable abbrev lat_S : FnS := ⟨(.pair (.one (Ty.sl (Ty.prod yi (Ty.prod yi (Ty.prod yi yy3))))) (.pair (.one yi) (.one yi))), (.pair (.agg (Ty.prod yi (Ty.prod yi (Ty.prod yi yy3)))) (.one Ty.bool)), lat_pre, lat⟩
theorem lat_ok : SpecOk Tryz.prog 15 (fnSpec lat_S) := SpecOk.tr lat_S lat_t (fn := Tryz.f15) tt_ok sp_indexS_ok mixed (by kernel_rfl) (ItsOk.nil _ _) (fun x => LpsOk.nil) (fun x => (by kernel_rfl)) fun x Q => (by kernel_rfl)
def sp_lat : List (Nat × Ev.Spec) := (15, fnSpec lat_S) :: sp_indexS
theorem sp_lat_ok : SpecsOk Tryz.prog sp_lat := SpecsOk.add (fn := Tryz.f15) (by kernel_rfl) lat_ok sp_indexS_ok
noncomputable def l20lifted (x : Bool) : Bool :=
 (letV (lpoint ((0 : Int), ((0 : Int), ((((0 : Int), (0 : Int)), (((32 : Int), (0 : Int)), ((0 : Int), (32 : Int)))), (((0 : Int), ((0 : Int), (0 : Int))), (((64 : Int), ((0 : Int), (0 : Int))), ((0 : Int), ((0 : Int), (64 : Int))))))))) fun y =>
 (letV (lpoint ((1 : Int), ((1 : Int), ((((0 : Int), (0 : Int)), (((32 : Int), (0 : Int)), ((0 : Int), (32 : Int)))), (((0 : Int), ((0 : Int), (0 : Int))), (((64 : Int), ((0 : Int), (0 : Int))), ((0 : Int), ((0 : Int), (64 : Int))))))))) fun y_1 =>
 (letV (lcentre ((1 : Int), (2 : Int))) fun y_2 =>
 (letV (lcentre ((256 : Int), (0 : Int))) fun y_3 =>
 (letV (lsamples (([], ([], ([], []))), ((0 : Int), ((0 : Int), ((0 : Int), ([], [])))))) fun y_4 =>
 (letV (lat ([((1 : Int), ((0 : Int), ((0 : Int), ((0 : Int), ((0 : Int), (0 : Int)))))), ((1 : Int), ((0 : Int), ((2 : Int), ((0 : Int), ((0 : Int), (0 : Int))))))], ((1 : Int), (0 : Int)))) fun y_5 =>
 (if ((y.2 == (0 : Int)) = true) then
 (if (((y.1.1 == (16 : Int)) && ((y.1.2.1 == (0 : Int)) && ((y.1.2.2 == (16 : Int)) && true))) = true) then
 (if ((y_1.2 == y.2) = true) then
 (if (((y_1.1.1 == (32 : Int)) && ((y_1.1.2.1 == (0 : Int)) && ((y_1.1.2.2 == (32 : Int)) && true))) = true) then
 (if ((y_2.2 == y.2) = true) then
 (if (((y_2.1.1 == (24 : Int)) && ((y_2.1.2 == (40 : Int)) && true)) = true) then
 (if ((y_3.2 == (5 : Int)) = true) then
 (if ((y_4.2 == (1 : Int)) = true) then
 (if (y_5.2 = true) then
 (y_5.1.2.2.1 == (0 : Int)) else
 false) else
 false) else
 false) else
 false) else
 false) else
 false) else
 false) else
 false) else
 false)))))))
noncomputable def l20lifted_pre (x : Bool) : Prop :=
 ((lpoint_pre ((0 : Int), ((0 : Int), ((((0 : Int), (0 : Int)), (((32 : Int), (0 : Int)), ((0 : Int), (32 : Int)))), (((0 : Int), ((0 : Int), (0 : Int))), (((64 : Int), ((0 : Int), (0 : Int))), ((0 : Int), ((0 : Int), (64 : Int))))))))) ∧
 letP (lpoint ((0 : Int), ((0 : Int), ((((0 : Int), (0 : Int)), (((32 : Int), (0 : Int)), ((0 : Int), (32 : Int)))), (((0 : Int), ((0 : Int), (0 : Int))), (((64 : Int), ((0 : Int), (0 : Int))), ((0 : Int), ((0 : Int), (64 : Int))))))))) fun y =>
 ((lpoint_pre ((1 : Int), ((1 : Int), ((((0 : Int), (0 : Int)), (((32 : Int), (0 : Int)), ((0 : Int), (32 : Int)))), (((0 : Int), ((0 : Int), (0 : Int))), (((64 : Int), ((0 : Int), (0 : Int))), ((0 : Int), ((0 : Int), (64 : Int))))))))) ∧
 letP (lpoint ((1 : Int), ((1 : Int), ((((0 : Int), (0 : Int)), (((32 : Int), (0 : Int)), ((0 : Int), (32 : Int)))), (((0 : Int), ((0 : Int), (0 : Int))), (((64 : Int), ((0 : Int), (0 : Int))), ((0 : Int), ((0 : Int), (64 : Int))))))))) fun y_1 =>
 (letP (lcentre ((1 : Int), (2 : Int))) fun y_2 =>
 (letP (lcentre ((256 : Int), (0 : Int))) fun y_3 =>
 ((lsamples_pre (([], ([], ([], []))), ((0 : Int), ((0 : Int), ((0 : Int), ([], [])))))) ∧
 letP (lsamples (([], ([], ([], []))), ((0 : Int), ((0 : Int), ((0 : Int), ([], [])))))) fun y_4 =>
 (lat_pre ([((1 : Int), ((0 : Int), ((0 : Int), ((0 : Int), ((0 : Int), (0 : Int)))))), ((1 : Int), ((0 : Int), ((2 : Int), ((0 : Int), ((0 : Int), (0 : Int))))))], ((1 : Int), (0 : Int)))))))))
noncomputable def l20lifted_t (x : Bool) : Tr Bool true :=
 (.fn lpoint_S ((0 : Int), ((0 : Int), ((zz2, (((32 : Int), (0 : Int)), ((0 : Int), (32 : Int)))), (zz3, (((64 : Int), zz2), ((0 : Int), ((0 : Int), (64 : Int)))))))) fun y =>
 (.fn lpoint_S ((1 : Int), ((1 : Int), ((zz2, (((32 : Int), (0 : Int)), ((0 : Int), (32 : Int)))), (zz3, (((64 : Int), zz2), ((0 : Int), ((0 : Int), (64 : Int)))))))) fun y_1 =>
 (.fn0 lcentre_S ((1 : Int), (2 : Int)) trivial fun y_2 =>
 (.fn0 lcentre_S ((256 : Int), (0 : Int)) trivial fun y_3 =>
 (.fn lsamples_S (([], ([], ([], []))), ((0 : Int), ((0 : Int), ((0 : Int), ([], []))))) fun y_4 =>
 (.fn lat_S ([((1 : Int), ((0 : Int), ((0 : Int), zz3))), ((1 : Int), ((0 : Int), ((2 : Int), zz3)))], ((1 : Int), (0 : Int))) fun y_5 =>
 (.b00 (y.2 == (0 : Int))
 (.b00 ((y.1.1 == (16 : Int)) && ((y.1.2.1 == (0 : Int)) && ((y.1.2.2 == (16 : Int)) && true)))
 (.b00 (y_1.2 == y.2)
 (.b00 ((y_1.1.1 == (32 : Int)) && ((y_1.1.2.1 == (0 : Int)) && ((y_1.1.2.2 == (32 : Int)) && true)))
 (.b00 (y_2.2 == y.2)
 (.b00 ((y_2.1.1 == (24 : Int)) && ((y_2.1.2 == (40 : Int)) && true))
 (.b00 (y_3.2 == (5 : Int))
 (.b00 (y_4.2 == (1 : Int))
 (.b00 y_5.2
 (.ret (y_5.1.2.2.1 == (0 : Int)))
 (.ret false))
 (.ret false))
 (.ret false))
 (.ret false))
 (.ret false))
 (.ret false))
 (.ret false))
 (.ret false))
 (.ret false))))))))
noncomputable abbrev l20lifted_S : FnS := ⟨.none, (.one Ty.bool), l20lifted_pre, l20lifted⟩
theorem l20lifted_ok : SpecOk Tryz.prog 17 (fnSpec l20lifted_S) := SpecOk.tr l20lifted_S l20lifted_t (fn := Tryz.f17) tt_ok sp_lat_ok mixed (by kernel_rfl) (ItsOk.nil _ _) (fun x => LpsOk.nil) (fun x => (by kernel_rfl)) fun x Q => (by kernel_rfl)
def sp_l20lifted : List (Nat × Ev.Spec) := (17, fnSpec l20lifted_S) :: sp_lat
theorem sp_l20lifted_ok : SpecsOk Tryz.prog sp_l20lifted := SpecsOk.add (fn := Tryz.f17) (by kernel_rfl) l20lifted_ok sp_lat_ok
end Go.Proofs.YtfgdjlhilladhaaGreat
