/- Models of functions of layer 16: patches. -/
import Derived.Test.YtpbbnoggkbfkoaaGreatFe
namespace Go.Proofs.YtpbbnoggkbfkoaaGreat
open Go Go.Ev Go.Proofs
set_option linter.unusedVariables false
def sp_lay0 : List (Nat × Ev.Spec) := (11, fnSpec fbox_S) :: (26, fnSpec fapart_S) :: (47, fnSpec moverlap_S) :: sp_turnedM
theorem sp_lay0_ok : SpecsOk Tryz.prog sp_lay0 := SpecsOk.cons (Enters.of (fn := Tryz.f11) (by kernel_rfl) (by kernel_rfl) (by kernel_rfl)) fbox_ok (SpecsOk.cons (Enters.of (fn := Tryz.f26) (by kernel_rfl) (by kernel_rfl) (by kernel_rfl)) fapart_ok (SpecsOk.cons (Enters.of (fn := Tryz.f47) (by kernel_rfl) (by kernel_rfl) (by kernel_rfl)) moverlap_ok sp_turnedM_ok))
noncomputable def fis (x : ((List Int) × ((List I6) × I2))) : Bool :=
 (if ((((List.length x.1) : Nat) : Int) > (500 : Int)) then
 false else
 (if (((((List.length x.2.1) : Nat) : Int) != (((List.length x.1) : Nat) : Int)) = true) then
 false else
 (letV (containsT (x.2.1, false)) fun y =>
 (if (y = true) then
 false else
 (letV (fbox x.2.1) fun y_1 =>
 (if ((y_1.2.2 != (0 : Int)) = true) then
 false else
 (if ((!((y_1.1.1 == (0 : Int)) && ((y_1.1.2 == (0 : Int)) && true))) = true) then
 false else
 (letV (fsizes y_1.2.1) fun y_2 =>
 (if ((x.2.2.1 == y_2.1) = true) then
 (if ((x.2.2.2 == y_2.2) = true) then
 (letV (fapart x.2.1) fun y_3 =>
 y_3) else
 false) else
 false)))))))))
noncomputable def fis_pre (x : ((List Int) × ((List I6) × I2))) : Prop :=
 (¬ ((((List.length x.1) : Nat) : Int) > (500 : Int)) →
 (¬ (((((List.length x.2.1) : Nat) : Int) != (((List.length x.1) : Nat) : Int)) = true) →
 ((containsT_pre (x.2.1, false)) ∧
 letP (containsT (x.2.1, false)) fun y =>
 (¬ (y = true) →
 ((fbox_pre x.2.1) ∧
 letP (fbox x.2.1) fun y_1 =>
 (¬ ((y_1.2.2 != (0 : Int)) = true) →
 (¬ ((!((y_1.1.1 == (0 : Int)) && ((y_1.1.2 == (0 : Int)) && true))) = true) →
 (letP (fsizes y_1.2.1) fun y_2 =>
 (((x.2.2.1 == y_2.1) = true) →
 (((x.2.2.2 == y_2.2) = true) →
 (fapart_pre x.2.1)))))))))))
noncomputable def fis_t (x : ((List Int) × ((List I6) × I2))) : Tr Bool true :=
 (.i01 ((((List.length x.1) : Nat) : Int) > (500 : Int))
 (.ret false)
 (.b01 ((((List.length x.2.1) : Nat) : Int) != (((List.length x.1) : Nat) : Int))
 (.ret false)
 (.fn containsT_S (x.2.1, false) fun y =>
 (.b01 y
 (.ret false)
 (.fn fbox_S x.2.1 fun y_1 =>
 (.b01 (y_1.2.2 != (0 : Int))
 (.ret false)
 (.b01 (!((y_1.1.1 == (0 : Int)) && ((y_1.1.2 == (0 : Int)) && true)))
 (.ret false)
 (.fn0 fsizes_S y_1.2.1 trivial fun y_2 =>
 (.b10 (x.2.2.1 == y_2.1)
 (.b10 (x.2.2.2 == y_2.2)
 (.fn fapart_S x.2.1 fun y_3 =>
 (.ret y_3))
 (.ret false))
 (.ret false))))))))))
noncomputable abbrev fis_S : FnS := ⟨(.agg (Ty.prod (Ty.sl yi) (Ty.prod (Ty.sl yy6) yy2))), (.one Ty.bool), fis_pre, fis⟩
theorem fis_ok : SpecOk Tryz.prog 18 (fnSpec fis_S) := SpecOk.tr fis_S fis_t (fn := Tryz.f18) tt_ok sp_lay0_ok mixed (by kernel_rfl) (ItsOk.nil _ _) (fun x => LpsOk.nil) (fun x => (by kernel_rfl)) fun x Q => (by kernel_rfl)
def sp_fis : List (Nat × Ev.Spec) := (18, fnSpec fis_S) :: sp_lay0
theorem sp_fis_ok : SpecsOk Tryz.prog sp_fis := SpecsOk.add (fn := Tryz.f18) (by kernel_rfl) fis_ok sp_lay0_ok
noncomputable def flay_l0 (x : (((List I3) × ((List I2) × ((List I3) × (List I9)))) × ((Int × (Int × (List Int))) × Int))) : LoopD := ⟨[], ⟨pvs 113 0 [(3, .v (.one (.ptr 0 0))), (4, .v (.one (.ptr 5 0))), (5, .v (.one (.ptr 7 0))), (6, .v (.one (.ptr 8 0))), (8, .v (.one (.full 9))), (30, .v (.one (.full 6))), (31, .v (.one (.i .i64))), (32, .v (.one (.i .i64)))], [.cells [.full 1, .full 2, .full 3, .full 4] 26, .row yy3 0, .row yy2 0, .row yy3 0, .row yy9 0, .cells [.i .i64, .i .i64, .full 6] 29, .row yi 0, .cells [.i .i64] 3, .cells [.raw, .raw, .i .i64, .i .i64] 32, .row yy6 2], 0, none, [], [0, 2, 3, 4, 5, 6, 7, 8, 9, 10, 11, 12, 13], [14, 1], [(.l yy6), .i], [.i (((List.length x.2.1.2.2) : Nat) : Int), .l yy3 x.1.1, .l yy2 x.1.2.1, .l yy3 x.1.2.2.1, .l yy9 x.1.2.2.2, .i x.2.1.1, .i x.2.1.2.1, .l yi x.2.1.2.2, .i x.2.2, .v (.slice none 0 0), .v (.slice none 0 0), .i (0 : Int), .i (0 : Int)]⟩, [⟨.ret, .ret, ⟨pvs 113 0 [(6, .v (.one (.ptr 0 0))), (7, .v (.one (.i .i64)))], [.cells [.raw, .raw, .i .i64, .i .i64] 32], 0, none, [], [1, 2, 3, 4], [0], [.i], [.v (.slice none 0 0), .v (.slice none 0 0), .i (0 : Int), .i (0 : Int)]⟩⟩, ⟨(.exit 0), .normal, ⟨pvs 113 0 [(4, .v (.one (.ptr 0 0))), (5, .v (.one (.ptr 2 0))), (6, .v (.one (.ptr 3 0))), (8, .v (.one (.full 4)))], [.cells [.i .i64, .i .i64, .full 1] 29, .row yi 0, .cells [.i .i64] 3, .cells [.raw, .raw, .i .i64, .i .i64] 32, .row yy6 2], 0, none, [], [0, 1, 2, 3, 4, 5, 6, 7], [8], [(.l yy6)], [.i x.2.1.1, .i x.2.1.2.1, .l yi x.2.1.2.2, .i x.2.2, .v (.slice none 0 0), .v (.slice none 0 0), .i (0 : Int), .i (0 : Int)]⟩⟩]⟩
noncomputable def flay_l0_step (x : (((List I3) × ((List I2) × ((List I3) × (List I9)))) × ((Int × (Int × (List Int))) × Int))) (s : ((List I6) × Int)) : ((List I6) × Int) ⊕ (Int ⊕ (List I6)) :=
 (if (s.2 < (((List.length x.2.1.2.2) : Nat) : Int)) then
 (letV (facing (x.1, (List.getD x.2.1.2.2 (Int.toNat s.2) (0 : Int)))) fun y =>
 (if ((!y.2.2) = true) then
 (Sum.inr (Sum.inl (1 : Int))) else
 (if ((y.1 != x.2.1.1) = true) then
 (Sum.inr (Sum.inl (1 : Int))) else
 (if ((y.2.1 != x.2.1.2.1) = true) then
 (Sum.inr (Sum.inl (1 : Int))) else
 (letV (shadow (x.1, ((List.getD x.2.1.2.2 (Int.toNat s.2) (0 : Int)), y.1))) fun y_1 =>
 (if ((y_1.2 != (0 : Int)) = true) then
 (Sum.inr (Sum.inl y_1.2)) else
 (Sum.inl ((s.1 ++ [y_1.1]), (w64 (s.2 + (1 : Int))))))))))) else
 (Sum.inr (Sum.inr (s.1))))
noncomputable def flay_l0_pre (x : (((List I3) × ((List I2) × ((List I3) × (List I9)))) × ((Int × (Int × (List Int))) × Int))) (s : ((List I6) × Int)) : Prop :=
 ((s.2 < (((List.length x.2.1.2.2) : Nat) : Int)) →
 ((((0 : Int) ≤ s.2) ∧ (s.2 < (((List.length x.2.1.2.2) : Nat) : Int))) ∧
 (((Int.toNat s.2) < (List.length x.2.1.2.2)) ∧
 (((Int.toNat s.2) < (List.length x.2.1.2.2)) ∧
 ((facing_pre (x.1, (List.getD x.2.1.2.2 (Int.toNat s.2) (0 : Int)))) ∧
 letP (facing (x.1, (List.getD x.2.1.2.2 (Int.toNat s.2) (0 : Int)))) fun y =>
 (¬ ((!y.2.2) = true) →
 (¬ ((y.1 != x.2.1.1) = true) →
 (¬ ((y.2.1 != x.2.1.2.1) = true) →
 ((shadow_pre (x.1, ((List.getD x.2.1.2.2 (Int.toNat s.2) (0 : Int)), y.1))) ∧
 letP (shadow (x.1, ((List.getD x.2.1.2.2 (Int.toNat s.2) (0 : Int)), y.1))) fun y_1 =>
 (¬ ((y_1.2 != (0 : Int)) = true) →
 (((List.length s.1) + 1) < 1099511627776)))))))))))
noncomputable def flay_l0_t (x : (((List I3) × ((List I2) × ((List I3) × (List I9)))) × ((Int × (Int × (List Int))) × Int))) (s : ((List I6) × Int)) : Tr (((List I6) × Int) ⊕ (Int ⊕ (List I6))) true :=
 (.i10 (s.2 < (((List.length x.2.1.2.2) : Nat) : Int))
 (.oR s.2 (((List.length x.2.1.2.2) : Nat) : Int)
 (.od ((Int.toNat s.2) < (List.length x.2.1.2.2))
 (.od ((Int.toNat s.2) < (List.length x.2.1.2.2))
 (.fn facing_S (x.1, (List.getD x.2.1.2.2 (Int.toNat s.2) (0 : Int))) fun y =>
 (.b01 (!y.2.2)
 (.ret (.inr (Sum.inl (1 : Int))))
 (.b01 (y.1 != x.2.1.1)
 (.ret (.inr (Sum.inl (1 : Int))))
 (.b01 (y.2.1 != x.2.1.2.1)
 (.ret (.inr (Sum.inl (1 : Int))))
 (.fn shadow_S (x.1, ((List.getD x.2.1.2.2 (Int.toNat s.2) (0 : Int)), y.1)) fun y_1 =>
 (.b01 (y_1.2 != (0 : Int))
 (.ret (.inr (Sum.inl y_1.2)))
 (.od (((List.length s.1) + 1) < 1099511627776)
 (.ret (.inl ((s.1 ++ [y_1.1]), (w64 (s.2 + (1 : Int))))))))))))))))
 (.ret (.inr (Sum.inr (s.1)))))
noncomputable def flay (x : (((List I3) × ((List I2) × ((List I3) × (List I9)))) × ((Int × (Int × (List Int))) × Int))) : (((List Int) × ((List I6) × I2)) × Int) :=
 (if (x.2.2 < (1 : Int)) then
 (([], ([], ((0 : Int), (0 : Int)))), (1 : Int)) else
 (if (x.2.2 > (64 : Int)) then
 (([], ([], ((0 : Int), (0 : Int)))), (1 : Int)) else
 (letV (run (flay_l0_step x) ([], (0 : Int))) fun r =>
 (Sum.elim (fun a =>
 (([], ([], ((0 : Int), (0 : Int)))), a)) (fun b =>
 (letV (fbox b) fun y =>
 (if ((y.2.2 != (0 : Int)) = true) then
 (([], ([], ((0 : Int), (0 : Int)))), (1 : Int)) else
 (letV (layc (y.2.1, (y.1, x.2.2))) fun y_1 =>
 (if ((maxI y_1.1 y_1.2) > (4096 : Int)) then
 (([], ([], ((0 : Int), (0 : Int)))), (2 : Int)) else
 (letV (turnedL (b, (y.1, x.2.2))) fun y_2 =>
 (letV (fapart y_2) fun y_3 =>
 (if ((!y_3) = true) then
 (([], ([], ((0 : Int), (0 : Int)))), (1 : Int)) else
 (letV (fsizes y_1) fun y_4 =>
 (letV (cloneI x.2.1.2.2) fun y_5 =>
 ((y_5, (y_2, y_4)), (0 : Int)))))))))))) r))))
noncomputable def flay_pre (x : (((List I3) × ((List I2) × ((List I3) × (List I9)))) × ((Int × (Int × (List Int))) × Int))) : Prop :=
 (¬ (x.2.2 < (1 : Int)) →
 (¬ (x.2.2 > (64 : Int)) →
 (Term (flay_l0_step x) (flay_l0_pre x) ([], (0 : Int)) ∧
 letP (run (flay_l0_step x) ([], (0 : Int))) fun r =>
 (cS r (fun a =>
 True) (fun b =>
 ((fbox_pre b) ∧
 letP (fbox b) fun y =>
 (¬ ((y.2.2 != (0 : Int)) = true) →
 (letP (layc (y.2.1, (y.1, x.2.2))) fun y_1 =>
 (¬ ((maxI y_1.1 y_1.2) > (4096 : Int)) →
 ((turnedL_pre (b, (y.1, x.2.2))) ∧
 letP (turnedL (b, (y.1, x.2.2))) fun y_2 =>
 ((fapart_pre y_2) ∧
 letP (fapart y_2) fun y_3 =>
 (¬ ((!y_3) = true) →
 (letP (fsizes y_1) fun y_4 =>
 (cloneI_pre x.2.1.2.2))))))))))))))
noncomputable def flay_t (x : (((List I3) × ((List I2) × ((List I3) × (List I9)))) × ((Int × (Int × (List Int))) × Int))) : Tr (((List Int) × ((List I6) × I2)) × Int) true :=
 (.i01 (x.2.2 < (1 : Int))
 (.ret (([], ([], zz2)), (1 : Int)))
 (.i01 (x.2.2 > (64 : Int))
 (.ret (([], ([], zz2)), (1 : Int)))
 (LoopD.lp (flay_l0 x) (flay_l0_t x) ([], (0 : Int)) fun r =>
 (.s01 r (fun a =>
 (.ret (([], ([], zz2)), a))) (fun b =>
 (.fn fbox_S b fun y =>
 (.b01 (y.2.2 != (0 : Int))
 (.ret (([], ([], zz2)), (1 : Int)))
 (.fn0 layc_S (y.2.1, (y.1, x.2.2)) trivial fun y_1 =>
 (.i01 ((maxI y_1.1 y_1.2) > (4096 : Int))
 (.ret (([], ([], zz2)), (2 : Int)))
 (.fn turnedL_S (b, (y.1, x.2.2)) fun y_2 =>
 (.fn fapart_S y_2 fun y_3 =>
 (.b01 (!y_3)
 (.ret (([], ([], zz2)), (1 : Int)))
 (.fn0 fsizes_S y_1 trivial fun y_4 =>
 (.fn cloneI_S x.2.1.2.2 fun y_5 =>
 (.ret ((y_5, (y_2, y_4)), (0 : Int)))))))))))))))))
noncomputable abbrev flay_S : FnS := ⟨(.pair (.agg (Ty.prod (Ty.sl yy3) (Ty.prod (Ty.sl yy2) (Ty.prod (Ty.sl yy3) (Ty.sl yy9))))) (.pair (.agg (Ty.prod yi (Ty.prod yi (Ty.sl yi)))) (.one yi))), (.pair (.agg (Ty.prod (Ty.sl yi) (Ty.prod (Ty.sl yy6) yy2))) (.one yi)), flay_pre, flay⟩
theorem flay_ok : SpecOk Tryz.prog 7 (fnSpec flay_S) := SpecOk.tr flay_S flay_t (fn := Tryz.f7) tt_ok sp_fis_ok mixed (by kernel_rfl) (ItsOk.nil _ _) (fun x => (LpsOk.tr tt_ok (SpecsOk.ctxI sp_fis_ok (ItsOk.nil _ _)) mixed 0 (flay_l0 x) (flay_l0_t x) LpsOk.nil (by kernel_rfl) fun g s Q => (by kernel_rfl))) (fun x => (by kernel_rfl)) fun x Q => (by kernel_rfl)
def sp_flay : List (Nat × Ev.Spec) := (7, fnSpec flay_S) :: sp_fis
theorem sp_flay_ok : SpecsOk Tryz.prog sp_flay := SpecsOk.add (fn := Tryz.f7) (by kernel_rfl) flay_ok sp_fis_ok
noncomputable def fmove (x : (((List Int) × ((List I6) × I2)) × I2)) : ((List I6) × Int) :=
 (letV (fis x.1) fun y =>
 (if ((!y) = true) then
 ([], (1 : Int)) else
 (if ((minI x.2.1 x.2.2) < (0 : Int)) then
 ([], (5 : Int)) else
 (if ((maxI x.2.1 x.2.2) > (65536 : Int)) then
 ([], (5 : Int)) else
 (letV (turnedM (x.1.2.1, x.2)) fun y_1 =>
 (y_1, (0 : Int)))))))
noncomputable def fmove_pre (x : (((List Int) × ((List I6) × I2)) × I2)) : Prop :=
 ((fis_pre x.1) ∧
 letP (fis x.1) fun y =>
 (¬ ((!y) = true) →
 (¬ ((minI x.2.1 x.2.2) < (0 : Int)) →
 (¬ ((maxI x.2.1 x.2.2) > (65536 : Int)) →
 (turnedM_pre (x.1.2.1, x.2))))))
noncomputable def fmove_t (x : (((List Int) × ((List I6) × I2)) × I2)) : Tr ((List I6) × Int) true :=
 (.fn fis_S x.1 fun y =>
 (.b01 (!y)
 (.ret ([], (1 : Int)))
 (.i01 ((minI x.2.1 x.2.2) < (0 : Int))
 (.ret ([], (5 : Int)))
 (.i01 ((maxI x.2.1 x.2.2) > (65536 : Int))
 (.ret ([], (5 : Int)))
 (.fn turnedM_S (x.1.2.1, x.2) fun y_1 =>
 (.ret (y_1, (0 : Int))))))))
noncomputable abbrev fmove_S : FnS := ⟨(.pair (.agg (Ty.prod (Ty.sl yi) (Ty.prod (Ty.sl yy6) yy2))) (.agg yy2)), (.pair (.one (Ty.sl yy6)) (.one yi)), fmove_pre, fmove⟩
theorem fmove_ok : SpecOk Tryz.prog 9 (fnSpec fmove_S) := SpecOk.tr fmove_S fmove_t (fn := Tryz.f9) tt_ok sp_flay_ok mixed (by kernel_rfl) (ItsOk.nil _ _) (fun x => LpsOk.nil) (fun x => (by kernel_rfl)) fun x Q => (by kernel_rfl)
def sp_fmove : List (Nat × Ev.Spec) := (9, fnSpec fmove_S) :: sp_flay
theorem sp_fmove_ok : SpecsOk Tryz.prog sp_fmove := SpecsOk.add (fn := Tryz.f9) (by kernel_rfl) fmove_ok sp_flay_ok
end Go.Proofs.YtpbbnoggkbfkoaaGreat
