/- Models of lift's functions. -/
import Derived.Test.YtfgdjlhilladhaaDb0
namespace Go.Proofs.Ytfgdjlhilladhaa
open Go Go.Ev Go.Proofs
set_option linter.unusedVariables false
noncomputable def lcentre (x : I2) : (I2 × Int) :=
 (if ((minI x.1 x.2) < (0 : Int)) then
 (((0 : Int), (0 : Int)), (5 : Int)) else
 (if ((maxI x.1 x.2) ≥ (256 : Int)) then
 (((0 : Int), (0 : Int)), (5 : Int)) else
 (((w64 ((w64 ((16 : Int) * x.1)) + (8 : Int))), (w64 ((w64 ((16 : Int) * x.2)) + (8 : Int)))), (0 : Int))))
noncomputable def lcentre_pre (_ : I2) : Prop := True
noncomputable def lcentre_t (x : I2) : Tr (I2 × Int) false :=
 (.i00 ((minI x.1 x.2) < (0 : Int))
 (.ret (zz2, (5 : Int)))
 (.i00 ((maxI x.1 x.2) ≥ (256 : Int))
 (.ret (zz2, (5 : Int)))
 (.ret (((w64 ((w64 ((16 : Int) * x.1)) + (8 : Int))), (w64 ((w64 ((16 : Int) * x.2)) + (8 : Int)))), (0 : Int)))))
noncomputable abbrev lcentre_S : FnS := ⟨(.pair (.one yi) (.one yi)), (.pair (.agg yy2) (.one yi)), lcentre_pre, lcentre⟩
theorem lcentre_ok : SpecOk Try.prog 7 (fnSpec lcentre_S) := SpecOk.tr lcentre_S lcentre_t (fn := Try.f7) tt_ok sp_nlift_ok mixed (by kernel_rfl) (ItsOk.nil _ _) (fun x => LpsOk.nil) (fun x => (by kernel_rfl)) fun x Q => (by kernel_rfl)
def sp_lcentre : List (Nat × Ev.Spec) := (7, fnSpec lcentre_S) :: sp_nlift
theorem sp_lcentre_ok : SpecsOk Try.prog sp_lcentre := SpecsOk.add (fn := Try.f7) (by kernel_rfl) lcentre_ok sp_nlift_ok
noncomputable def lpoint (x : (Int × (Int × (I6 × I9)))) : (I3 × Int) :=
 (letV (lcentre (x.1, x.2.1)) fun y =>
 (if ((y.2 != (0 : Int)) = true) then
 (((0 : Int), ((0 : Int), (0 : Int))), y.2) else
 (letV (closest (y.1, x.2.2.1)) fun y_1 =>
 (if ((y_1.2.2 != (0 : Int)) = true) then
 (((0 : Int), ((0 : Int), (0 : Int))), y_1.2.2) else
 (letV (nlift (y_1.1, x.2.2)) fun y_2 =>
 y_2)))))
noncomputable def lpoint_pre (x : (Int × (Int × (I6 × I9)))) : Prop :=
 (letP (lcentre (x.1, x.2.1)) fun y =>
 (¬ ((y.2 != (0 : Int)) = true) →
 ((closest_pre (y.1, x.2.2.1)) ∧
 letP (closest (y.1, x.2.2.1)) fun y_1 =>
 (¬ ((y_1.2.2 != (0 : Int)) = true) →
 (nlift_pre (y_1.1, x.2.2))))))
noncomputable def lpoint_t (x : (Int × (Int × (I6 × I9)))) : Tr (I3 × Int) true :=
 (.fn0 lcentre_S (x.1, x.2.1) trivial fun y =>
 (.b01 (y.2 != (0 : Int))
 (.ret (zz3, y.2))
 (.fn closest_S (y.1, x.2.2.1) fun y_1 =>
 (.b01 (y_1.2.2 != (0 : Int))
 (.ret (zz3, y_1.2.2))
 (.fn nlift_S (y_1.1, x.2.2) fun y_2 =>
 (.ret y_2))))))
noncomputable abbrev lpoint_S : FnS := ⟨(.pair (.one yi) (.pair (.one yi) (.pair (.agg yy6) (.agg yy9)))), (.pair (.agg yy3) (.one yi)), lpoint_pre, lpoint⟩
theorem lpoint_ok : SpecOk Try.prog 5 (fnSpec lpoint_S) := SpecOk.tr lpoint_S lpoint_t (fn := Try.f5) tt_ok sp_lcentre_ok mixed (by kernel_rfl) (ItsOk.nil _ _) (fun x => LpsOk.nil) (fun x => (by kernel_rfl)) fun x Q => (by kernel_rfl)
def sp_lpoint : List (Nat × Ev.Spec) := (5, fnSpec lpoint_S) :: sp_lcentre
theorem sp_lpoint_ok : SpecsOk Try.prog sp_lpoint := SpecsOk.add (fn := Try.f5) (by kernel_rfl) lpoint_ok sp_lcentre_ok
noncomputable def l20lifted_i : ItsB Try.prog := ⟨_, (ItsOk.walk tt_ok sp_lpoint_ok mixed 12 (fn := Try.f12) (by kernel_rfl) (ItsOk.walk tt_ok sp_lpoint_ok mixed 28 (fn := Try.f28) (by kernel_rfl) (ItsOk.walk tt_ok sp_lpoint_ok mixed 27 (fn := Try.f27) (by kernel_rfl) (ItsOk.walk tt_ok sp_lpoint_ok mixed 11 (fn := Try.f11) (by kernel_rfl) (ItsOk.walk tt_ok sp_lpoint_ok mixed 22 (fn := Try.f22) (by kernel_rfl) (ItsOk.walk tt_ok sp_lpoint_ok mixed 39 (fn := Try.f39) (by kernel_rfl) (ItsOk.walk tt_ok sp_lpoint_ok mixed 59 (fn := Try.f59) (by kernel_rfl) (ItsOk.walk tt_ok sp_lpoint_ok mixed 23 (fn := Try.f23) (by kernel_rfl) (ItsOk.walk tt_ok sp_lpoint_ok mixed 43 (fn := Try.f43) (by kernel_rfl) (ItsOk.walk tt_ok sp_lpoint_ok mixed 67 (fn := Try.f67) (by kernel_rfl) (ItsOk.nil _ _) fun ys hy => (LpsOk.unrollT tt_ok ⟨sp_lpoint_ok, hy, (ItsOk.nil _ _)⟩ mixed 0 1 LpsOk.nil (by kernel_rfl))) fun ys hy => LpsOk.nil) fun ys hy => (LpsOk.unrollT tt_ok ⟨sp_lpoint_ok, hy, (ItsOk.walk tt_ok sp_lpoint_ok mixed 43 (fn := Try.f43) (by kernel_rfl) (ItsOk.walk tt_ok sp_lpoint_ok mixed 67 (fn := Try.f67) (by kernel_rfl) (ItsOk.nil _ _) fun ys hy => (LpsOk.unrollT tt_ok ⟨sp_lpoint_ok, hy, (ItsOk.nil _ _)⟩ mixed 0 1 LpsOk.nil (by kernel_rfl))) fun ys hy => LpsOk.nil)⟩ mixed 0 1 LpsOk.nil (by kernel_rfl))) fun ys hy => LpsOk.nil) fun ys hy => (LpsOk.unrollT tt_ok ⟨sp_lpoint_ok, hy, (ItsOk.walk tt_ok sp_lpoint_ok mixed 59 (fn := Try.f59) (by kernel_rfl) (ItsOk.walk tt_ok sp_lpoint_ok mixed 23 (fn := Try.f23) (by kernel_rfl) (ItsOk.walk tt_ok sp_lpoint_ok mixed 43 (fn := Try.f43) (by kernel_rfl) (ItsOk.walk tt_ok sp_lpoint_ok mixed 67 (fn := Try.f67) (by kernel_rfl) (ItsOk.nil _ _) fun ys hy => (LpsOk.unrollT tt_ok ⟨sp_lpoint_ok, hy, (ItsOk.nil _ _)⟩ mixed 0 1 LpsOk.nil (by kernel_rfl))) fun ys hy => LpsOk.nil) fun ys hy => (LpsOk.unrollT tt_ok ⟨sp_lpoint_ok, hy, (ItsOk.walk tt_ok sp_lpoint_ok mixed 43 (fn := Try.f43) (by kernel_rfl) (ItsOk.walk tt_ok sp_lpoint_ok mixed 67 (fn := Try.f67) (by kernel_rfl) (ItsOk.nil _ _) fun ys hy => (LpsOk.unrollT tt_ok ⟨sp_lpoint_ok, hy, (ItsOk.nil _ _)⟩ mixed 0 1 LpsOk.nil (by kernel_rfl))) fun ys hy => LpsOk.nil)⟩ mixed 0 1 LpsOk.nil (by kernel_rfl))) fun ys hy => LpsOk.nil)⟩ mixed 0 1 LpsOk.nil (by kernel_rfl))) fun ys hy => (LpsOk.unrollT tt_ok ⟨sp_lpoint_ok, hy, (ItsOk.walk tt_ok sp_lpoint_ok mixed 39 (fn := Try.f39) (by kernel_rfl) (ItsOk.walk tt_ok sp_lpoint_ok mixed 59 (fn := Try.f59) (by kernel_rfl) (ItsOk.walk tt_ok sp_lpoint_ok mixed 23 (fn := Try.f23) (by kernel_rfl) (ItsOk.walk tt_ok sp_lpoint_ok mixed 43 (fn := Try.f43) (by kernel_rfl) (ItsOk.walk tt_ok sp_lpoint_ok mixed 67 (fn := Try.f67) (by kernel_rfl) (ItsOk.nil _ _) fun ys hy => (LpsOk.unrollT tt_ok ⟨sp_lpoint_ok, hy, (ItsOk.nil _ _)⟩ mixed 0 1 LpsOk.nil (by kernel_rfl))) fun ys hy => LpsOk.nil) fun ys hy => (LpsOk.unrollT tt_ok ⟨sp_lpoint_ok, hy, (ItsOk.walk tt_ok sp_lpoint_ok mixed 43 (fn := Try.f43) (by kernel_rfl) (ItsOk.walk tt_ok sp_lpoint_ok mixed 67 (fn := Try.f67) (by kernel_rfl) (ItsOk.nil _ _) fun ys hy => (LpsOk.unrollT tt_ok ⟨sp_lpoint_ok, hy, (ItsOk.nil _ _)⟩ mixed 0 1 LpsOk.nil (by kernel_rfl))) fun ys hy => LpsOk.nil)⟩ mixed 0 1 LpsOk.nil (by kernel_rfl))) fun ys hy => LpsOk.nil) fun ys hy => (LpsOk.unrollT tt_ok ⟨sp_lpoint_ok, hy, (ItsOk.walk tt_ok sp_lpoint_ok mixed 59 (fn := Try.f59) (by kernel_rfl) (ItsOk.walk tt_ok sp_lpoint_ok mixed 23 (fn := Try.f23) (by kernel_rfl) (ItsOk.walk tt_ok sp_lpoint_ok mixed 43 (fn := Try.f43) (by kernel_rfl) (ItsOk.walk tt_ok sp_lpoint_ok mixed 67 (fn := Try.f67) (by kernel_rfl) (ItsOk.nil _ _) fun ys hy => (LpsOk.unrollT tt_ok ⟨sp_lpoint_ok, hy, (ItsOk.nil _ _)⟩ mixed 0 1 LpsOk.nil (by kernel_rfl))) fun ys hy => LpsOk.nil) fun ys hy => (LpsOk.unrollT tt_ok ⟨sp_lpoint_ok, hy, (ItsOk.walk tt_ok sp_lpoint_ok mixed 43 (fn := Try.f43) (by kernel_rfl) (ItsOk.walk tt_ok sp_lpoint_ok mixed 67 (fn := Try.f67) (by kernel_rfl) (ItsOk.nil _ _) fun ys hy => (LpsOk.unrollT tt_ok ⟨sp_lpoint_ok, hy, (ItsOk.nil _ _)⟩ mixed 0 1 LpsOk.nil (by kernel_rfl))) fun ys hy => LpsOk.nil)⟩ mixed 0 1 LpsOk.nil (by kernel_rfl))) fun ys hy => LpsOk.nil)⟩ mixed 0 1 LpsOk.nil (by kernel_rfl)))⟩ mixed 0 1 LpsOk.nil (by kernel_rfl))) fun ys hy => (LpsOk.unrollT tt_ok ⟨sp_lpoint_ok, hy, (ItsOk.walk tt_ok sp_lpoint_ok mixed 22 (fn := Try.f22) (by kernel_rfl) (ItsOk.walk tt_ok sp_lpoint_ok mixed 39 (fn := Try.f39) (by kernel_rfl) (ItsOk.walk tt_ok sp_lpoint_ok mixed 59 (fn := Try.f59) (by kernel_rfl) (ItsOk.walk tt_ok sp_lpoint_ok mixed 23 (fn := Try.f23) (by kernel_rfl) (ItsOk.walk tt_ok sp_lpoint_ok mixed 43 (fn := Try.f43) (by kernel_rfl) (ItsOk.walk tt_ok sp_lpoint_ok mixed 67 (fn := Try.f67) (by kernel_rfl) (ItsOk.nil _ _) fun ys hy => (LpsOk.unrollT tt_ok ⟨sp_lpoint_ok, hy, (ItsOk.nil _ _)⟩ mixed 0 1 LpsOk.nil (by kernel_rfl))) fun ys hy => LpsOk.nil) fun ys hy => (LpsOk.unrollT tt_ok ⟨sp_lpoint_ok, hy, (ItsOk.walk tt_ok sp_lpoint_ok mixed 43 (fn := Try.f43) (by kernel_rfl) (ItsOk.walk tt_ok sp_lpoint_ok mixed 67 (fn := Try.f67) (by kernel_rfl) (ItsOk.nil _ _) fun ys hy => (LpsOk.unrollT tt_ok ⟨sp_lpoint_ok, hy, (ItsOk.nil _ _)⟩ mixed 0 1 LpsOk.nil (by kernel_rfl))) fun ys hy => LpsOk.nil)⟩ mixed 0 1 LpsOk.nil (by kernel_rfl))) fun ys hy => LpsOk.nil) fun ys hy => (LpsOk.unrollT tt_ok ⟨sp_lpoint_ok, hy, (ItsOk.walk tt_ok sp_lpoint_ok mixed 59 (fn := Try.f59) (by kernel_rfl) (ItsOk.walk tt_ok sp_lpoint_ok mixed 23 (fn := Try.f23) (by kernel_rfl) (ItsOk.walk tt_ok sp_lpoint_ok mixed 43 (fn := Try.f43) (by kernel_rfl) (ItsOk.walk tt_ok sp_lpoint_ok mixed 67 (fn := Try.f67) (by kernel_rfl) (ItsOk.nil _ _) fun ys hy => (LpsOk.unrollT tt_ok ⟨sp_lpoint_ok, hy, (ItsOk.nil _ _)⟩ mixed 0 1 LpsOk.nil (by kernel_rfl))) fun ys hy => LpsOk.nil) fun ys hy => (LpsOk.unrollT tt_ok ⟨sp_lpoint_ok, hy, (ItsOk.walk tt_ok sp_lpoint_ok mixed 43 (fn := Try.f43) (by kernel_rfl) (ItsOk.walk tt_ok sp_lpoint_ok mixed 67 (fn := Try.f67) (by kernel_rfl) (ItsOk.nil _ _) fun ys hy => (LpsOk.unrollT tt_ok ⟨sp_lpoint_ok, hy, (ItsOk.nil _ _)⟩ mixed 0 1 LpsOk.nil (by kernel_rfl))) fun ys hy => LpsOk.nil)⟩ mixed 0 1 LpsOk.nil (by kernel_rfl))) fun ys hy => LpsOk.nil)⟩ mixed 0 1 LpsOk.nil (by kernel_rfl))) fun ys hy => (LpsOk.unrollT tt_ok ⟨sp_lpoint_ok, hy, (ItsOk.walk tt_ok sp_lpoint_ok mixed 39 (fn := Try.f39) (by kernel_rfl) (ItsOk.walk tt_ok sp_lpoint_ok mixed 59 (fn := Try.f59) (by kernel_rfl) (ItsOk.walk tt_ok sp_lpoint_ok mixed 23 (fn := Try.f23) (by kernel_rfl) (ItsOk.walk tt_ok sp_lpoint_ok mixed 43 (fn := Try.f43) (by kernel_rfl) (ItsOk.walk tt_ok sp_lpoint_ok mixed 67 (fn := Try.f67) (by kernel_rfl) (ItsOk.nil _ _) fun ys hy => (LpsOk.unrollT tt_ok ⟨sp_lpoint_ok, hy, (ItsOk.nil _ _)⟩ mixed 0 1 LpsOk.nil (by kernel_rfl))) fun ys hy => LpsOk.nil) fun ys hy => (LpsOk.unrollT tt_ok ⟨sp_lpoint_ok, hy, (ItsOk.walk tt_ok sp_lpoint_ok mixed 43 (fn := Try.f43) (by kernel_rfl) (ItsOk.walk tt_ok sp_lpoint_ok mixed 67 (fn := Try.f67) (by kernel_rfl) (ItsOk.nil _ _) fun ys hy => (LpsOk.unrollT tt_ok ⟨sp_lpoint_ok, hy, (ItsOk.nil _ _)⟩ mixed 0 1 LpsOk.nil (by kernel_rfl))) fun ys hy => LpsOk.nil)⟩ mixed 0 1 LpsOk.nil (by kernel_rfl))) fun ys hy => LpsOk.nil) fun ys hy => (LpsOk.unrollT tt_ok ⟨sp_lpoint_ok, hy, (ItsOk.walk tt_ok sp_lpoint_ok mixed 59 (fn := Try.f59) (by kernel_rfl) (ItsOk.walk tt_ok sp_lpoint_ok mixed 23 (fn := Try.f23) (by kernel_rfl) (ItsOk.walk tt_ok sp_lpoint_ok mixed 43 (fn := Try.f43) (by kernel_rfl) (ItsOk.walk tt_ok sp_lpoint_ok mixed 67 (fn := Try.f67) (by kernel_rfl) (ItsOk.nil _ _) fun ys hy => (LpsOk.unrollT tt_ok ⟨sp_lpoint_ok, hy, (ItsOk.nil _ _)⟩ mixed 0 1 LpsOk.nil (by kernel_rfl))) fun ys hy => LpsOk.nil) fun ys hy => (LpsOk.unrollT tt_ok ⟨sp_lpoint_ok, hy, (ItsOk.walk tt_ok sp_lpoint_ok mixed 43 (fn := Try.f43) (by kernel_rfl) (ItsOk.walk tt_ok sp_lpoint_ok mixed 67 (fn := Try.f67) (by kernel_rfl) (ItsOk.nil _ _) fun ys hy => (LpsOk.unrollT tt_ok ⟨sp_lpoint_ok, hy, (ItsOk.nil _ _)⟩ mixed 0 1 LpsOk.nil (by kernel_rfl))) fun ys hy => LpsOk.nil)⟩ mixed 0 1 LpsOk.nil (by kernel_rfl))) fun ys hy => LpsOk.nil)⟩ mixed 0 1 LpsOk.nil (by kernel_rfl)))⟩ mixed 0 1 LpsOk.nil (by kernel_rfl)))⟩ mixed 0 1 (LpsOk.unrollT tt_ok ⟨sp_lpoint_ok, hy, (ItsOk.walk tt_ok sp_lpoint_ok mixed 22 (fn := Try.f22) (by kernel_rfl) (ItsOk.walk tt_ok sp_lpoint_ok mixed 39 (fn := Try.f39) (by kernel_rfl) (ItsOk.walk tt_ok sp_lpoint_ok mixed 59 (fn := Try.f59) (by kernel_rfl) (ItsOk.walk tt_ok sp_lpoint_ok mixed 23 (fn := Try.f23) (by kernel_rfl) (ItsOk.walk tt_ok sp_lpoint_ok mixed 43 (fn := Try.f43) (by kernel_rfl) (ItsOk.walk tt_ok sp_lpoint_ok mixed 67 (fn := Try.f67) (by kernel_rfl) (ItsOk.nil _ _) fun ys hy => (LpsOk.unrollT tt_ok ⟨sp_lpoint_ok, hy, (ItsOk.nil _ _)⟩ mixed 0 1 LpsOk.nil (by kernel_rfl))) fun ys hy => LpsOk.nil) fun ys hy => (LpsOk.unrollT tt_ok ⟨sp_lpoint_ok, hy, (ItsOk.walk tt_ok sp_lpoint_ok mixed 43 (fn := Try.f43) (by kernel_rfl) (ItsOk.walk tt_ok sp_lpoint_ok mixed 67 (fn := Try.f67) (by kernel_rfl) (ItsOk.nil _ _) fun ys hy => (LpsOk.unrollT tt_ok ⟨sp_lpoint_ok, hy, (ItsOk.nil _ _)⟩ mixed 0 1 LpsOk.nil (by kernel_rfl))) fun ys hy => LpsOk.nil)⟩ mixed 0 1 LpsOk.nil (by kernel_rfl))) fun ys hy => LpsOk.nil) fun ys hy => (LpsOk.unrollT tt_ok ⟨sp_lpoint_ok, hy, (ItsOk.walk tt_ok sp_lpoint_ok mixed 59 (fn := Try.f59) (by kernel_rfl) (ItsOk.walk tt_ok sp_lpoint_ok mixed 23 (fn := Try.f23) (by kernel_rfl) (ItsOk.walk tt_ok sp_lpoint_ok mixed 43 (fn := Try.f43) (by kernel_rfl) (ItsOk.walk tt_ok sp_lpoint_ok mixed 67 (fn := Try.f67) (by kernel_rfl) (ItsOk.nil _ _) fun ys hy => (LpsOk.unrollT tt_ok ⟨sp_lpoint_ok, hy, (ItsOk.nil _ _)⟩ mixed 0 1 LpsOk.nil (by kernel_rfl))) fun ys hy => LpsOk.nil) fun ys hy => (LpsOk.unrollT tt_ok ⟨sp_lpoint_ok, hy, (ItsOk.walk tt_ok sp_lpoint_ok mixed 43 (fn := Try.f43) (by kernel_rfl) (ItsOk.walk tt_ok sp_lpoint_ok mixed 67 (fn := Try.f67) (by kernel_rfl) (ItsOk.nil _ _) fun ys hy => (LpsOk.unrollT tt_ok ⟨sp_lpoint_ok, hy, (ItsOk.nil _ _)⟩ mixed 0 1 LpsOk.nil (by kernel_rfl))) fun ys hy => LpsOk.nil)⟩ mixed 0 1 LpsOk.nil (by kernel_rfl))) fun ys hy => LpsOk.nil)⟩ mixed 0 1 LpsOk.nil (by kernel_rfl))) fun ys hy => (LpsOk.unrollT tt_ok ⟨sp_lpoint_ok, hy, (ItsOk.walk tt_ok sp_lpoint_ok mixed 39 (fn := Try.f39) (by kernel_rfl) (ItsOk.walk tt_ok sp_lpoint_ok mixed 59 (fn := Try.f59) (by kernel_rfl) (ItsOk.walk tt_ok sp_lpoint_ok mixed 23 (fn := Try.f23) (by kernel_rfl) (ItsOk.walk tt_ok sp_lpoint_ok mixed 43 (fn := Try.f43) (by kernel_rfl) (ItsOk.walk tt_ok sp_lpoint_ok mixed 67 (fn := Try.f67) (by kernel_rfl) (ItsOk.nil _ _) fun ys hy => (LpsOk.unrollT tt_ok ⟨sp_lpoint_ok, hy, (ItsOk.nil _ _)⟩ mixed 0 1 LpsOk.nil (by kernel_rfl))) fun ys hy => LpsOk.nil) fun ys hy => (LpsOk.unrollT tt_ok ⟨sp_lpoint_ok, hy, (ItsOk.walk tt_ok sp_lpoint_ok mixed 43 (fn := Try.f43) (by kernel_rfl) (ItsOk.walk tt_ok sp_lpoint_ok mixed 67 (fn := Try.f67) (by kernel_rfl) (ItsOk.nil _ _) fun ys hy => (LpsOk.unrollT tt_ok ⟨sp_lpoint_ok, hy, (ItsOk.nil _ _)⟩ mixed 0 1 LpsOk.nil (by kernel_rfl))) fun ys hy => LpsOk.nil)⟩ mixed 0 1 LpsOk.nil (by kernel_rfl))) fun ys hy => LpsOk.nil) fun ys hy => (LpsOk.unrollT tt_ok ⟨sp_lpoint_ok, hy, (ItsOk.walk tt_ok sp_lpoint_ok mixed 59 (fn := Try.f59) (by kernel_rfl) (ItsOk.walk tt_ok sp_lpoint_ok mixed 23 (fn := Try.f23) (by kernel_rfl) (ItsOk.walk tt_ok sp_lpoint_ok mixed 43 (fn := Try.f43) (by kernel_rfl) (ItsOk.walk tt_ok sp_lpoint_ok mixed 67 (fn := Try.f67) (by kernel_rfl) (ItsOk.nil _ _) fun ys hy => (LpsOk.unrollT tt_ok ⟨sp_lpoint_ok, hy, (ItsOk.nil _ _)⟩ mixed 0 1 LpsOk.nil (by kernel_rfl))) fun ys hy => LpsOk.nil) fun ys hy => (LpsOk.unrollT tt_ok ⟨sp_lpoint_ok, hy, (ItsOk.walk tt_ok sp_lpoint_ok mixed 43 (fn := Try.f43) (by kernel_rfl) (ItsOk.walk tt_ok sp_lpoint_ok mixed 67 (fn := Try.f67) (by kernel_rfl) (ItsOk.nil _ _) fun ys hy => (LpsOk.unrollT tt_ok ⟨sp_lpoint_ok, hy, (ItsOk.nil _ _)⟩ mixed 0 1 LpsOk.nil (by kernel_rfl))) fun ys hy => LpsOk.nil)⟩ mixed 0 1 LpsOk.nil (by kernel_rfl))) fun ys hy => LpsOk.nil)⟩ mixed 0 1 LpsOk.nil (by kernel_rfl)))⟩ mixed 0 1 LpsOk.nil (by kernel_rfl)))⟩ mixed 2 1 LpsOk.nil (by kernel_rfl)) (by kernel_rfl))) fun ys hy => LpsOk.nil) fun ys hy => (LpsOk.unrollT tt_ok ⟨sp_lpoint_ok, hy, (ItsOk.walk tt_ok sp_lpoint_ok mixed 27 (fn := Try.f27) (by kernel_rfl) (ItsOk.walk tt_ok sp_lpoint_ok mixed 11 (fn := Try.f11) (by kernel_rfl) (ItsOk.walk tt_ok sp_lpoint_ok mixed 22 (fn := Try.f22) (by kernel_rfl) (ItsOk.walk tt_ok sp_lpoint_ok mixed 39 (fn := Try.f39) (by kernel_rfl) (ItsOk.walk tt_ok sp_lpoint_ok mixed 59 (fn := Try.f59) (by kernel_rfl) (ItsOk.walk tt_ok sp_lpoint_ok mixed 23 (fn := Try.f23) (by kernel_rfl) (ItsOk.walk tt_ok sp_lpoint_ok mixed 43 (fn := Try.f43) (by kernel_rfl) (ItsOk.walk tt_ok sp_lpoint_ok mixed 67 (fn := Try.f67) (by kernel_rfl) (ItsOk.nil _ _) fun ys hy => (LpsOk.unrollT tt_ok ⟨sp_lpoint_ok, hy, (ItsOk.nil _ _)⟩ mixed 0 1 LpsOk.nil (by kernel_rfl))) fun ys hy => LpsOk.nil) fun ys hy => (LpsOk.unrollT tt_ok ⟨sp_lpoint_ok, hy, (ItsOk.walk tt_ok sp_lpoint_ok mixed 43 (fn := Try.f43) (by kernel_rfl) (ItsOk.walk tt_ok sp_lpoint_ok mixed 67 (fn := Try.f67) (by kernel_rfl) (ItsOk.nil _ _) fun ys hy => (LpsOk.unrollT tt_ok ⟨sp_lpoint_ok, hy, (ItsOk.nil _ _)⟩ mixed 0 1 LpsOk.nil (by kernel_rfl))) fun ys hy => LpsOk.nil)⟩ mixed 0 1 LpsOk.nil (by kernel_rfl))) fun ys hy => LpsOk.nil) fun ys hy => (LpsOk.unrollT tt_ok ⟨sp_lpoint_ok, hy, (ItsOk.walk tt_ok sp_lpoint_ok mixed 59 (fn := Try.f59) (by kernel_rfl) (ItsOk.walk tt_ok sp_lpoint_ok mixed 23 (fn := Try.f23) (by kernel_rfl) (ItsOk.walk tt_ok sp_lpoint_ok mixed 43 (fn := Try.f43) (by kernel_rfl) (ItsOk.walk tt_ok sp_lpoint_ok mixed 67 (fn := Try.f67) (by kernel_rfl) (ItsOk.nil _ _) fun ys hy => (LpsOk.unrollT tt_ok ⟨sp_lpoint_ok, hy, (ItsOk.nil _ _)⟩ mixed 0 1 LpsOk.nil (by kernel_rfl))) fun ys hy => LpsOk.nil) fun ys hy => (LpsOk.unrollT tt_ok ⟨sp_lpoint_ok, hy, (ItsOk.walk tt_ok sp_lpoint_ok mixed 43 (fn := Try.f43) (by kernel_rfl) (ItsOk.walk tt_ok sp_lpoint_ok mixed 67 (fn := Try.f67) (by kernel_rfl) (ItsOk.nil _ _) fun ys hy => (LpsOk.unrollT tt_ok ⟨sp_lpoint_ok, hy, (ItsOk.nil _ _)⟩ mixed 0 1 LpsOk.nil (by kernel_rfl))) fun ys hy => LpsOk.nil)⟩ mixed 0 1 LpsOk.nil (by kernel_rfl))) fun ys hy => LpsOk.nil)⟩ mixed 0 1 LpsOk.nil (by kernel_rfl))) fun ys hy => (LpsOk.unrollT tt_ok ⟨sp_lpoint_ok, hy, (ItsOk.walk tt_ok sp_lpoint_ok mixed 39 (fn := Try.f39) (by kernel_rfl) (ItsOk.walk tt_ok sp_lpoint_ok mixed 59 (fn := Try.f59) (by kernel_rfl) (ItsOk.walk tt_ok sp_lpoint_ok mixed 23 (fn := Try.f23) (by kernel_rfl) (ItsOk.walk tt_ok sp_lpoint_ok mixed 43 (fn := Try.f43) (by kernel_rfl) (ItsOk.walk tt_ok sp_lpoint_ok mixed 67 (fn := Try.f67) (by kernel_rfl) (ItsOk.nil _ _) fun ys hy => (LpsOk.unrollT tt_ok ⟨sp_lpoint_ok, hy, (ItsOk.nil _ _)⟩ mixed 0 1 LpsOk.nil (by kernel_rfl))) fun ys hy => LpsOk.nil) fun ys hy => (LpsOk.unrollT tt_ok ⟨sp_lpoint_ok, hy, (ItsOk.walk tt_ok sp_lpoint_ok mixed 43 (fn := Try.f43) (by kernel_rfl) (ItsOk.walk tt_ok sp_lpoint_ok mixed 67 (fn := Try.f67) (by kernel_rfl) (ItsOk.nil _ _) fun ys hy => (LpsOk.unrollT tt_ok ⟨sp_lpoint_ok, hy, (ItsOk.nil _ _)⟩ mixed 0 1 LpsOk.nil (by kernel_rfl))) fun ys hy => LpsOk.nil)⟩ mixed 0 1 LpsOk.nil (by kernel_rfl))) fun ys hy => LpsOk.nil) fun ys hy => (LpsOk.unrollT tt_ok ⟨sp_lpoint_ok, hy, (ItsOk.walk tt_ok sp_lpoint_ok mixed 59 (fn := Try.f59) (by kernel_rfl) (ItsOk.walk tt_ok sp_lpoint_ok mixed 23 (fn := Try.f23) (by kernel_rfl) (ItsOk.walk tt_ok sp_lpoint_ok mixed 43 (fn := Try.f43) (by kernel_rfl) (ItsOk.walk tt_ok sp_lpoint_ok mixed 67 (fn := Try.f67) (by kernel_rfl) (ItsOk.nil _ _) fun ys hy => (LpsOk.unrollT tt_ok ⟨sp_lpoint_ok, hy, (ItsOk.nil _ _)⟩ mixed 0 1 LpsOk.nil (by kernel_rfl))) fun ys hy => LpsOk.nil) fun ys hy => (LpsOk.unrollT tt_ok ⟨sp_lpoint_ok, hy, (ItsOk.walk tt_ok sp_lpoint_ok mixed 43 (fn := Try.f43) (by kernel_rfl) (ItsOk.walk tt_ok sp_lpoint_ok mixed 67 (fn := Try.f67) (by kernel_rfl) (ItsOk.nil _ _) fun ys hy => (LpsOk.unrollT tt_ok ⟨sp_lpoint_ok, hy, (ItsOk.nil _ _)⟩ mixed 0 1 LpsOk.nil (by kernel_rfl))) fun ys hy => LpsOk.nil)⟩ mixed 0 1 LpsOk.nil (by kernel_rfl))) fun ys hy => LpsOk.nil)⟩ mixed 0 1 LpsOk.nil (by kernel_rfl)))⟩ mixed 0 1 LpsOk.nil (by kernel_rfl))) fun ys hy => (LpsOk.unrollT tt_ok ⟨sp_lpoint_ok, hy, (ItsOk.walk tt_ok sp_lpoint_ok mixed 22 (fn := Try.f22) (by kernel_rfl) (ItsOk.walk tt_ok sp_lpoint_ok mixed 39 (fn := Try.f39) (by kernel_rfl) (ItsOk.walk tt_ok sp_lpoint_ok mixed 59 (fn := Try.f59) (by kernel_rfl) (ItsOk.walk tt_ok sp_lpoint_ok mixed 23 (fn := Try.f23) (by kernel_rfl) (ItsOk.walk tt_ok sp_lpoint_ok mixed 43 (fn := Try.f43) (by kernel_rfl) (ItsOk.walk tt_ok sp_lpoint_ok mixed 67 (fn := Try.f67) (by kernel_rfl) (ItsOk.nil _ _) fun ys hy => (LpsOk.unrollT tt_ok ⟨sp_lpoint_ok, hy, (ItsOk.nil _ _)⟩ mixed 0 1 LpsOk.nil (by kernel_rfl))) fun ys hy => LpsOk.nil) fun ys hy => (LpsOk.unrollT tt_ok ⟨sp_lpoint_ok, hy, (ItsOk.walk tt_ok sp_lpoint_ok mixed 43 (fn := Try.f43) (by kernel_rfl) (ItsOk.walk tt_ok sp_lpoint_ok mixed 67 (fn := Try.f67) (by kernel_rfl) (ItsOk.nil _ _) fun ys hy => (LpsOk.unrollT tt_ok ⟨sp_lpoint_ok, hy, (ItsOk.nil _ _)⟩ mixed 0 1 LpsOk.nil (by kernel_rfl))) fun ys hy => LpsOk.nil)⟩ mixed 0 1 LpsOk.nil (by kernel_rfl))) fun ys hy => LpsOk.nil) fun ys hy => (LpsOk.unrollT tt_ok ⟨sp_lpoint_ok, hy, (ItsOk.walk tt_ok sp_lpoint_ok mixed 59 (fn := Try.f59) (by kernel_rfl) (ItsOk.walk tt_ok sp_lpoint_ok mixed 23 (fn := Try.f23) (by kernel_rfl) (ItsOk.walk tt_ok sp_lpoint_ok mixed 43 (fn := Try.f43) (by kernel_rfl) (ItsOk.walk tt_ok sp_lpoint_ok mixed 67 (fn := Try.f67) (by kernel_rfl) (ItsOk.nil _ _) fun ys hy => (LpsOk.unrollT tt_ok ⟨sp_lpoint_ok, hy, (ItsOk.nil _ _)⟩ mixed 0 1 LpsOk.nil (by kernel_rfl))) fun ys hy => LpsOk.nil) fun ys hy => (LpsOk.unrollT tt_ok ⟨sp_lpoint_ok, hy, (ItsOk.walk tt_ok sp_lpoint_ok mixed 43 (fn := Try.f43) (by kernel_rfl) (ItsOk.walk tt_ok sp_lpoint_ok mixed 67 (fn := Try.f67) (by kernel_rfl) (ItsOk.nil _ _) fun ys hy => (LpsOk.unrollT tt_ok ⟨sp_lpoint_ok, hy, (ItsOk.nil _ _)⟩ mixed 0 1 LpsOk.nil (by kernel_rfl))) fun ys hy => LpsOk.nil)⟩ mixed 0 1 LpsOk.nil (by kernel_rfl))) fun ys hy => LpsOk.nil)⟩ mixed 0 1 LpsOk.nil (by kernel_rfl))) fun ys hy => (LpsOk.unrollT tt_ok ⟨sp_lpoint_ok, hy, (ItsOk.walk tt_ok sp_lpoint_ok mixed 39 (fn := Try.f39) (by kernel_rfl) (ItsOk.walk tt_ok sp_lpoint_ok mixed 59 (fn := Try.f59) (by kernel_rfl) (ItsOk.walk tt_ok sp_lpoint_ok mixed 23 (fn := Try.f23) (by kernel_rfl) (ItsOk.walk tt_ok sp_lpoint_ok mixed 43 (fn := Try.f43) (by kernel_rfl) (ItsOk.walk tt_ok sp_lpoint_ok mixed 67 (fn := Try.f67) (by kernel_rfl) (ItsOk.nil _ _) fun ys hy => (LpsOk.unrollT tt_ok ⟨sp_lpoint_ok, hy, (ItsOk.nil _ _)⟩ mixed 0 1 LpsOk.nil (by kernel_rfl))) fun ys hy => LpsOk.nil) fun ys hy => (LpsOk.unrollT tt_ok ⟨sp_lpoint_ok, hy, (ItsOk.walk tt_ok sp_lpoint_ok mixed 43 (fn := Try.f43) (by kernel_rfl) (ItsOk.walk tt_ok sp_lpoint_ok mixed 67 (fn := Try.f67) (by kernel_rfl) (ItsOk.nil _ _) fun ys hy => (LpsOk.unrollT tt_ok ⟨sp_lpoint_ok, hy, (ItsOk.nil _ _)⟩ mixed 0 1 LpsOk.nil (by kernel_rfl))) fun ys hy => LpsOk.nil)⟩ mixed 0 1 LpsOk.nil (by kernel_rfl))) fun ys hy => LpsOk.nil) fun ys hy => (LpsOk.unrollT tt_ok ⟨sp_lpoint_ok, hy, (ItsOk.walk tt_ok sp_lpoint_ok mixed 59 (fn := Try.f59) (by kernel_rfl) (ItsOk.walk tt_ok sp_lpoint_ok mixed 23 (fn := Try.f23) (by kernel_rfl) (ItsOk.walk tt_ok sp_lpoint_ok mixed 43 (fn := Try.f43) (by kernel_rfl) (ItsOk.walk tt_ok sp_lpoint_ok mixed 67 (fn := Try.f67) (by kernel_rfl) (ItsOk.nil _ _) fun ys hy => (LpsOk.unrollT tt_ok ⟨sp_lpoint_ok, hy, (ItsOk.nil _ _)⟩ mixed 0 1 LpsOk.nil (by kernel_rfl))) fun ys hy => LpsOk.nil) fun ys hy => (LpsOk.unrollT tt_ok ⟨sp_lpoint_ok, hy, (ItsOk.walk tt_ok sp_lpoint_ok mixed 43 (fn := Try.f43) (by kernel_rfl) (ItsOk.walk tt_ok sp_lpoint_ok mixed 67 (fn := Try.f67) (by kernel_rfl) (ItsOk.nil _ _) fun ys hy => (LpsOk.unrollT tt_ok ⟨sp_lpoint_ok, hy, (ItsOk.nil _ _)⟩ mixed 0 1 LpsOk.nil (by kernel_rfl))) fun ys hy => LpsOk.nil)⟩ mixed 0 1 LpsOk.nil (by kernel_rfl))) fun ys hy => LpsOk.nil)⟩ mixed 0 1 LpsOk.nil (by kernel_rfl)))⟩ mixed 0 1 LpsOk.nil (by kernel_rfl)))⟩ mixed 0 1 (LpsOk.unrollT tt_ok ⟨sp_lpoint_ok, hy, (ItsOk.walk tt_ok sp_lpoint_ok mixed 22 (fn := Try.f22) (by kernel_rfl) (ItsOk.walk tt_ok sp_lpoint_ok mixed 39 (fn := Try.f39) (by kernel_rfl) (ItsOk.walk tt_ok sp_lpoint_ok mixed 59 (fn := Try.f59) (by kernel_rfl) (ItsOk.walk tt_ok sp_lpoint_ok mixed 23 (fn := Try.f23) (by kernel_rfl) (ItsOk.walk tt_ok sp_lpoint_ok mixed 43 (fn := Try.f43) (by kernel_rfl) (ItsOk.walk tt_ok sp_lpoint_ok mixed 67 (fn := Try.f67) (by kernel_rfl) (ItsOk.nil _ _) fun ys hy => (LpsOk.unrollT tt_ok ⟨sp_lpoint_ok, hy, (ItsOk.nil _ _)⟩ mixed 0 1 LpsOk.nil (by kernel_rfl))) fun ys hy => LpsOk.nil) fun ys hy => (LpsOk.unrollT tt_ok ⟨sp_lpoint_ok, hy, (ItsOk.walk tt_ok sp_lpoint_ok mixed 43 (fn := Try.f43) (by kernel_rfl) (ItsOk.walk tt_ok sp_lpoint_ok mixed 67 (fn := Try.f67) (by kernel_rfl) (ItsOk.nil _ _) fun ys hy => (LpsOk.unrollT tt_ok ⟨sp_lpoint_ok, hy, (ItsOk.nil _ _)⟩ mixed 0 1 LpsOk.nil (by kernel_rfl))) fun ys hy => LpsOk.nil)⟩ mixed 0 1 LpsOk.nil (by kernel_rfl))) fun ys hy => LpsOk.nil) fun ys hy => (LpsOk.unrollT tt_ok ⟨sp_lpoint_ok, hy, (ItsOk.walk tt_ok sp_lpoint_ok mixed 59 (fn := Try.f59) (by kernel_rfl) (ItsOk.walk tt_ok sp_lpoint_ok mixed 23 (fn := Try.f23) (by kernel_rfl) (ItsOk.walk tt_ok sp_lpoint_ok mixed 43 (fn := Try.f43) (by kernel_rfl) (ItsOk.walk tt_ok sp_lpoint_ok mixed 67 (fn := Try.f67) (by kernel_rfl) (ItsOk.nil _ _) fun ys hy => (LpsOk.unrollT tt_ok ⟨sp_lpoint_ok, hy, (ItsOk.nil _ _)⟩ mixed 0 1 LpsOk.nil (by kernel_rfl))) fun ys hy => LpsOk.nil) fun ys hy => (LpsOk.unrollT tt_ok ⟨sp_lpoint_ok, hy, (ItsOk.walk tt_ok sp_lpoint_ok mixed 43 (fn := Try.f43) (by kernel_rfl) (ItsOk.walk tt_ok sp_lpoint_ok mixed 67 (fn := Try.f67) (by kernel_rfl) (ItsOk.nil _ _) fun ys hy => (LpsOk.unrollT tt_ok ⟨sp_lpoint_ok, hy, (ItsOk.nil _ _)⟩ mixed 0 1 LpsOk.nil (by kernel_rfl))) fun ys hy => LpsOk.nil)⟩ mixed 0 1 LpsOk.nil (by kernel_rfl))) fun ys hy => LpsOk.nil)⟩ mixed 0 1 LpsOk.nil (by kernel_rfl))) fun ys hy => (LpsOk.unrollT tt_ok ⟨sp_lpoint_ok, hy, (ItsOk.walk tt_ok sp_lpoint_ok mixed 39 (fn := Try.f39) (by kernel_rfl) (ItsOk.walk tt_ok sp_lpoint_ok mixed 59 (fn := Try.f59) (by kernel_rfl) (ItsOk.walk tt_ok sp_lpoint_ok mixed 23 (fn := Try.f23) (by kernel_rfl) (ItsOk.walk tt_ok sp_lpoint_ok mixed 43 (fn := Try.f43) (by kernel_rfl) (ItsOk.walk tt_ok sp_lpoint_ok mixed 67 (fn := Try.f67) (by kernel_rfl) (ItsOk.nil _ _) fun ys hy => (LpsOk.unrollT tt_ok ⟨sp_lpoint_ok, hy, (ItsOk.nil _ _)⟩ mixed 0 1 LpsOk.nil (by kernel_rfl))) fun ys hy => LpsOk.nil) fun ys hy => (LpsOk.unrollT tt_ok ⟨sp_lpoint_ok, hy, (ItsOk.walk tt_ok sp_lpoint_ok mixed 43 (fn := Try.f43) (by kernel_rfl) (ItsOk.walk tt_ok sp_lpoint_ok mixed 67 (fn := Try.f67) (by kernel_rfl) (ItsOk.nil _ _) fun ys hy => (LpsOk.unrollT tt_ok ⟨sp_lpoint_ok, hy, (ItsOk.nil _ _)⟩ mixed 0 1 LpsOk.nil (by kernel_rfl))) fun ys hy => LpsOk.nil)⟩ mixed 0 1 LpsOk.nil (by kernel_rfl))) fun ys hy => LpsOk.nil) fun ys hy => (LpsOk.unrollT tt_ok ⟨sp_lpoint_ok, hy, (ItsOk.walk tt_ok sp_lpoint_ok mixed 59 (fn := Try.f59) (by kernel_rfl) (ItsOk.walk tt_ok sp_lpoint_ok mixed 23 (fn := Try.f23) (by kernel_rfl) (ItsOk.walk tt_ok sp_lpoint_ok mixed 43 (fn := Try.f43) (by kernel_rfl) (ItsOk.walk tt_ok sp_lpoint_ok mixed 67 (fn := Try.f67) (by kernel_rfl) (ItsOk.nil _ _) fun ys hy => (LpsOk.unrollT tt_ok ⟨sp_lpoint_ok, hy, (ItsOk.nil _ _)⟩ mixed 0 1 LpsOk.nil (by kernel_rfl))) fun ys hy => LpsOk.nil) fun ys hy => (LpsOk.unrollT tt_ok ⟨sp_lpoint_ok, hy, (ItsOk.walk tt_ok sp_lpoint_ok mixed 43 (fn := Try.f43) (by kernel_rfl) (ItsOk.walk tt_ok sp_lpoint_ok mixed 67 (fn := Try.f67) (by kernel_rfl) (ItsOk.nil _ _) fun ys hy => (LpsOk.unrollT tt_ok ⟨sp_lpoint_ok, hy, (ItsOk.nil _ _)⟩ mixed 0 1 LpsOk.nil (by kernel_rfl))) fun ys hy => LpsOk.nil)⟩ mixed 0 1 LpsOk.nil (by kernel_rfl))) fun ys hy => LpsOk.nil)⟩ mixed 0 1 LpsOk.nil (by kernel_rfl)))⟩ mixed 0 1 LpsOk.nil (by kernel_rfl)))⟩ mixed 2 1 LpsOk.nil (by kernel_rfl)) (by kernel_rfl))) fun ys hy => LpsOk.nil)⟩ mixed 0 3 LpsOk.nil (by kernel_rfl))) fun ys hy => LpsOk.nil)⟩
noncomputable def l20lifted (x : Bool) : Bool :=
 (letV (lpoint ((0 : Int), ((0 : Int), ((((0 : Int), (0 : Int)), (((32 : Int), (0 : Int)), ((0 : Int), (32 : Int)))), (((0 : Int), ((0 : Int), (0 : Int))), (((64 : Int), ((0 : Int), (0 : Int))), ((0 : Int), ((0 : Int), (64 : Int))))))))) fun y =>
 (letV (lpoint ((1 : Int), ((1 : Int), ((((0 : Int), (0 : Int)), (((32 : Int), (0 : Int)), ((0 : Int), (32 : Int)))), (((0 : Int), ((0 : Int), (0 : Int))), (((64 : Int), ((0 : Int), (0 : Int))), ((0 : Int), ((0 : Int), (64 : Int))))))))) fun y_1 =>
 (letV (lcentre ((1 : Int), (2 : Int))) fun y_2 =>
 (letV (lcentre ((256 : Int), (0 : Int))) fun y_3 =>
 (if ((y.2 == (0 : Int)) = true) then
 (if (((y.1.1 == (16 : Int)) && ((y.1.2.1 == (0 : Int)) && ((y.1.2.2 == (16 : Int)) && true))) = true) then
 (if ((y_1.2 == y.2) = true) then
 (if (((y_1.1.1 == (32 : Int)) && ((y_1.1.2.1 == (0 : Int)) && ((y_1.1.2.2 == (32 : Int)) && true))) = true) then
 (if ((y_2.2 == y.2) = true) then
 (if (((y_2.1.1 == (24 : Int)) && ((y_2.1.2 == (40 : Int)) && true)) = true) then
 (if ((y_3.2 == (5 : Int)) = true) then
 true else
 false) else
 false) else
 false) else
 false) else
 false) else
 false) else
 false)))))
noncomputable def l20lifted_pre (x : Bool) : Prop :=
 ((lpoint_pre ((0 : Int), ((0 : Int), ((((0 : Int), (0 : Int)), (((32 : Int), (0 : Int)), ((0 : Int), (32 : Int)))), (((0 : Int), ((0 : Int), (0 : Int))), (((64 : Int), ((0 : Int), (0 : Int))), ((0 : Int), ((0 : Int), (64 : Int))))))))) ∧
 letP (lpoint ((0 : Int), ((0 : Int), ((((0 : Int), (0 : Int)), (((32 : Int), (0 : Int)), ((0 : Int), (32 : Int)))), (((0 : Int), ((0 : Int), (0 : Int))), (((64 : Int), ((0 : Int), (0 : Int))), ((0 : Int), ((0 : Int), (64 : Int))))))))) fun y =>
 (lpoint_pre ((1 : Int), ((1 : Int), ((((0 : Int), (0 : Int)), (((32 : Int), (0 : Int)), ((0 : Int), (32 : Int)))), (((0 : Int), ((0 : Int), (0 : Int))), (((64 : Int), ((0 : Int), (0 : Int))), ((0 : Int), ((0 : Int), (64 : Int))))))))))
noncomputable def l20lifted_t (x : Bool) : Tr Bool true :=
 (.fn lpoint_S ((0 : Int), ((0 : Int), ((zz2, (((32 : Int), (0 : Int)), ((0 : Int), (32 : Int)))), (zz3, (((64 : Int), zz2), ((0 : Int), ((0 : Int), (64 : Int)))))))) fun y =>
 (.fn lpoint_S ((1 : Int), ((1 : Int), ((zz2, (((32 : Int), (0 : Int)), ((0 : Int), (32 : Int)))), (zz3, (((64 : Int), zz2), ((0 : Int), ((0 : Int), (64 : Int)))))))) fun y_1 =>
 (.fn0 lcentre_S ((1 : Int), (2 : Int)) trivial fun y_2 =>
 (.fn0 lcentre_S ((256 : Int), (0 : Int)) trivial fun y_3 =>
 (.allE
 (.allE
 (.allE
 (.allE
 (.pn 3 13
 (.pn 2 11
 (.pn 1 9
 (.allE
 (.allE
 (.allE
 (.pn 6 18
 (.pn 5 17
 (.pn 4 14
 (.pn 0 6
 (.allE
 (.allE
 (.allE
 (.pn 9 25
 (.pn 8 24
 (.pn 7 20
 (.b00 (y.2 == (0 : Int))
 (.b00 ((y.1.1 == (16 : Int)) && ((y.1.2.1 == (0 : Int)) && ((y.1.2.2 == (16 : Int)) && true)))
 (.b00 (y_1.2 == y.2)
 (.b00 ((y_1.1.1 == (32 : Int)) && ((y_1.1.2.1 == (0 : Int)) && ((y_1.1.2.2 == (32 : Int)) && true)))
 (.b00 (y_2.2 == y.2)
 (.b00 ((y_2.1.1 == (24 : Int)) && ((y_2.1.2 == (40 : Int)) && true))
 (.b00 (y_3.2 == (5 : Int))
 (.ret true)
 (.ret false))
 (.ret false))
 (.ret false))
 (.ret false))
 (.ret false))
 (.ret false))
 (.ret false))))))))))))))))))))))))))
noncomputable abbrev l20lifted_S : FnS := ⟨.none, (.one Ty.bool), l20lifted_pre, l20lifted⟩
theorem l20lifted_ok : SpecOk Try.prog 6 (fnSpec l20lifted_S) := SpecOk.tr l20lifted_S l20lifted_t (fn := Try.f6) tt_ok sp_lpoint_ok mixed (by kernel_rfl) l20lifted_i.ok (fun x => LpsOk.nil) (fun x => (by kernel_rfl)) fun x Q => (by kernel_rfl)
def sp_l20lifted : List (Nat × Ev.Spec) := (6, fnSpec l20lifted_S) :: sp_lpoint
theorem sp_l20lifted_ok : SpecsOk Try.prog sp_l20lifted := SpecsOk.add (fn := Try.f6) (by kernel_rfl) l20lifted_ok sp_lpoint_ok
noncomputable def l20box (x : (Int × (Int × (I6 × I9)))) : Bool :=
 (letV (lpoint x) fun y =>
 (if ((y.2 != (0 : Int)) = true) then
 (letV (l20lifted false) fun y_1 =>
 (if (y_1 = true) then
 ((y.1.1 == (0 : Int)) && ((y.1.2.1 == (0 : Int)) && ((y.1.2.2 == (0 : Int)) && true))) else
 false)) else
 (letV (lcentre (x.1, x.2.1)) fun y_1 =>
 (letV (mIn (y_1.1, x.2.2.1)) fun y_2 =>
 (letV (lpoint (x.1, (x.2.1, (x.2.2.1, (x.2.2.2.2.1, (x.2.2.2.2.1, x.2.2.2.2.1)))))) fun y_3 =>
 (if ((y_1.2 != (0 : Int)) = true) then
 false else
 (if ((y_2.2 != (0 : Int)) = true) then
 false else
 (if ((y_3.2 != (0 : Int)) = true) then
 false else
 (if ((!((y_3.1.1 == x.2.2.2.2.1.1) && ((y_3.1.2.1 == x.2.2.2.2.1.2.1) && ((y_3.1.2.2 == x.2.2.2.2.1.2.2) && true)))) = true) then
 false else
 (if ((y_2.1 == (0 : Int)) = true) then
 (letV (l20lifted false) fun y_4 =>
 y_4) else
 (letV (l20lifted false) fun y_4 =>
 (if (y_4 = true) then
 (if (y.1.1 ≥ (minI (minI x.2.2.2.1.1 x.2.2.2.2.1.1) x.2.2.2.2.2.1)) then
 (if (y.1.1 ≤ (maxI (maxI x.2.2.2.1.1 x.2.2.2.2.1.1) x.2.2.2.2.2.1)) then
 (if (y.1.2.1 ≥ (minI (minI x.2.2.2.1.2.1 x.2.2.2.2.1.2.1) x.2.2.2.2.2.2.1)) then
 (if (y.1.2.1 ≤ (maxI (maxI x.2.2.2.1.2.1 x.2.2.2.2.1.2.1) x.2.2.2.2.2.2.1)) then
 (if (y.1.2.2 ≥ (minI (minI x.2.2.2.1.2.2 x.2.2.2.2.1.2.2) x.2.2.2.2.2.2.2)) then
 (decide (y.1.2.2 ≤ (maxI (maxI x.2.2.2.1.2.2 x.2.2.2.2.1.2.2) x.2.2.2.2.2.2.2))) else
 false) else
 false) else
 false) else
 false) else
 false) else
 false))))))))))))
noncomputable def l20box_pre (x : (Int × (Int × (I6 × I9)))) : Prop :=
 ((lpoint_pre x) ∧
 letP (lpoint x) fun y =>
 ((((y.2 != (0 : Int)) = true) →
 (l20lifted_pre false)) ∧
 (¬ ((y.2 != (0 : Int)) = true) →
 (letP (lcentre (x.1, x.2.1)) fun y_1 =>
 ((mIn_pre (y_1.1, x.2.2.1)) ∧
 letP (mIn (y_1.1, x.2.2.1)) fun y_2 =>
 ((lpoint_pre (x.1, (x.2.1, (x.2.2.1, (x.2.2.2.2.1, (x.2.2.2.2.1, x.2.2.2.2.1)))))) ∧
 letP (lpoint (x.1, (x.2.1, (x.2.2.1, (x.2.2.2.2.1, (x.2.2.2.2.1, x.2.2.2.2.1)))))) fun y_3 =>
 (¬ ((y_1.2 != (0 : Int)) = true) →
 (¬ ((y_2.2 != (0 : Int)) = true) →
 (¬ ((y_3.2 != (0 : Int)) = true) →
 (¬ ((!((y_3.1.1 == x.2.2.2.2.1.1) && ((y_3.1.2.1 == x.2.2.2.2.1.2.1) && ((y_3.1.2.2 == x.2.2.2.2.1.2.2) && true)))) = true) →
 ((((y_2.1 == (0 : Int)) = true) →
 (l20lifted_pre false)) ∧
 (¬ ((y_2.1 == (0 : Int)) = true) →
 (l20lifted_pre false)))))))))))))
noncomputable def l20box_t (x : (Int × (Int × (I6 × I9)))) : Tr Bool true :=
 (.fn lpoint_S x fun y =>
 (.b11 (y.2 != (0 : Int))
 (.fn l20lifted_S false fun y_1 =>
 (.b00 y_1
 (.ret ((y.1.1 == (0 : Int)) && ((y.1.2.1 == (0 : Int)) && ((y.1.2.2 == (0 : Int)) && true))))
 (.ret false)))
 (.fn0 lcentre_S (x.1, x.2.1) trivial fun y_1 =>
 (.fn mIn_S (y_1.1, x.2.2.1) fun y_2 =>
 (.fn lpoint_S (x.1, (x.2.1, (x.2.2.1, (x.2.2.2.2.1, (x.2.2.2.2.1, x.2.2.2.2.1))))) fun y_3 =>
 (.b01 (y_1.2 != (0 : Int))
 (.ret false)
 (.b01 (y_2.2 != (0 : Int))
 (.ret false)
 (.b01 (y_3.2 != (0 : Int))
 (.ret false)
 (.b01 (!((y_3.1.1 == x.2.2.2.2.1.1) && ((y_3.1.2.1 == x.2.2.2.2.1.2.1) && ((y_3.1.2.2 == x.2.2.2.2.1.2.2) && true))))
 (.ret false)
 (.b11 (y_2.1 == (0 : Int))
 (.fn l20lifted_S false fun y_4 =>
 (.ret y_4))
 (.fn l20lifted_S false fun y_4 =>
 (.b00 y_4
 (.i00 (y.1.1 ≥ (minI (minI x.2.2.2.1.1 x.2.2.2.2.1.1) x.2.2.2.2.2.1))
 (.i00 (y.1.1 ≤ (maxI (maxI x.2.2.2.1.1 x.2.2.2.2.1.1) x.2.2.2.2.2.1))
 (.i00 (y.1.2.1 ≥ (minI (minI x.2.2.2.1.2.1 x.2.2.2.2.1.2.1) x.2.2.2.2.2.2.1))
 (.i00 (y.1.2.1 ≤ (maxI (maxI x.2.2.2.1.2.1 x.2.2.2.2.1.2.1) x.2.2.2.2.2.2.1))
 (.i00 (y.1.2.2 ≥ (minI (minI x.2.2.2.1.2.2 x.2.2.2.2.1.2.2) x.2.2.2.2.2.2.2))
 (.ret (decide (y.1.2.2 ≤ (maxI (maxI x.2.2.2.1.2.2 x.2.2.2.2.1.2.2) x.2.2.2.2.2.2.2))))
 (.ret false))
 (.ret false))
 (.ret false))
 (.ret false))
 (.ret false))
 (.ret false)))))))))))))
noncomputable abbrev l20box_S : FnS := ⟨(.pair (.one yi) (.pair (.one yi) (.pair (.agg yy6) (.agg yy9)))), (.one Ty.bool), l20box_pre, l20box⟩
theorem l20box_ok : SpecOk Try.prog 3 (fnSpec l20box_S) := SpecOk.tr l20box_S l20box_t (fn := Try.f3) tt_ok sp_l20lifted_ok mixed (by kernel_rfl) (ItsOk.nil _ _) (fun x => LpsOk.nil) (fun x => (by kernel_rfl)) fun x Q => (by kernel_rfl)
def sp_l20box : List (Nat × Ev.Spec) := (3, fnSpec l20box_S) :: sp_l20lifted
theorem sp_l20box_ok : SpecsOk Try.prog sp_l20box := SpecsOk.add (fn := Try.f3) (by kernel_rfl) l20box_ok sp_l20lifted_ok
noncomputable def l20turned (x : (Int × (Int × (I6 × I9)))) : Bool :=
 (letV (lpoint x) fun y =>
 (letV (lpoint (x.1, (x.2.1, ((x.2.2.1.2.1, (x.2.2.1.2.2, x.2.2.1.1)), (x.2.2.2.2.1, (x.2.2.2.2.2, x.2.2.2.1)))))) fun y_1 =>
 (letV (lpoint (x.1, (x.2.1, ((x.2.2.1.2.1, (x.2.2.1.1, x.2.2.1.2.2)), (x.2.2.2.2.1, (x.2.2.2.1, x.2.2.2.2.2)))))) fun y_2 =>
 (if ((y.2 != y_1.2) = true) then
 false else
 (if ((y.2 != y_2.2) = true) then
 false else
 (letV (lcentre (x.1, x.2.1)) fun y_3 =>
 (letV (mIn (y_3.1, x.2.2.1)) fun y_4 =>
 (letV (l20lifted false) fun y_5 =>
 (if (y_5 = true) then
 (if ((y.2 != (0 : Int)) = true) then
 true else
 (if ((y_4.2 != (0 : Int)) = true) then
 true else
 (if ((y_4.1 == (0 : Int)) = true) then
 true else
 (if (((y.1.1 == y_1.1.1) && ((y.1.2.1 == y_1.1.2.1) && ((y.1.2.2 == y_1.1.2.2) && true))) = true) then
 ((y.1.1 == y_2.1.1) && ((y.1.2.1 == y_2.1.2.1) && ((y.1.2.2 == y_2.1.2.2) && true))) else
 false)))) else
 false)))))))))
noncomputable def l20turned_pre (x : (Int × (Int × (I6 × I9)))) : Prop :=
 ((lpoint_pre x) ∧
 letP (lpoint x) fun y =>
 ((lpoint_pre (x.1, (x.2.1, ((x.2.2.1.2.1, (x.2.2.1.2.2, x.2.2.1.1)), (x.2.2.2.2.1, (x.2.2.2.2.2, x.2.2.2.1)))))) ∧
 letP (lpoint (x.1, (x.2.1, ((x.2.2.1.2.1, (x.2.2.1.2.2, x.2.2.1.1)), (x.2.2.2.2.1, (x.2.2.2.2.2, x.2.2.2.1)))))) fun y_1 =>
 ((lpoint_pre (x.1, (x.2.1, ((x.2.2.1.2.1, (x.2.2.1.1, x.2.2.1.2.2)), (x.2.2.2.2.1, (x.2.2.2.1, x.2.2.2.2.2)))))) ∧
 letP (lpoint (x.1, (x.2.1, ((x.2.2.1.2.1, (x.2.2.1.1, x.2.2.1.2.2)), (x.2.2.2.2.1, (x.2.2.2.1, x.2.2.2.2.2)))))) fun y_2 =>
 (¬ ((y.2 != y_1.2) = true) →
 (¬ ((y.2 != y_2.2) = true) →
 (letP (lcentre (x.1, x.2.1)) fun y_3 =>
 ((mIn_pre (y_3.1, x.2.2.1)) ∧
 letP (mIn (y_3.1, x.2.2.1)) fun y_4 =>
 (l20lifted_pre false))))))))
noncomputable def l20turned_t (x : (Int × (Int × (I6 × I9)))) : Tr Bool true :=
 (.fn lpoint_S x fun y =>
 (.fn lpoint_S (x.1, (x.2.1, ((x.2.2.1.2.1, (x.2.2.1.2.2, x.2.2.1.1)), (x.2.2.2.2.1, (x.2.2.2.2.2, x.2.2.2.1))))) fun y_1 =>
 (.fn lpoint_S (x.1, (x.2.1, ((x.2.2.1.2.1, (x.2.2.1.1, x.2.2.1.2.2)), (x.2.2.2.2.1, (x.2.2.2.1, x.2.2.2.2.2))))) fun y_2 =>
 (.b01 (y.2 != y_1.2)
 (.ret false)
 (.b01 (y.2 != y_2.2)
 (.ret false)
 (.fn0 lcentre_S (x.1, x.2.1) trivial fun y_3 =>
 (.fn mIn_S (y_3.1, x.2.2.1) fun y_4 =>
 (.fn l20lifted_S false fun y_5 =>
 (.b00 y_5
 (.b00 (y.2 != (0 : Int))
 (.ret true)
 (.b00 (y_4.2 != (0 : Int))
 (.ret true)
 (.b00 (y_4.1 == (0 : Int))
 (.ret true)
 (.b00 ((y.1.1 == y_1.1.1) && ((y.1.2.1 == y_1.1.2.1) && ((y.1.2.2 == y_1.1.2.2) && true)))
 (.ret ((y.1.1 == y_2.1.1) && ((y.1.2.1 == y_2.1.2.1) && ((y.1.2.2 == y_2.1.2.2) && true))))
 (.ret false)))))
 (.ret false))))))))))
noncomputable abbrev l20turned_S : FnS := ⟨(.pair (.one yi) (.pair (.one yi) (.pair (.agg yy6) (.agg yy9)))), (.one Ty.bool), l20turned_pre, l20turned⟩
theorem l20turned_ok : SpecOk Try.prog 4 (fnSpec l20turned_S) := SpecOk.tr l20turned_S l20turned_t (fn := Try.f4) tt_ok sp_l20box_ok mixed (by kernel_rfl) (ItsOk.nil _ _) (fun x => LpsOk.nil) (fun x => (by kernel_rfl)) fun x Q => (by kernel_rfl)
def sp_l20turned : List (Nat × Ev.Spec) := (4, fnSpec l20turned_S) :: sp_l20box
theorem sp_l20turned_ok : SpecsOk Try.prog sp_l20turned := SpecsOk.add (fn := Try.f4) (by kernel_rfl) l20turned_ok sp_l20box_ok
end Go.Proofs.Ytfgdjlhilladhaa
