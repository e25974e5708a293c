/- Whatever the input, LiftBox returns true, and each argument reads behind the call as it read before: no further condition. -/
import Derived.Test.YtfgdjlhilladhaaRows
import Derived.Test.YtfgdjlhilladhaaRa
import Derived.Test.YtfgdjlhilladhaaLb
import Derived.ProofKit
namespace Go.Proofs.Ytfgdjlhilladhaa
open Go Go.Ev Go.Proofs Go.ChangeShapes Go.WideShapes Go.ChangeAt Go.RowKit
theorem own : ownKnob Try.prog.godebug = none := by kernel_rfl
theorem laidOut : laidOutB Try.prog = true := by kernel_rfl
set_option maxRecDepth 100000 in
theorem liftBox_lifted (os : Os) (started : os.Started) (H : Type) (enc : TypeId × Value → H) :
    ReturnsInHanded {} Try.checked os 3 .any (Rows.liftBoxSpec.pre6 enc Try.prog Try.f3 Rows.liftBoxRow.domain false) (Rows.liftBoxSpec.post enc Try.prog Try.f3 false true false false) := by
  refine returnsInHanded_of_change (C := Try.checked) own started (by kernel_rfl) Try.func3
    (ChangeSpec.witness6 (enc := enc) (C := Try.checked) false ⟨#[], #[.int .i64 0, .int .i64 0, .agg #[.int .i64 0, .int .i64 0, .int .i64 0, .int .i64 0, .int .i64 0, .int .i64 0], .agg #[.int .i64 0, .int .i64 0, .int .i64 0, .int .i64 0, .int .i64 0, .int .i64 0, .int .i64 0, .int .i64 0, .int .i64 0]], []⟩ 8 (by kernel_rfl) (by kernel_rfl) (by kernel_rfl) (by kernel_rfl)) ?_
  intro W base args ds gs before hval hW _ _
  exact law_contract (S := l20box_S) tt_ok l20box_ok box_tm (fun x ρ => congrArg (fun z : Bool => AV.conc ρ (vb z)) (box_law x)) (by kernel_rfl) (fun x => rfl) laidOut (by kernel_rfl) rfl
    (fun H ds h => by
      match ds, h with
      | [a, b, c, d], _ => rfl) (by kernel_rfl) (tb := 4) (by kernel_rfl) W base args ds gs before hval hW
theorem liftBox_holds : Rows.LiftBoxSaid :=
  OpenClaim.holds_of_wide 3 Try.f3 rfl rfl rfl rfl rfl rfl rfl ⟨rfl, rfl, rfl, rfl, rfl⟩ rfl rfl rfl rfl rfl (by kernel_rfl) Try.func3 (by kernel_rfl)
    (of_decide_eq_true (by kernel_rfl)) (by unfold Func.isWrapper; first | (rw [if_pos (by decide +kernel)]; kernel_rfl) | (rw [if_neg (by decide +kernel)]; exact ⟨rfl, rfl⟩))
    (fun os started H enc _ => liftBox_lifted os started H enc)
#print axioms liftBox_holds
end Go.Proofs.Ytfgdjlhilladhaa
