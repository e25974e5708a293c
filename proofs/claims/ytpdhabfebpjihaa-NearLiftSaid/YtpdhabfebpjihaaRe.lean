/- Whatever the input, NearLift returns true, and each argument reads behind the call as it read before: no further condition. -/
import Derived.Test.YtpdhabfebpjihaaRows
import Derived.Test.YtpdhabfebpjihaaRa
import Derived.Test.YtpdhabfebpjihaaPh
import Derived.ProofKit
namespace Go.Proofs.Ytpdhabfebpjihaa
open Go Go.Ev Go.Proofs Go.ChangeShapes Go.WideShapes Go.ChangeAt Go.RowKit
theorem own : ownKnob Try.prog.godebug = none := by kernel_rfl
theorem laidOut : laidOutB Try.prog = true := by kernel_rfl
set_option maxRecDepth 100000 in
theorem nearLift_lifted (os : Os) (started : os.Started) (H : Type) (enc : TypeId × Value → H) :
    ReturnsInHanded {} Try.checked os 7 .any (Rows.nearLiftSpec.pre6 enc Try.prog Try.f7 Rows.nearLiftRow.domain false) (Rows.nearLiftSpec.post enc Try.prog Try.f7 false true false false) := by
  refine returnsInHanded_of_change (C := Try.checked) own started (by kernel_rfl) Try.func7
    (ChangeSpec.witness6 (enc := enc) (C := Try.checked) false ⟨#[], #[.agg #[.int .i64 0, .int .i64 0], .agg #[.int .i64 0, .int .i64 0, .int .i64 0, .int .i64 0, .int .i64 0, .int .i64 0], .agg #[.int .i64 0, .int .i64 0, .int .i64 0, .int .i64 0, .int .i64 0, .int .i64 0, .int .i64 0, .int .i64 0, .int .i64 0]], []⟩ 8 (by kernel_rfl) (by kernel_rfl) (by kernel_rfl) (by kernel_rfl)) ?_
  intro W base args ds gs before hval hW _ _
  exact law_contract (S := l11lift_S) tt_ok l11lift_ok llift_tm (fun x ρ => congrArg (fun z : Bool => AV.conc ρ (vb z)) (llift_law x)) (by kernel_rfl) (fun x => rfl) laidOut (by kernel_rfl) rfl
    (fun H ds h => by
      match ds, h with
      | [a, b, c], _ => rfl) (by kernel_rfl) (tb := 4) (by kernel_rfl) W base args ds gs before hval hW
theorem nearLift_holds : Rows.NearLiftSaid :=
  OpenClaim.holds_of_wide 7 Try.f7 rfl rfl rfl rfl rfl rfl rfl ⟨rfl, rfl, rfl, rfl, rfl⟩ rfl rfl rfl rfl rfl (by kernel_rfl) Try.func7 (by kernel_rfl)
    (of_decide_eq_true (by kernel_rfl)) (by unfold Func.isWrapper; first | (rw [if_pos (by decide +kernel)]; kernel_rfl) | (rw [if_neg (by decide +kernel)]; exact ⟨rfl, rfl⟩))
    (fun os started H enc _ => nearLift_lifted os started H enc)
#print axioms nearLift_holds
end Go.Proofs.Ytpdhabfebpjihaa
