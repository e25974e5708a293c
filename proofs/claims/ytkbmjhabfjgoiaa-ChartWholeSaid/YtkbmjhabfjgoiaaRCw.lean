/- Whatever the input, ChartWhole returns true, and each argument reads behind the call as it read before: no further condition. -/
import Derived.Test.YtkbmjhabfjgoiaaRows
import Derived.Test.YtkbmjhabfjgoiaaRg
import Derived.Test.YtkbmjhabfjgoiaaPm
import Derived.ProofKit
noncomputable section
set_option linter.unusedSectionVars false
set_option linter.unusedVariables false
set_option linter.unusedSimpArgs false
namespace Go.Proofs.Ytkbmjhabfjgoiaa
open Go Go.Ev Go.Proofs Go.ChangeShapes Go.WideShapes Go.ChangeAt Go.RowKit
theorem own : ownKnob Try.prog.godebug = none := by kernel_rfl
theorem laidOut : laidOutB Try.prog = true := by kernel_rfl
set_option maxRecDepth 100000 in
theorem chartWhole_lifted (os : Os) (started : os.Started) (H : Type) (enc : TypeId × Value → H) :
  ReturnsInHanded {} Try.checked os 3 .any (Rows.chartWholeSpec.pre6 enc Try.prog Try.f3 Rows.chartWholeRow.domain false) (Rows.chartWholeSpec.post enc Try.prog Try.f3 false true false false) := by
 refine returnsInHanded_of_change (C := Try.checked) own started (by kernel_rfl) Try.func3
  (ChangeSpec.witness6 (enc := enc) (C := Try.checked) false ⟨#[],#[.agg #[.slice none 0 0,.slice none 0 0,.slice none 0 0,.slice none 0 0]],[]⟩ 8 (by kernel_rfl) (by kernel_rfl) (by kernel_rfl) (by kernel_rfl)) ?_
 intro W base args ds gs before hval hW _ _
 exact law_contractS (S := chartWhole_S) tt_ok chartWhole_ok (fun x => (whole_law x).1) (fun x nm ρ => congrArg (fun z : Bool => AV.conc ρ (vb z)) (whole_law x).2) (tc := [0,1,2,3]) (by kernel_rfl) (fun x => by kernel_rfl) laidOut (by kernel_rfl) rfl
  (fun H ds h => by
   match ds,h with
   | [d0],_ => rfl) (by kernel_rfl) (tb := 4) (by kernel_rfl) W base args ds gs before hval hW
theorem chartWhole_holds : Rows.ChartWholeSaid :=
 OpenClaim.holds_of_wide 3 Try.f3 rfl rfl rfl rfl rfl rfl rfl ⟨rfl,rfl,rfl,rfl,rfl⟩ rfl rfl rfl rfl rfl (by kernel_rfl) Try.func3 (by kernel_rfl)
  (of_decide_eq_true (by kernel_rfl)) (by unfold Func.isWrapper; first | (rw [if_pos (by decide +kernel)]; kernel_rfl) | (rw [if_neg (by decide +kernel)]; exact ⟨rfl,rfl⟩))
  (fun os started H enc _ => chartWhole_lifted os started H enc)
#print axioms chartWhole_holds
end Go.Proofs.Ytkbmjhabfjgoiaa
