/- Whatever the input, EdgeDoes returns true, and each argument reads behind the call as it read before: no further condition. -/
import Derived.Test.YtleemdeodmdnkaaRows
import Derived.Test.YtleemdeodmdnkaaRg
import Derived.Test.YtleemdeodmdnkaaMf
import Derived.ProofKit
noncomputable section
set_option linter.unusedSectionVars false
set_option linter.unusedVariables false
set_option linter.unusedSimpArgs false
namespace Go.Proofs.Ytleemdeodmdnkaa
open Go Go.Ev Go.Proofs Go.ChangeShapes Go.WideShapes Go.ChangeAt Go.RowKit
theorem own : ownKnob Try.prog.godebug = none := by kernel_rfl
theorem laidOut : laidOutB Try.prog = true := by kernel_rfl
set_option maxRecDepth 100000 in
theorem edgeDoes_lifted (os : Os) (started : os.Started) (H : Type) (enc : TypeId × Value → H) :
  ReturnsInHanded {} Try.checked os 3 .any (Rows.edgeDoesSpec.pre6 enc Try.prog Try.f3 Rows.edgeDoesRow.domain false) (Rows.edgeDoesSpec.post enc Try.prog Try.f3 false true false false) := by
 refine returnsInHanded_of_change (C := Try.checked) own started (by kernel_rfl) Try.func3
  (ChangeSpec.witness6 (enc := enc) (C := Try.checked) false ⟨#[],#[.agg #[.slice none 0 0,.slice none 0 0,.slice none 0 0,.slice none 0 0],.int .i64 0,.slice none 0 0,.int .i64 0,.int .i64 0],[]⟩ 8 (by kernel_rfl) (by kernel_rfl) (by kernel_rfl) (by kernel_rfl)) ?_
 intro W base args ds gs before hval hW _ _
 exact law_contractS (S := edgeDoes_S) tt_ok edgeDoes_ok (fun x => (does_law x).1) (fun x nm ρ => congrArg (fun z : Bool => AV.conc ρ (vb z)) (does_law x).2) (tc := [0,1,2,3,4]) (by kernel_rfl) (fun x => by kernel_rfl) laidOut (by kernel_rfl) rfl
  (fun H ds h => by
   match ds,h with
   | [d0,d1,d2,d3,d4],_ => rfl) (by kernel_rfl) (tb := 4) (by kernel_rfl) W base args ds gs before hval hW
theorem edgeDoes_holds : Rows.EdgeDoesSaid :=
 OpenClaim.holds_of_wide 3 Try.f3 rfl rfl rfl rfl rfl rfl rfl ⟨rfl,rfl,rfl,rfl,rfl⟩ rfl rfl rfl rfl rfl (by kernel_rfl) Try.func3 (by kernel_rfl)
  (of_decide_eq_true (by kernel_rfl)) (by unfold Func.isWrapper; first | (rw [if_pos (by decide +kernel)]; kernel_rfl) | (rw [if_neg (by decide +kernel)]; exact ⟨rfl,rfl⟩))
  (fun os started H enc _ => edgeDoes_lifted os started H enc)
#print axioms edgeDoes_holds
end Go.Proofs.Ytleemdeodmdnkaa
