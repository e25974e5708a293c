/- Whatever the input, FlatInside returns true, and each argument reads behind the call as it read before: no further condition. -/
import Derived.Test.YtpbbnoggkbfkoaaRows
import Derived.Test.YtpbbnoggkbfkoaaRg
import Derived.Test.YtpbbnoggkbfkoaaQh
import Derived.ProofKit
namespace Go.Proofs.Ytpbbnoggkbfkoaa
open Go Go.Ev Go.Proofs Go.ChangeShapes Go.WideShapes Go.ChangeAt Go.RowKit
theorem own : ownKnob Try.prog.godebug = none := by kernel_rfl
theorem laidOut : laidOutB Try.prog = true := by kernel_rfl
set_option maxRecDepth 100000 in
theorem flatInside_lifted (os : Os) (started : os.Started) (H : Type) (enc : TypeId × Value → H) :
    ReturnsInHanded {} Try.checked os 4 .any (Rows.flatInsideSpec.pre6 enc Try.prog Try.f4 Rows.flatInsideRow.domain false) (Rows.flatInsideSpec.post enc Try.prog Try.f4 false true false false) := by
  refine returnsInHanded_of_change (C := Try.checked) own started (by kernel_rfl) Try.func4
    (ChangeSpec.witness6 (enc := enc) (C := Try.checked) false ⟨#[], #[.agg #[.slice none 0 0, .slice none 0 0, .int .i64 0, .int .i64 0]], []⟩ 8 (by kernel_rfl) (by kernel_rfl) (by kernel_rfl) (by kernel_rfl)) ?_
  intro W base args ds gs before hval hW _ _
  exact law_contractS (S := l16inside_S) tt_ok l16inside_ok (fun x => (inside_law x).1) (fun x nm ρ => congrArg (fun z : Bool => AV.conc ρ (vb z)) (inside_law x).2) (tc := [0, 1]) (by kernel_rfl) (fun x => by kernel_rfl) laidOut (by kernel_rfl) rfl
    (fun H ds h => by
      match ds, h with
      | [d0], _ => rfl) (by kernel_rfl) (tb := 4) (by kernel_rfl) W base args ds gs before hval hW
theorem flatInside_holds : Rows.FlatInsideSaid :=
  OpenClaim.holds_of_wide 4 Try.f4 rfl rfl rfl rfl rfl rfl rfl ⟨rfl, rfl, rfl, rfl, rfl⟩ rfl rfl rfl rfl rfl (by kernel_rfl) Try.func4 (by kernel_rfl)
    (of_decide_eq_true (by kernel_rfl)) (by unfold Func.isWrapper; first | (rw [if_pos (by decide +kernel)]; kernel_rfl) | (rw [if_neg (by decide +kernel)]; exact ⟨rfl, rfl⟩))
    (fun os started H enc _ => flatInside_lifted os started H enc)
#print axioms flatInside_holds
end Go.Proofs.Ytpbbnoggkbfkoaa
