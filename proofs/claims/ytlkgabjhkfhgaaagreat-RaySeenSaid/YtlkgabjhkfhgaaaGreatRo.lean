/- What rows take of the program. -/
import Derived.Test.YtlkgabjhkfhgaaaGreatRows
import Derived.Test.YtlkgabjhkfhgaaaGreatChecked
import Derived.Test.YtlkgabjhkfhgaaaGreatRg
import Derived.ProofKit
noncomputable section
set_option linter.unusedSectionVars false
set_option linter.unusedVariables false
set_option linter.unusedSimpArgs false
namespace Go.Proofs.YtlkgabjhkfhgaaaGreat
open Go Go.Ev Go.Proofs Go.ChangeShapes Go.WideShapes Go.ChangeAt Go.RowKit
theorem own:ownKnob Tryz.prog.godebug=none:=by kernel_rfl
theorem laidOut:laidOutB Tryz.prog=true:=by kernel_rfl
end Go.Proofs.YtlkgabjhkfhgaaaGreat
