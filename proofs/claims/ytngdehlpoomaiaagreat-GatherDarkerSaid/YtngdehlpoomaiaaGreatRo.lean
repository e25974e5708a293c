/- What rows take of the program. -/
import Derived.Test.YtngdehlpoomaiaaGreatRows
import Derived.Test.YtngdehlpoomaiaaGreatChecked
import Derived.Test.YtngdehlpoomaiaaGreatRg
import Derived.ProofKit
noncomputable section
set_option linter.unusedSectionVars false
set_option linter.unusedVariables false
set_option linter.unusedSimpArgs false
namespace Go.Proofs.YtngdehlpoomaiaaGreat
open Go Go.Ev Go.Proofs Go.ChangeShapes Go.WideShapes Go.ChangeAt Go.RowKit
theorem own:ownKnob Tryz.prog.godebug=none:=by kernel_rfl
theorem laidOut:laidOutB Tryz.prog=true:=by kernel_rfl
end Go.Proofs.YtngdehlpoomaiaaGreat
