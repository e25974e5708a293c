/- RayNil holds. -/
import Derived.Test.YtlkgabjhkfhgaaaGreatSn
import Derived.Test.YtlkgabjhkfhgaaaGreatYn
noncomputable section
set_option linter.unusedSectionVars false
set_option linter.unusedVariables false
set_option linter.unusedSimpArgs false
namespace Go.Proofs.YtlkgabjhkfhgaaaGreat
open Go Go.Ev Go.Proofs
theorem Bz (x:P3×P3):BA x/\ KS x=true:=by
 obtain ⟨b1,b2⟩:=kX false
 refine ⟨b1,?_⟩
 unfold KS
 rw [Iw,b2,if_pos rfl]
end Go.Proofs.YtlkgabjhkfhgaaaGreat
