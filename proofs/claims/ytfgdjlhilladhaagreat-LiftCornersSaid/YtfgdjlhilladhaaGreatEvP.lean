/- Functions that hand back what is only read. -/
import Derived.Test.YtfgdjlhilladhaaGreatEvO
namespace Go.Ev
set_option linter.unusedVariables false
set_option linter.unusedSimpArgs false
open Go.RowKit

/-! ### Beginning -/
/-! ### What is handed back -/
section
variable {P : Program} {tt : List (Nat × TI)} {specs : List (Nat × Spec)}
end
/-- No function: with it in the list a row may be held against nil. -/
def deadIt : ISpec := fun _ _ _ _ => False
theorem deadIt_ok {P : Program} {X : Addr → Value → Prop} {f : FuncId} : ISpecOk P X f deadIt := fun _ _ _ _ h => h.elim
end Go.Ev
