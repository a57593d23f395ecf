/- awake()'s second part, run. -/
import Derived.Test.YtacnonepegjooaaGreatDoorIM1
set_option linter.unusedSectionVars false
set_option linter.unusedVariables false
set_option linter.unusedSimpArgs false
namespace Go.Proofs.YtacnonepegjooaaGreatDoor
open Go Go.Am Go.Ri
set_option maxRecDepth 1000000
theorem rB (u : Nat → TypeId) : runB u = true := by kernel_rfl
end Go.Proofs.YtacnonepegjooaaGreatDoor
