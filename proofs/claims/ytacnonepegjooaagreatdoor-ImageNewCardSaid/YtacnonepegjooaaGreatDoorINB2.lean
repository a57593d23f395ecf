/- ImageNew: runs. -/
import Derived.Test.YtacnonepegjooaaGreatDoorIN1
set_option linter.unusedSectionVars false
set_option linter.unusedVariables false
set_option linter.unusedSimpArgs false
namespace Go.Proofs.YtacnonepegjooaaGreatDoor
open Go Go.Am Go.Ri
set_option maxRecDepth 1000000
theorem nQ2 (u : Nat → TypeId) : runI FQ2 LQ2 30 (.map (some 0)) u = true := by kernel_rfl
end Go.Proofs.YtacnonepegjooaaGreatDoor
