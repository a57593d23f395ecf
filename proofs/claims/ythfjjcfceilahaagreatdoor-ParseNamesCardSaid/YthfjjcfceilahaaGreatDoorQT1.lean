/- awake(), run. -/
import Derived.Test.YthfjjcfceilahaaGreatDoorQM0
set_option linter.unusedSectionVars false
set_option linter.unusedVariables false
set_option linter.unusedSimpArgs false
namespace Go.Proofs.YthfjjcfceilahaaGreatDoor
open Go Go.Am Go.Ri
set_option maxRecDepth 1000000
def O0 : Caller → Caller := fun C => C
theorem aw1 (t u : Nat → TypeId) : retB (@callPl (ftOf {}) Tryz.prog X0 RB0 O0 tab tab2 14 40 10 [] (PM t u)) = true := by kernel_rfl
end Go.Proofs.YthfjjcfceilahaaGreatDoor
