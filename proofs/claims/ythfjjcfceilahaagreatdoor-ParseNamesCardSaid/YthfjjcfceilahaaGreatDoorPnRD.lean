/- Runs of Cell at a pattern of so many names. -/
import Derived.Test.YthfjjcfceilahaaGreatDoorPn2
set_option linter.unusedSectionVars false
set_option linter.unusedVariables false
set_option linter.unusedSimpArgs false
namespace Go.Proofs.YthfjjcfceilahaaGreatDoor
open Go Go.Am Go.Ri
set_option maxRecDepth 1000000
theorem qT18 (t u : Nat → TypeId) : chkTw (runN true 18 t u) = true := by kernel_rfl
theorem qF18 (t u : Nat → TypeId) : chkK 18 (runN false 18 t u) = true := by kernel_rfl
theorem qT19 (t u : Nat → TypeId) : chkTw (runN true 19 t u) = true := by kernel_rfl
theorem qF19 (t u : Nat → TypeId) : chkK 19 (runN false 19 t u) = true := by kernel_rfl
theorem qT20 (t u : Nat → TypeId) : chkTw (runN true 20 t u) = true := by kernel_rfl
theorem qF20 (t u : Nat → TypeId) : chkK 20 (runN false 20 t u) = true := by kernel_rfl
end Go.Proofs.YthfjjcfceilahaaGreatDoor
