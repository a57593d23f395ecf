/- Runs of Cell at a pattern of so many names. -/
import Derived.Test.YthfjjcfceilahaaGreatDoorPn2
set_option linter.unusedSectionVars false
set_option linter.unusedVariables false
set_option linter.unusedSimpArgs false
namespace Go.Proofs.YthfjjcfceilahaaGreatDoor
open Go Go.Am Go.Ri
set_option maxRecDepth 1000000
theorem qT10 (t u : Nat → TypeId) : chkTw (runN true 10 t u) = true := by kernel_rfl
theorem qF10 (t u : Nat → TypeId) : chkK 10 (runN false 10 t u) = true := by kernel_rfl
theorem qT11 (t u : Nat → TypeId) : chkTw (runN true 11 t u) = true := by kernel_rfl
theorem qF11 (t u : Nat → TypeId) : chkK 11 (runN false 11 t u) = true := by kernel_rfl
theorem qT12 (t u : Nat → TypeId) : chkTw (runN true 12 t u) = true := by kernel_rfl
theorem qF12 (t u : Nat → TypeId) : chkK 12 (runN false 12 t u) = true := by kernel_rfl
theorem qT13 (t u : Nat → TypeId) : chkTw (runN true 13 t u) = true := by kernel_rfl
theorem qF13 (t u : Nat → TypeId) : chkK 13 (runN false 13 t u) = true := by kernel_rfl
end Go.Proofs.YthfjjcfceilahaaGreatDoor
