/- Runs of Cell at a pattern of so many names. -/
import Derived.Test.YthfjjcfceilahaaGreatDoorPn2
set_option linter.unusedSectionVars false
set_option linter.unusedVariables false
set_option linter.unusedSimpArgs false
namespace Go.Proofs.YthfjjcfceilahaaGreatDoor
open Go Go.Am Go.Ri
set_option maxRecDepth 1000000
theorem qT14 (t u : Nat → TypeId) : chkTw (runN true 14 t u) = true := by kernel_rfl
theorem qF14 (t u : Nat → TypeId) : chkK 14 (runN false 14 t u) = true := by kernel_rfl
theorem qT15 (t u : Nat → TypeId) : chkTw (runN true 15 t u) = true := by kernel_rfl
theorem qF15 (t u : Nat → TypeId) : chkK 15 (runN false 15 t u) = true := by kernel_rfl
theorem qT16 (t u : Nat → TypeId) : chkTw (runN true 16 t u) = true := by kernel_rfl
theorem qF16 (t u : Nat → TypeId) : chkK 16 (runN false 16 t u) = true := by kernel_rfl
theorem qT17 (t u : Nat → TypeId) : chkTw (runN true 17 t u) = true := by kernel_rfl
theorem qF17 (t u : Nat → TypeId) : chkK 17 (runN false 17 t u) = true := by kernel_rfl
end Go.Proofs.YthfjjcfceilahaaGreatDoor
