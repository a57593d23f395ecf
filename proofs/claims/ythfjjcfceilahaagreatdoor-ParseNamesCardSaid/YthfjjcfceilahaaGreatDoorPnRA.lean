/- Runs of Cell at a pattern of so many names. -/
import Derived.Test.YthfjjcfceilahaaGreatDoorPn2
set_option linter.unusedSectionVars false
set_option linter.unusedVariables false
set_option linter.unusedSimpArgs false
namespace Go.Proofs.YthfjjcfceilahaaGreatDoor
open Go Go.Am Go.Ri
set_option maxRecDepth 1000000
theorem qT2 (t u : Nat → TypeId) : chkTw (runN true 2 t u) = true := by kernel_rfl
theorem qF2 (t u : Nat → TypeId) : chkK 2 (runN false 2 t u) = true := by kernel_rfl
theorem qT3 (t u : Nat → TypeId) : chkTw (runN true 3 t u) = true := by kernel_rfl
theorem qF3 (t u : Nat → TypeId) : chkK 3 (runN false 3 t u) = true := by kernel_rfl
theorem qT4 (t u : Nat → TypeId) : chkTw (runN true 4 t u) = true := by kernel_rfl
theorem qF4 (t u : Nat → TypeId) : chkK 4 (runN false 4 t u) = true := by kernel_rfl
theorem qT5 (t u : Nat → TypeId) : chkTw (runN true 5 t u) = true := by kernel_rfl
theorem qF5 (t u : Nat → TypeId) : chkK 5 (runN false 5 t u) = true := by kernel_rfl
theorem qT6 (t u : Nat → TypeId) : chkTw (runN true 6 t u) = true := by kernel_rfl
theorem qF6 (t u : Nat → TypeId) : chkK 6 (runN false 6 t u) = true := by kernel_rfl
theorem qT7 (t u : Nat → TypeId) : chkTw (runN true 7 t u) = true := by kernel_rfl
theorem qF7 (t u : Nat → TypeId) : chkK 7 (runN false 7 t u) = true := by kernel_rfl
theorem qT8 (t u : Nat → TypeId) : chkTw (runN true 8 t u) = true := by kernel_rfl
theorem qF8 (t u : Nat → TypeId) : chkK 8 (runN false 8 t u) = true := by kernel_rfl
theorem qT9 (t u : Nat → TypeId) : chkTw (runN true 9 t u) = true := by kernel_rfl
theorem qF9 (t u : Nat → TypeId) : chkK 9 (runN false 9 t u) = true := by kernel_rfl
end Go.Proofs.YthfjjcfceilahaaGreatDoor
