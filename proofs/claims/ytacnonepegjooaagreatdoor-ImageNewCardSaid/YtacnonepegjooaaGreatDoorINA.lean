/- ImageNew: runs. -/
import Derived.Test.YtacnonepegjooaaGreatDoorIN1
set_option linter.unusedSectionVars false
set_option linter.unusedVariables false
set_option linter.unusedSimpArgs false
namespace Go.Proofs.YtacnonepegjooaaGreatDoor
open Go Go.Am Go.Ri
set_option maxRecDepth 1000000
theorem n1 (u : Nat → TypeId) : runI {} [] 0 (.int .i64 1) u = true := by kernel_rfl
theorem n2 (u : Nat → TypeId) : runI {} [] 0 (.int .i64 2) u = true := by kernel_rfl
theorem n3 (u : Nat → TypeId) : runI {} [] 0 (.int .i64 3) u = true := by kernel_rfl
theorem n4 (u : Nat → TypeId) : runI {} [] 0 (.int .i64 4) u = true := by kernel_rfl
theorem n5 (u : Nat → TypeId) : runI {} [] 0 (.int .i64 5) u = true := by kernel_rfl
theorem n6 (u : Nat → TypeId) : runI {} [] 0 (.int .i64 6) u = true := by kernel_rfl
theorem n7 (u : Nat → TypeId) : runI {} [] 0 (.int .i64 7) u = true := by kernel_rfl
theorem n8 (u : Nat → TypeId) : runI {} [] 0 (.int .i64 8) u = true := by kernel_rfl
theorem n9 (u : Nat → TypeId) : runI {} [] 0 (.int .i64 9) u = true := by kernel_rfl
theorem n10 (u : Nat → TypeId) : runI {} [] 0 (.int .i64 10) u = true := by kernel_rfl
theorem n11 (u : Nat → TypeId) : runI {} [] 0 (.int .i64 11) u = true := by kernel_rfl
theorem n12 (u : Nat → TypeId) : runI {} [] 0 (.int .i64 12) u = true := by kernel_rfl
theorem n13 (u : Nat → TypeId) : runI {} [] 0 (.int .i64 13) u = true := by kernel_rfl
theorem n14 (u : Nat → TypeId) : runI {} [] 0 (.int .i64 14) u = true := by kernel_rfl
theorem n15 (u : Nat → TypeId) : runI {} [] 0 (.int .i64 15) u = true := by kernel_rfl
theorem nLow (u : Nat → TypeId) : runI FQlow [] 0 (.map (some 0)) u = true := by kernel_rfl
theorem nHigh (u : Nat → TypeId) : runI FQhigh [] 0 (.map (some 0)) u = true := by kernel_rfl
end Go.Proofs.YtacnonepegjooaaGreatDoor
