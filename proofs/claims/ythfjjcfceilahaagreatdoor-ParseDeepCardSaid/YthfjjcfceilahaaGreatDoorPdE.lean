/- ParseDeep: runs 4, 12, 20, 28, 36. -/
import Derived.Test.YthfjjcfceilahaaGreatDoorPM1
namespace Go.Proofs.YthfjjcfceilahaaGreatDoor
open Go Go.Am Go.Ri
set_option linter.unusedVariables false
set_option linter.unusedSimpArgs false
set_option maxRecDepth 1000000
theorem pd4 (t u : Nat → TypeId) : retB (@callRo (ftOf (FD 4)) Tryz.prog X0 RB0 chkP 10 tab 14 400 5 [.map (some 0)] (PM t u)) = true := by kernel_rfl
theorem pd12 (t u : Nat → TypeId) : retB (@callRo (ftOf (FD 12)) Tryz.prog X0 RB0 chkP 10 tab 14 400 5 [.map (some 0)] (PM t u)) = true := by kernel_rfl
theorem pd20 (t u : Nat → TypeId) : retB (@callRo (ftOf (FD 20)) Tryz.prog X0 RB0 chkP 10 tab 14 400 5 [.map (some 0)] (PM t u)) = true := by kernel_rfl
theorem pd28 (t u : Nat → TypeId) : retB (@callRo (ftOf (FD 28)) Tryz.prog X0 RB0 chkP 10 tab 14 400 5 [.map (some 0)] (PM t u)) = true := by kernel_rfl
theorem pd36 (t u : Nat → TypeId) : retB (@callRo (ftOf (FD 36)) Tryz.prog X0 RB0 chkP 10 tab 14 400 5 [.map (some 0)] (PM t u)) = true := by kernel_rfl
end Go.Proofs.YthfjjcfceilahaaGreatDoor
