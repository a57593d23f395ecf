/- ParseDeep: runs 2, 10, 18, 26, 34. -/
import Derived.Test.YthfjjcfceilahaaGreatDoorPM1
namespace Go.Proofs.YthfjjcfceilahaaGreatDoor
open Go Go.Am Go.Ri
set_option linter.unusedVariables false
set_option linter.unusedSimpArgs false
set_option maxRecDepth 1000000
theorem pd2 (t u : Nat → TypeId) : retB (@callRo (ftOf (FD 2)) Tryz.prog X0 RB0 chkP 10 tab 14 400 5 [.map (some 0)] (PM t u)) = true := by kernel_rfl
theorem pd10 (t u : Nat → TypeId) : retB (@callRo (ftOf (FD 10)) Tryz.prog X0 RB0 chkP 10 tab 14 400 5 [.map (some 0)] (PM t u)) = true := by kernel_rfl
theorem pd18 (t u : Nat → TypeId) : retB (@callRo (ftOf (FD 18)) Tryz.prog X0 RB0 chkP 10 tab 14 400 5 [.map (some 0)] (PM t u)) = true := by kernel_rfl
theorem pd26 (t u : Nat → TypeId) : retB (@callRo (ftOf (FD 26)) Tryz.prog X0 RB0 chkP 10 tab 14 400 5 [.map (some 0)] (PM t u)) = true := by kernel_rfl
theorem pd34 (t u : Nat → TypeId) : retB (@callRo (ftOf (FD 34)) Tryz.prog X0 RB0 chkP 10 tab 14 400 5 [.map (some 0)] (PM t u)) = true := by kernel_rfl
end Go.Proofs.YthfjjcfceilahaaGreatDoor
