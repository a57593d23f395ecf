/- ParseDeep: runs 7, 15, 23, 31, 39. -/
import Derived.Test.YthfjjcfceilahaaGreatDoorPM1
namespace Go.Proofs.YthfjjcfceilahaaGreatDoor
open Go Go.Am Go.Ri
set_option linter.unusedVariables false
set_option linter.unusedSimpArgs false
set_option maxRecDepth 1000000
theorem pd7 (t u : Nat → TypeId) : retB (@callRo (ftOf (FD 7)) Tryz.prog X0 RB0 chkP 10 tab 14 400 5 [.map (some 0)] (PM t u)) = true := by kernel_rfl
theorem pd15 (t u : Nat → TypeId) : retB (@callRo (ftOf (FD 15)) Tryz.prog X0 RB0 chkP 10 tab 14 400 5 [.map (some 0)] (PM t u)) = true := by kernel_rfl
theorem pd23 (t u : Nat → TypeId) : retB (@callRo (ftOf (FD 23)) Tryz.prog X0 RB0 chkP 10 tab 14 400 5 [.map (some 0)] (PM t u)) = true := by kernel_rfl
theorem pd31 (t u : Nat → TypeId) : retB (@callRo (ftOf (FD 31)) Tryz.prog X0 RB0 chkP 10 tab 14 400 5 [.map (some 0)] (PM t u)) = true := by kernel_rfl
theorem pd39 (t u : Nat → TypeId) : retB (@callRo (ftOf (FD 39)) Tryz.prog X0 RB0 chkP 10 tab 14 400 5 [.map (some 0)] (PM t u)) = true := by kernel_rfl
end Go.Proofs.YthfjjcfceilahaaGreatDoor
