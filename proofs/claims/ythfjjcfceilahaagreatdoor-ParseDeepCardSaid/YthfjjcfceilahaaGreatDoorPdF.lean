/- ParseDeep: runs 5, 13, 21, 29, 37. -/
import Derived.Test.YthfjjcfceilahaaGreatDoorPM1
namespace Go.Proofs.YthfjjcfceilahaaGreatDoor
open Go Go.Am Go.Ri
set_option linter.unusedVariables false
set_option linter.unusedSimpArgs false
set_option maxRecDepth 1000000
theorem pd5 (t u : Nat → TypeId) : retB (@callRo (ftOf (FD 5)) Tryz.prog X0 RB0 chkP 10 tab 14 400 5 [.map (some 0)] (PM t u)) = true := by kernel_rfl
theorem pd13 (t u : Nat → TypeId) : retB (@callRo (ftOf (FD 13)) Tryz.prog X0 RB0 chkP 10 tab 14 400 5 [.map (some 0)] (PM t u)) = true := by kernel_rfl
theorem pd21 (t u : Nat → TypeId) : retB (@callRo (ftOf (FD 21)) Tryz.prog X0 RB0 chkP 10 tab 14 400 5 [.map (some 0)] (PM t u)) = true := by kernel_rfl
theorem pd29 (t u : Nat → TypeId) : retB (@callRo (ftOf (FD 29)) Tryz.prog X0 RB0 chkP 10 tab 14 400 5 [.map (some 0)] (PM t u)) = true := by kernel_rfl
theorem pd37 (t u : Nat → TypeId) : retB (@callRo (ftOf (FD 37)) Tryz.prog X0 RB0 chkP 10 tab 14 400 5 [.map (some 0)] (PM t u)) = true := by kernel_rfl
end Go.Proofs.YthfjjcfceilahaaGreatDoor
