/- ParseDeep: runs 0, 8, 16, 24, 32. -/
import Derived.Test.YthfjjcfceilahaaGreatDoorPM1
namespace Go.Proofs.YthfjjcfceilahaaGreatDoor
open Go Go.Am Go.Ri
set_option linter.unusedVariables false
set_option linter.unusedSimpArgs false
set_option maxRecDepth 1000000
theorem pd0 (t u : Nat → TypeId) : retB (@callRo (ftOf (FD 0)) Tryz.prog X0 RB0 chkP 10 tab 14 400 5 [.map (some 0)] (PM t u)) = true := by kernel_rfl
theorem pd8 (t u : Nat → TypeId) : retB (@callRo (ftOf (FD 8)) Tryz.prog X0 RB0 chkP 10 tab 14 400 5 [.map (some 0)] (PM t u)) = true := by kernel_rfl
theorem pd16 (t u : Nat → TypeId) : retB (@callRo (ftOf (FD 16)) Tryz.prog X0 RB0 chkP 10 tab 14 400 5 [.map (some 0)] (PM t u)) = true := by kernel_rfl
theorem pd24 (t u : Nat → TypeId) : retB (@callRo (ftOf (FD 24)) Tryz.prog X0 RB0 chkP 10 tab 14 400 5 [.map (some 0)] (PM t u)) = true := by kernel_rfl
theorem pd32 (t u : Nat → TypeId) : retB (@callRo (ftOf (FD 32)) Tryz.prog X0 RB0 chkP 10 tab 14 400 5 [.map (some 0)] (PM t u)) = true := by kernel_rfl
end Go.Proofs.YthfjjcfceilahaaGreatDoor
