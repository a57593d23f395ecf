/- ParseLists: runs 1.0, 3.2, 6.1, 8.1, 6.6. -/
import Derived.Test.YthfjjcfceilahaaGreatDoorPM2
namespace Go.Proofs.YthfjjcfceilahaaGreatDoor
open Go Go.Am Go.Ri
set_option linter.unusedVariables false
set_option linter.unusedSimpArgs false
set_option maxRecDepth 1000000
theorem pl1_0 (t u : Nat → TypeId) : retB (@callRo (ftOf (FL 1 0)) Tryz.prog X0 RB0 chkP 10 tab 14 400 8 [.map (some 0), .map (some 1)] (PM t u)) = true := by kernel_rfl
theorem pl3_2 (t u : Nat → TypeId) : retB (@callRo (ftOf (FL 3 2)) Tryz.prog X0 RB0 chkP 10 tab 14 400 8 [.map (some 0), .map (some 1)] (PM t u)) = true := by kernel_rfl
theorem pl6_1 (t u : Nat → TypeId) : retB (@callRo (ftOf (FL 6 1)) Tryz.prog X0 RB0 chkP 10 tab 14 400 8 [.map (some 0), .map (some 1)] (PM t u)) = true := by kernel_rfl
theorem pl8_1 (t u : Nat → TypeId) : retB (@callRo (ftOf (FL 8 1)) Tryz.prog X0 RB0 chkP 10 tab 14 400 8 [.map (some 0), .map (some 1)] (PM t u)) = true := by kernel_rfl
theorem pl6_6 (t u : Nat → TypeId) : retB (@callRo (ftOf (FL 6 6)) Tryz.prog X0 RB0 chkP 10 tab 14 400 8 [.map (some 0), .map (some 1)] (PM t u)) = true := by kernel_rfl
end Go.Proofs.YthfjjcfceilahaaGreatDoor
