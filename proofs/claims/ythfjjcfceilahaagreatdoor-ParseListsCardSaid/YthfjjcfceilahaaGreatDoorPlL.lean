/- ParseLists: runs 1.3, 6.0, 8.0, 4.7, 8.6. -/
import Derived.Test.YthfjjcfceilahaaGreatDoorPM2
namespace Go.Proofs.YthfjjcfceilahaaGreatDoor
open Go Go.Am Go.Ri
set_option linter.unusedVariables false
set_option linter.unusedSimpArgs false
set_option maxRecDepth 1000000
theorem pl1_3 (t u : Nat → TypeId) : retB (@callRo (ftOf (FL 1 3)) Tryz.prog X0 RB0 chkP 10 tab 14 400 8 [.map (some 0), .map (some 1)] (PM t u)) = true := by kernel_rfl
theorem pl6_0 (t u : Nat → TypeId) : retB (@callRo (ftOf (FL 6 0)) Tryz.prog X0 RB0 chkP 10 tab 14 400 8 [.map (some 0), .map (some 1)] (PM t u)) = true := by kernel_rfl
theorem pl8_0 (t u : Nat → TypeId) : retB (@callRo (ftOf (FL 8 0)) Tryz.prog X0 RB0 chkP 10 tab 14 400 8 [.map (some 0), .map (some 1)] (PM t u)) = true := by kernel_rfl
theorem pl4_7 (t u : Nat → TypeId) : retB (@callRo (ftOf (FL 4 7)) Tryz.prog X0 RB0 chkP 10 tab 14 400 8 [.map (some 0), .map (some 1)] (PM t u)) = true := by kernel_rfl
theorem pl8_6 (t u : Nat → TypeId) : retB (@callRo (ftOf (FL 8 6)) Tryz.prog X0 RB0 chkP 10 tab 14 400 8 [.map (some 0), .map (some 1)] (PM t u)) = true := by kernel_rfl
end Go.Proofs.YthfjjcfceilahaaGreatDoor
