/- ParseLists: runs 1.2, 2.4, 4.4, 6.4, 7.6. -/
import Derived.Test.YthfjjcfceilahaaGreatDoorPM2
namespace Go.Proofs.YthfjjcfceilahaaGreatDoor
open Go Go.Am Go.Ri
set_option linter.unusedVariables false
set_option linter.unusedSimpArgs false
set_option maxRecDepth 1000000
theorem pl1_2 (t u : Nat → TypeId) : retB (@callRo (ftOf (FL 1 2)) Tryz.prog X0 RB0 chkP 10 tab 14 400 8 [.map (some 0), .map (some 1)] (PM t u)) = true := by kernel_rfl
theorem pl2_4 (t u : Nat → TypeId) : retB (@callRo (ftOf (FL 2 4)) Tryz.prog X0 RB0 chkP 10 tab 14 400 8 [.map (some 0), .map (some 1)] (PM t u)) = true := by kernel_rfl
theorem pl4_4 (t u : Nat → TypeId) : retB (@callRo (ftOf (FL 4 4)) Tryz.prog X0 RB0 chkP 10 tab 14 400 8 [.map (some 0), .map (some 1)] (PM t u)) = true := by kernel_rfl
theorem pl6_4 (t u : Nat → TypeId) : retB (@callRo (ftOf (FL 6 4)) Tryz.prog X0 RB0 chkP 10 tab 14 400 8 [.map (some 0), .map (some 1)] (PM t u)) = true := by kernel_rfl
theorem pl7_6 (t u : Nat → TypeId) : retB (@callRo (ftOf (FL 7 6)) Tryz.prog X0 RB0 chkP 10 tab 14 400 8 [.map (some 0), .map (some 1)] (PM t u)) = true := by kernel_rfl
end Go.Proofs.YthfjjcfceilahaaGreatDoor
