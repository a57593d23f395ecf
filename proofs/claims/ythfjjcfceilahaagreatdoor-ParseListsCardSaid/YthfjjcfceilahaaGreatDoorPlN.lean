/- ParseLists: runs 3.1, 1.6, 3.6, 6.5, 8.7. -/
import Derived.Test.YthfjjcfceilahaaGreatDoorPM2
namespace Go.Proofs.YthfjjcfceilahaaGreatDoor
open Go Go.Am Go.Ri
set_option linter.unusedVariables false
set_option linter.unusedSimpArgs false
set_option maxRecDepth 1000000
theorem pl3_1 (t u : Nat → TypeId) : retB (@callRo (ftOf (FL 3 1)) Tryz.prog X0 RB0 chkP 10 tab 14 400 8 [.map (some 0), .map (some 1)] (PM t u)) = true := by kernel_rfl
theorem pl1_6 (t u : Nat → TypeId) : retB (@callRo (ftOf (FL 1 6)) Tryz.prog X0 RB0 chkP 10 tab 14 400 8 [.map (some 0), .map (some 1)] (PM t u)) = true := by kernel_rfl
theorem pl3_6 (t u : Nat → TypeId) : retB (@callRo (ftOf (FL 3 6)) Tryz.prog X0 RB0 chkP 10 tab 14 400 8 [.map (some 0), .map (some 1)] (PM t u)) = true := by kernel_rfl
theorem pl6_5 (t u : Nat → TypeId) : retB (@callRo (ftOf (FL 6 5)) Tryz.prog X0 RB0 chkP 10 tab 14 400 8 [.map (some 0), .map (some 1)] (PM t u)) = true := by kernel_rfl
theorem pl8_7 (t u : Nat → TypeId) : retB (@callRo (ftOf (FL 8 7)) Tryz.prog X0 RB0 chkP 10 tab 14 400 8 [.map (some 0), .map (some 1)] (PM t u)) = true := by kernel_rfl
end Go.Proofs.YthfjjcfceilahaaGreatDoor
