/- ParseLists: runs 2.1, 3.3, 5.3, 7.3, 8.5. -/
import Derived.Test.YthfjjcfceilahaaGreatDoorPM2
namespace Go.Proofs.YthfjjcfceilahaaGreatDoor
open Go Go.Am Go.Ri
set_option linter.unusedVariables false
set_option linter.unusedSimpArgs false
set_option maxRecDepth 1000000
theorem pl2_1 (t u : Nat → TypeId) : retB (@callRo (ftOf (FL 2 1)) Tryz.prog X0 RB0 chkP 10 tab 14 400 8 [.map (some 0), .map (some 1)] (PM t u)) = true := by kernel_rfl
theorem pl3_3 (t u : Nat → TypeId) : retB (@callRo (ftOf (FL 3 3)) Tryz.prog X0 RB0 chkP 10 tab 14 400 8 [.map (some 0), .map (some 1)] (PM t u)) = true := by kernel_rfl
theorem pl5_3 (t u : Nat → TypeId) : retB (@callRo (ftOf (FL 5 3)) Tryz.prog X0 RB0 chkP 10 tab 14 400 8 [.map (some 0), .map (some 1)] (PM t u)) = true := by kernel_rfl
theorem pl7_3 (t u : Nat → TypeId) : retB (@callRo (ftOf (FL 7 3)) Tryz.prog X0 RB0 chkP 10 tab 14 400 8 [.map (some 0), .map (some 1)] (PM t u)) = true := by kernel_rfl
theorem pl8_5 (t u : Nat → TypeId) : retB (@callRo (ftOf (FL 8 5)) Tryz.prog X0 RB0 chkP 10 tab 14 400 8 [.map (some 0), .map (some 1)] (PM t u)) = true := by kernel_rfl
end Go.Proofs.YthfjjcfceilahaaGreatDoor
