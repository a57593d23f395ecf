/- ParseLists: runs 0.1, 2.3, 5.2, 7.2, 5.7. -/
import Derived.Test.YthfjjcfceilahaaGreatDoorPM2
namespace Go.Proofs.YthfjjcfceilahaaGreatDoor
open Go Go.Am Go.Ri
set_option linter.unusedVariables false
set_option linter.unusedSimpArgs false
set_option maxRecDepth 1000000
theorem pl0_1 (t u : Nat → TypeId) : retB (@callRo (ftOf (FL 0 1)) Tryz.prog X0 RB0 chkP 10 tab 14 400 8 [.map (some 0), .map (some 1)] (PM t u)) = true := by kernel_rfl
theorem pl2_3 (t u : Nat → TypeId) : retB (@callRo (ftOf (FL 2 3)) Tryz.prog X0 RB0 chkP 10 tab 14 400 8 [.map (some 0), .map (some 1)] (PM t u)) = true := by kernel_rfl
theorem pl5_2 (t u : Nat → TypeId) : retB (@callRo (ftOf (FL 5 2)) Tryz.prog X0 RB0 chkP 10 tab 14 400 8 [.map (some 0), .map (some 1)] (PM t u)) = true := by kernel_rfl
theorem pl7_2 (t u : Nat → TypeId) : retB (@callRo (ftOf (FL 7 2)) Tryz.prog X0 RB0 chkP 10 tab 14 400 8 [.map (some 0), .map (some 1)] (PM t u)) = true := by kernel_rfl
theorem pl5_7 (t u : Nat → TypeId) : retB (@callRo (ftOf (FL 5 7)) Tryz.prog X0 RB0 chkP 10 tab 14 400 8 [.map (some 0), .map (some 1)] (PM t u)) = true := by kernel_rfl
end Go.Proofs.YthfjjcfceilahaaGreatDoor
