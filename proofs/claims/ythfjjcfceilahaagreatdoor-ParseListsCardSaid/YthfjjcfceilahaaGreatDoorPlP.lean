/- ParseLists: runs 0.5, 3.4, 5.4, 8.3, 9.7. -/
import Derived.Test.YthfjjcfceilahaaGreatDoorPM2
namespace Go.Proofs.YthfjjcfceilahaaGreatDoor
open Go Go.Am Go.Ri
set_option linter.unusedVariables false
set_option linter.unusedSimpArgs false
set_option maxRecDepth 1000000
theorem pl0_5 (t u : Nat → TypeId) : retB (@callRo (ftOf (FL 0 5)) Tryz.prog X0 RB0 chkP 10 tab 14 400 8 [.map (some 0), .map (some 1)] (PM t u)) = true := by kernel_rfl
theorem pl3_4 (t u : Nat → TypeId) : retB (@callRo (ftOf (FL 3 4)) Tryz.prog X0 RB0 chkP 10 tab 14 400 8 [.map (some 0), .map (some 1)] (PM t u)) = true := by kernel_rfl
theorem pl5_4 (t u : Nat → TypeId) : retB (@callRo (ftOf (FL 5 4)) Tryz.prog X0 RB0 chkP 10 tab 14 400 8 [.map (some 0), .map (some 1)] (PM t u)) = true := by kernel_rfl
theorem pl8_3 (t u : Nat → TypeId) : retB (@callRo (ftOf (FL 8 3)) Tryz.prog X0 RB0 chkP 10 tab 14 400 8 [.map (some 0), .map (some 1)] (PM t u)) = true := by kernel_rfl
theorem pl9_7 (t u : Nat → TypeId) : retB (@callRo (ftOf (FL 9 7)) Tryz.prog X0 RB0 chkP 10 tab 14 400 8 [.map (some 0), .map (some 1)] (PM t u)) = true := by kernel_rfl
end Go.Proofs.YthfjjcfceilahaaGreatDoor
