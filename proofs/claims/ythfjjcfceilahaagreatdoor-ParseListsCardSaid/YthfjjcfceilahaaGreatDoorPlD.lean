/- ParseLists: runs 0.2, 4.1, 7.0, 9.0, 7.5. -/
import Derived.Test.YthfjjcfceilahaaGreatDoorPM2
namespace Go.Proofs.YthfjjcfceilahaaGreatDoor
open Go Go.Am Go.Ri
set_option linter.unusedVariables false
set_option linter.unusedSimpArgs false
set_option maxRecDepth 1000000
theorem pl0_2 (t u : Nat → TypeId) : retB (@callRo (ftOf (FL 0 2)) Tryz.prog X0 RB0 chkP 10 tab 14 400 8 [.map (some 0), .map (some 1)] (PM t u)) = true := by kernel_rfl
theorem pl4_1 (t u : Nat → TypeId) : retB (@callRo (ftOf (FL 4 1)) Tryz.prog X0 RB0 chkP 10 tab 14 400 8 [.map (some 0), .map (some 1)] (PM t u)) = true := by kernel_rfl
theorem pl7_0 (t u : Nat → TypeId) : retB (@callRo (ftOf (FL 7 0)) Tryz.prog X0 RB0 chkP 10 tab 14 400 8 [.map (some 0), .map (some 1)] (PM t u)) = true := by kernel_rfl
theorem pl9_0 (t u : Nat → TypeId) : retB (@callRo (ftOf (FL 9 0)) Tryz.prog X0 RB0 chkP 10 tab 14 400 8 [.map (some 0), .map (some 1)] (PM t u)) = true := by kernel_rfl
theorem pl7_5 (t u : Nat → TypeId) : retB (@callRo (ftOf (FL 7 5)) Tryz.prog X0 RB0 chkP 10 tab 14 400 8 [.map (some 0), .map (some 1)] (PM t u)) = true := by kernel_rfl
end Go.Proofs.YthfjjcfceilahaaGreatDoor
