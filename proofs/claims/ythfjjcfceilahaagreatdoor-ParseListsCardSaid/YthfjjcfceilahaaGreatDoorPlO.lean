/- ParseLists: runs 4.0, 2.5, 4.5, 7.4, 9.6. -/
import Derived.Test.YthfjjcfceilahaaGreatDoorPM2
namespace Go.Proofs.YthfjjcfceilahaaGreatDoor
open Go Go.Am Go.Ri
set_option linter.unusedVariables false
set_option linter.unusedSimpArgs false
set_option maxRecDepth 1000000
theorem pl4_0 (t u : Nat → TypeId) : retB (@callRo (ftOf (FL 4 0)) Tryz.prog X0 RB0 chkP 10 tab 14 400 8 [.map (some 0), .map (some 1)] (PM t u)) = true := by kernel_rfl
theorem pl2_5 (t u : Nat → TypeId) : retB (@callRo (ftOf (FL 2 5)) Tryz.prog X0 RB0 chkP 10 tab 14 400 8 [.map (some 0), .map (some 1)] (PM t u)) = true := by kernel_rfl
theorem pl4_5 (t u : Nat → TypeId) : retB (@callRo (ftOf (FL 4 5)) Tryz.prog X0 RB0 chkP 10 tab 14 400 8 [.map (some 0), .map (some 1)] (PM t u)) = true := by kernel_rfl
theorem pl7_4 (t u : Nat → TypeId) : retB (@callRo (ftOf (FL 7 4)) Tryz.prog X0 RB0 chkP 10 tab 14 400 8 [.map (some 0), .map (some 1)] (PM t u)) = true := by kernel_rfl
theorem pl9_6 (t u : Nat → TypeId) : retB (@callRo (ftOf (FL 9 6)) Tryz.prog X0 RB0 chkP 10 tab 14 400 8 [.map (some 0), .map (some 1)] (PM t u)) = true := by kernel_rfl
end Go.Proofs.YthfjjcfceilahaaGreatDoor
