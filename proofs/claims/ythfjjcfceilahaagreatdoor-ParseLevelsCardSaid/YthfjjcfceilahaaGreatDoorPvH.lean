/- ParseLevels: the runs where the first sign is 7. -/
import Derived.Test.YthfjjcfceilahaaGreatDoorPM3
namespace Go.Proofs.YthfjjcfceilahaaGreatDoor
open Go Go.Am Go.Ri
set_option linter.unusedVariables false
set_option linter.unusedSimpArgs false
set_option maxRecDepth 1000000
theorem pv7_0 (t u : Nat → TypeId) : retB (@callV (ftOf (FV 7 0)) Tryz.prog X0 RB0 VB0 O0 tab tab2 14 400 4 [.map (some 0), .map (some 1)] (PM t u)) = true := by kernel_rfl
theorem pv7_1 (t u : Nat → TypeId) : retB (@callV (ftOf (FV 7 1)) Tryz.prog X0 RB0 VB0 O0 tab tab2 14 400 4 [.map (some 0), .map (some 1)] (PM t u)) = true := by kernel_rfl
theorem pv7_2 (t u : Nat → TypeId) : retB (@callV (ftOf (FV 7 2)) Tryz.prog X0 RB0 VB0 O0 tab tab2 14 400 4 [.map (some 0), .map (some 1)] (PM t u)) = true := by kernel_rfl
theorem pv7_3 (t u : Nat → TypeId) : retB (@callV (ftOf (FV 7 3)) Tryz.prog X0 RB0 VB0 O0 tab tab2 14 400 4 [.map (some 0), .map (some 1)] (PM t u)) = true := by kernel_rfl
theorem pv7_4 (t u : Nat → TypeId) : retB (@callV (ftOf (FV 7 4)) Tryz.prog X0 RB0 VB0 O0 tab tab2 14 400 4 [.map (some 0), .map (some 1)] (PM t u)) = true := by kernel_rfl
theorem pv7_5 (t u : Nat → TypeId) : retB (@callV (ftOf (FV 7 5)) Tryz.prog X0 RB0 VB0 O0 tab tab2 14 400 4 [.map (some 0), .map (some 1)] (PM t u)) = true := by kernel_rfl
theorem pv7_6 (t u : Nat → TypeId) : retB (@callV (ftOf (FV 7 6)) Tryz.prog X0 RB0 VB0 O0 tab tab2 14 400 4 [.map (some 0), .map (some 1)] (PM t u)) = true := by kernel_rfl
theorem pv7_7 (t u : Nat → TypeId) : retB (@callV (ftOf (FV 7 7)) Tryz.prog X0 RB0 VB0 O0 tab tab2 14 400 4 [.map (some 0), .map (some 1)] (PM t u)) = true := by kernel_rfl
theorem pv7_8 (t u : Nat → TypeId) : retB (@callV (ftOf (FV 7 8)) Tryz.prog X0 RB0 VB0 O0 tab tab2 14 400 4 [.map (some 0), .map (some 1)] (PM t u)) = true := by kernel_rfl
theorem pv7_9 (t u : Nat → TypeId) : retB (@callV (ftOf (FV 7 9)) Tryz.prog X0 RB0 VB0 O0 tab tab2 14 400 4 [.map (some 0), .map (some 1)] (PM t u)) = true := by kernel_rfl
theorem pv7_10 (t u : Nat → TypeId) : retB (@callV (ftOf (FV 7 10)) Tryz.prog X0 RB0 VB0 O0 tab tab2 14 400 4 [.map (some 0), .map (some 1)] (PM t u)) = true := by kernel_rfl
theorem pv7_11 (t u : Nat → TypeId) : retB (@callV (ftOf (FV 7 11)) Tryz.prog X0 RB0 VB0 O0 tab tab2 14 400 4 [.map (some 0), .map (some 1)] (PM t u)) = true := by kernel_rfl
theorem pv7_12 (t u : Nat → TypeId) : retB (@callV (ftOf (FV 7 12)) Tryz.prog X0 RB0 VB0 O0 tab tab2 14 400 4 [.map (some 0), .map (some 1)] (PM t u)) = true := by kernel_rfl
theorem pv7_13 (t u : Nat → TypeId) : retB (@callV (ftOf (FV 7 13)) Tryz.prog X0 RB0 VB0 O0 tab tab2 14 400 4 [.map (some 0), .map (some 1)] (PM t u)) = true := by kernel_rfl
end Go.Proofs.YthfjjcfceilahaaGreatDoor
