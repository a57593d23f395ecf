/- ParseLevels: the runs where the first sign is 10. -/
import Derived.Test.YthfjjcfceilahaaGreatDoorPM3
namespace Go.Proofs.YthfjjcfceilahaaGreatDoor
open Go Go.Am Go.Ri
set_option linter.unusedVariables false
set_option linter.unusedSimpArgs false
set_option maxRecDepth 1000000
theorem pv10_0 (t u : Nat → TypeId) : retB (@callV (ftOf (FV 10 0)) Tryz.prog X0 RB0 VB0 O0 tab tab2 14 400 4 [.map (some 0), .map (some 1)] (PM t u)) = true := by kernel_rfl
theorem pv10_1 (t u : Nat → TypeId) : retB (@callV (ftOf (FV 10 1)) Tryz.prog X0 RB0 VB0 O0 tab tab2 14 400 4 [.map (some 0), .map (some 1)] (PM t u)) = true := by kernel_rfl
theorem pv10_2 (t u : Nat → TypeId) : retB (@callV (ftOf (FV 10 2)) Tryz.prog X0 RB0 VB0 O0 tab tab2 14 400 4 [.map (some 0), .map (some 1)] (PM t u)) = true := by kernel_rfl
theorem pv10_3 (t u : Nat → TypeId) : retB (@callV (ftOf (FV 10 3)) Tryz.prog X0 RB0 VB0 O0 tab tab2 14 400 4 [.map (some 0), .map (some 1)] (PM t u)) = true := by kernel_rfl
theorem pv10_4 (t u : Nat → TypeId) : retB (@callV (ftOf (FV 10 4)) Tryz.prog X0 RB0 VB0 O0 tab tab2 14 400 4 [.map (some 0), .map (some 1)] (PM t u)) = true := by kernel_rfl
theorem pv10_5 (t u : Nat → TypeId) : retB (@callV (ftOf (FV 10 5)) Tryz.prog X0 RB0 VB0 O0 tab tab2 14 400 4 [.map (some 0), .map (some 1)] (PM t u)) = true := by kernel_rfl
theorem pv10_6 (t u : Nat → TypeId) : retB (@callV (ftOf (FV 10 6)) Tryz.prog X0 RB0 VB0 O0 tab tab2 14 400 4 [.map (some 0), .map (some 1)] (PM t u)) = true := by kernel_rfl
theorem pv10_7 (t u : Nat → TypeId) : retB (@callV (ftOf (FV 10 7)) Tryz.prog X0 RB0 VB0 O0 tab tab2 14 400 4 [.map (some 0), .map (some 1)] (PM t u)) = true := by kernel_rfl
theorem pv10_8 (t u : Nat → TypeId) : retB (@callV (ftOf (FV 10 8)) Tryz.prog X0 RB0 VB0 O0 tab tab2 14 400 4 [.map (some 0), .map (some 1)] (PM t u)) = true := by kernel_rfl
theorem pv10_9 (t u : Nat → TypeId) : retB (@callV (ftOf (FV 10 9)) Tryz.prog X0 RB0 VB0 O0 tab tab2 14 400 4 [.map (some 0), .map (some 1)] (PM t u)) = true := by kernel_rfl
theorem pv10_10 (t u : Nat → TypeId) : retB (@callV (ftOf (FV 10 10)) Tryz.prog X0 RB0 VB0 O0 tab tab2 14 400 4 [.map (some 0), .map (some 1)] (PM t u)) = true := by kernel_rfl
theorem pv10_11 (t u : Nat → TypeId) : retB (@callV (ftOf (FV 10 11)) Tryz.prog X0 RB0 VB0 O0 tab tab2 14 400 4 [.map (some 0), .map (some 1)] (PM t u)) = true := by kernel_rfl
theorem pv10_12 (t u : Nat → TypeId) : retB (@callV (ftOf (FV 10 12)) Tryz.prog X0 RB0 VB0 O0 tab tab2 14 400 4 [.map (some 0), .map (some 1)] (PM t u)) = true := by kernel_rfl
theorem pv10_13 (t u : Nat → TypeId) : retB (@callV (ftOf (FV 10 13)) Tryz.prog X0 RB0 VB0 O0 tab tab2 14 400 4 [.map (some 0), .map (some 1)] (PM t u)) = true := by kernel_rfl
end Go.Proofs.YthfjjcfceilahaaGreatDoor
