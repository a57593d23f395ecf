/- ParseLevels: the runs where the first sign is 1. -/
import Derived.Test.YthfjjcfceilahaaGreatDoorPM3
namespace Go.Proofs.YthfjjcfceilahaaGreatDoor
open Go Go.Am Go.Ri
set_option linter.unusedVariables false
set_option linter.unusedSimpArgs false
set_option maxRecDepth 1000000
theorem pv1_0 (t u : Nat → TypeId) : retB (@callV (ftOf (FV 1 0)) Tryz.prog X0 RB0 VB0 O0 tab tab2 14 400 4 [.map (some 0), .map (some 1)] (PM t u)) = true := by kernel_rfl
theorem pv1_1 (t u : Nat → TypeId) : retB (@callV (ftOf (FV 1 1)) Tryz.prog X0 RB0 VB0 O0 tab tab2 14 400 4 [.map (some 0), .map (some 1)] (PM t u)) = true := by kernel_rfl
theorem pv1_2 (t u : Nat → TypeId) : retB (@callV (ftOf (FV 1 2)) Tryz.prog X0 RB0 VB0 O0 tab tab2 14 400 4 [.map (some 0), .map (some 1)] (PM t u)) = true := by kernel_rfl
theorem pv1_3 (t u : Nat → TypeId) : retB (@callV (ftOf (FV 1 3)) Tryz.prog X0 RB0 VB0 O0 tab tab2 14 400 4 [.map (some 0), .map (some 1)] (PM t u)) = true := by kernel_rfl
theorem pv1_4 (t u : Nat → TypeId) : retB (@callV (ftOf (FV 1 4)) Tryz.prog X0 RB0 VB0 O0 tab tab2 14 400 4 [.map (some 0), .map (some 1)] (PM t u)) = true := by kernel_rfl
theorem pv1_5 (t u : Nat → TypeId) : retB (@callV (ftOf (FV 1 5)) Tryz.prog X0 RB0 VB0 O0 tab tab2 14 400 4 [.map (some 0), .map (some 1)] (PM t u)) = true := by kernel_rfl
theorem pv1_6 (t u : Nat → TypeId) : retB (@callV (ftOf (FV 1 6)) Tryz.prog X0 RB0 VB0 O0 tab tab2 14 400 4 [.map (some 0), .map (some 1)] (PM t u)) = true := by kernel_rfl
theorem pv1_7 (t u : Nat → TypeId) : retB (@callV (ftOf (FV 1 7)) Tryz.prog X0 RB0 VB0 O0 tab tab2 14 400 4 [.map (some 0), .map (some 1)] (PM t u)) = true := by kernel_rfl
theorem pv1_8 (t u : Nat → TypeId) : retB (@callV (ftOf (FV 1 8)) Tryz.prog X0 RB0 VB0 O0 tab tab2 14 400 4 [.map (some 0), .map (some 1)] (PM t u)) = true := by kernel_rfl
theorem pv1_9 (t u : Nat → TypeId) : retB (@callV (ftOf (FV 1 9)) Tryz.prog X0 RB0 VB0 O0 tab tab2 14 400 4 [.map (some 0), .map (some 1)] (PM t u)) = true := by kernel_rfl
theorem pv1_10 (t u : Nat → TypeId) : retB (@callV (ftOf (FV 1 10)) Tryz.prog X0 RB0 VB0 O0 tab tab2 14 400 4 [.map (some 0), .map (some 1)] (PM t u)) = true := by kernel_rfl
theorem pv1_11 (t u : Nat → TypeId) : retB (@callV (ftOf (FV 1 11)) Tryz.prog X0 RB0 VB0 O0 tab tab2 14 400 4 [.map (some 0), .map (some 1)] (PM t u)) = true := by kernel_rfl
theorem pv1_12 (t u : Nat → TypeId) : retB (@callV (ftOf (FV 1 12)) Tryz.prog X0 RB0 VB0 O0 tab tab2 14 400 4 [.map (some 0), .map (some 1)] (PM t u)) = true := by kernel_rfl
theorem pv1_13 (t u : Nat → TypeId) : retB (@callV (ftOf (FV 1 13)) Tryz.prog X0 RB0 VB0 O0 tab tab2 14 400 4 [.map (some 0), .map (some 1)] (PM t u)) = true := by kernel_rfl
end Go.Proofs.YthfjjcfceilahaaGreatDoor
