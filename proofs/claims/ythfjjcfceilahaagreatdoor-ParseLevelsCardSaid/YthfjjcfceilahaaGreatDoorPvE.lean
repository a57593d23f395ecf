/- ParseLevels: the runs where the first sign is 4. -/
import Derived.Test.YthfjjcfceilahaaGreatDoorPM3
namespace Go.Proofs.YthfjjcfceilahaaGreatDoor
open Go Go.Am Go.Ri
set_option linter.unusedVariables false
set_option linter.unusedSimpArgs false
set_option maxRecDepth 1000000
theorem pv4_0 (t u : Nat → TypeId) : retB (@callV (ftOf (FV 4 0)) Tryz.prog X0 RB0 VB0 O0 tab tab2 14 400 4 [.map (some 0), .map (some 1)] (PM t u)) = true := by kernel_rfl
theorem pv4_1 (t u : Nat → TypeId) : retB (@callV (ftOf (FV 4 1)) Tryz.prog X0 RB0 VB0 O0 tab tab2 14 400 4 [.map (some 0), .map (some 1)] (PM t u)) = true := by kernel_rfl
theorem pv4_2 (t u : Nat → TypeId) : retB (@callV (ftOf (FV 4 2)) Tryz.prog X0 RB0 VB0 O0 tab tab2 14 400 4 [.map (some 0), .map (some 1)] (PM t u)) = true := by kernel_rfl
theorem pv4_3 (t u : Nat → TypeId) : retB (@callV (ftOf (FV 4 3)) Tryz.prog X0 RB0 VB0 O0 tab tab2 14 400 4 [.map (some 0), .map (some 1)] (PM t u)) = true := by kernel_rfl
theorem pv4_4 (t u : Nat → TypeId) : retB (@callV (ftOf (FV 4 4)) Tryz.prog X0 RB0 VB0 O0 tab tab2 14 400 4 [.map (some 0), .map (some 1)] (PM t u)) = true := by kernel_rfl
theorem pv4_5 (t u : Nat → TypeId) : retB (@callV (ftOf (FV 4 5)) Tryz.prog X0 RB0 VB0 O0 tab tab2 14 400 4 [.map (some 0), .map (some 1)] (PM t u)) = true := by kernel_rfl
theorem pv4_6 (t u : Nat → TypeId) : retB (@callV (ftOf (FV 4 6)) Tryz.prog X0 RB0 VB0 O0 tab tab2 14 400 4 [.map (some 0), .map (some 1)] (PM t u)) = true := by kernel_rfl
theorem pv4_7 (t u : Nat → TypeId) : retB (@callV (ftOf (FV 4 7)) Tryz.prog X0 RB0 VB0 O0 tab tab2 14 400 4 [.map (some 0), .map (some 1)] (PM t u)) = true := by kernel_rfl
theorem pv4_8 (t u : Nat → TypeId) : retB (@callV (ftOf (FV 4 8)) Tryz.prog X0 RB0 VB0 O0 tab tab2 14 400 4 [.map (some 0), .map (some 1)] (PM t u)) = true := by kernel_rfl
theorem pv4_9 (t u : Nat → TypeId) : retB (@callV (ftOf (FV 4 9)) Tryz.prog X0 RB0 VB0 O0 tab tab2 14 400 4 [.map (some 0), .map (some 1)] (PM t u)) = true := by kernel_rfl
theorem pv4_10 (t u : Nat → TypeId) : retB (@callV (ftOf (FV 4 10)) Tryz.prog X0 RB0 VB0 O0 tab tab2 14 400 4 [.map (some 0), .map (some 1)] (PM t u)) = true := by kernel_rfl
theorem pv4_11 (t u : Nat → TypeId) : retB (@callV (ftOf (FV 4 11)) Tryz.prog X0 RB0 VB0 O0 tab tab2 14 400 4 [.map (some 0), .map (some 1)] (PM t u)) = true := by kernel_rfl
theorem pv4_12 (t u : Nat → TypeId) : retB (@callV (ftOf (FV 4 12)) Tryz.prog X0 RB0 VB0 O0 tab tab2 14 400 4 [.map (some 0), .map (some 1)] (PM t u)) = true := by kernel_rfl
theorem pv4_13 (t u : Nat → TypeId) : retB (@callV (ftOf (FV 4 13)) Tryz.prog X0 RB0 VB0 O0 tab tab2 14 400 4 [.map (some 0), .map (some 1)] (PM t u)) = true := by kernel_rfl
end Go.Proofs.YthfjjcfceilahaaGreatDoor
