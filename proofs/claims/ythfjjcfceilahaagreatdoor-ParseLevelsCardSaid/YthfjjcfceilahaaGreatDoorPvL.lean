/- ParseLevels: the runs where the first sign is 11. -/
import Derived.Test.YthfjjcfceilahaaGreatDoorPM3
namespace Go.Proofs.YthfjjcfceilahaaGreatDoor
open Go Go.Am Go.Ri
set_option linter.unusedVariables false
set_option linter.unusedSimpArgs false
set_option maxRecDepth 1000000
theorem pv11_0 (t u : Nat → TypeId) : retB (@callV (ftOf (FV 11 0)) Tryz.prog X0 RB0 VB0 O0 tab tab2 14 400 4 [.map (some 0), .map (some 1)] (PM t u)) = true := by kernel_rfl
theorem pv11_1 (t u : Nat → TypeId) : retB (@callV (ftOf (FV 11 1)) Tryz.prog X0 RB0 VB0 O0 tab tab2 14 400 4 [.map (some 0), .map (some 1)] (PM t u)) = true := by kernel_rfl
theorem pv11_2 (t u : Nat → TypeId) : retB (@callV (ftOf (FV 11 2)) Tryz.prog X0 RB0 VB0 O0 tab tab2 14 400 4 [.map (some 0), .map (some 1)] (PM t u)) = true := by kernel_rfl
theorem pv11_3 (t u : Nat → TypeId) : retB (@callV (ftOf (FV 11 3)) Tryz.prog X0 RB0 VB0 O0 tab tab2 14 400 4 [.map (some 0), .map (some 1)] (PM t u)) = true := by kernel_rfl
theorem pv11_4 (t u : Nat → TypeId) : retB (@callV (ftOf (FV 11 4)) Tryz.prog X0 RB0 VB0 O0 tab tab2 14 400 4 [.map (some 0), .map (some 1)] (PM t u)) = true := by kernel_rfl
theorem pv11_5 (t u : Nat → TypeId) : retB (@callV (ftOf (FV 11 5)) Tryz.prog X0 RB0 VB0 O0 tab tab2 14 400 4 [.map (some 0), .map (some 1)] (PM t u)) = true := by kernel_rfl
theorem pv11_6 (t u : Nat → TypeId) : retB (@callV (ftOf (FV 11 6)) Tryz.prog X0 RB0 VB0 O0 tab tab2 14 400 4 [.map (some 0), .map (some 1)] (PM t u)) = true := by kernel_rfl
theorem pv11_7 (t u : Nat → TypeId) : retB (@callV (ftOf (FV 11 7)) Tryz.prog X0 RB0 VB0 O0 tab tab2 14 400 4 [.map (some 0), .map (some 1)] (PM t u)) = true := by kernel_rfl
theorem pv11_8 (t u : Nat → TypeId) : retB (@callV (ftOf (FV 11 8)) Tryz.prog X0 RB0 VB0 O0 tab tab2 14 400 4 [.map (some 0), .map (some 1)] (PM t u)) = true := by kernel_rfl
theorem pv11_9 (t u : Nat → TypeId) : retB (@callV (ftOf (FV 11 9)) Tryz.prog X0 RB0 VB0 O0 tab tab2 14 400 4 [.map (some 0), .map (some 1)] (PM t u)) = true := by kernel_rfl
theorem pv11_10 (t u : Nat → TypeId) : retB (@callV (ftOf (FV 11 10)) Tryz.prog X0 RB0 VB0 O0 tab tab2 14 400 4 [.map (some 0), .map (some 1)] (PM t u)) = true := by kernel_rfl
theorem pv11_11 (t u : Nat → TypeId) : retB (@callV (ftOf (FV 11 11)) Tryz.prog X0 RB0 VB0 O0 tab tab2 14 400 4 [.map (some 0), .map (some 1)] (PM t u)) = true := by kernel_rfl
theorem pv11_12 (t u : Nat → TypeId) : retB (@callV (ftOf (FV 11 12)) Tryz.prog X0 RB0 VB0 O0 tab tab2 14 400 4 [.map (some 0), .map (some 1)] (PM t u)) = true := by kernel_rfl
theorem pv11_13 (t u : Nat → TypeId) : retB (@callV (ftOf (FV 11 13)) Tryz.prog X0 RB0 VB0 O0 tab tab2 14 400 4 [.map (some 0), .map (some 1)] (PM t u)) = true := by kernel_rfl
end Go.Proofs.YthfjjcfceilahaaGreatDoor
