/- awake(), run. -/
import Derived.Test.YthfjjcfceilahaaGreatDoorPM0
namespace Go.Proofs.YthfjjcfceilahaaGreatDoor
open Go Go.Am Go.Ri
set_option maxRecDepth 1000000
theorem aw1 (t u : Nat → TypeId) : retB (@callR (ftOf {}) Tryz.prog X0 RB0 tab 14 40 10 [] (PM t u)) = true := by kernel_rfl
end Go.Proofs.YthfjjcfceilahaaGreatDoor
