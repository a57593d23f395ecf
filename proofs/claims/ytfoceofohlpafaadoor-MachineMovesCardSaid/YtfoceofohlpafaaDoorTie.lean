/-
  DERIVED. GIVEN WITH THE SEED: THE PROGRAM's TIES (one call each: nine closed facts by the kernel) AND EACH ROW's TIE, after the 31st guide's Derived/Test/Toyas{Tie, Card}.lean. No idea stands in it: it is a product of the set-up. Laid BY PROGRAM, IN A SANDBOX (cutbox-door.mjs). By AI agents, Wed Nov 11 2026. No macro, syntax, notation, axiom, sorry.
-/
import Derived.Test.YtfoceofohlpafaaDoorRows
import Derived.LaidByTextLater
import Derived.SevenTiedAt
import Derived.LaidSub
import Derived.LaidOnce
namespace Go.Proofs.YtfoceofohlpafaaDoor
open Go
set_option maxRecDepth 100000
theorem seatTie1 : Tryd.prog.laidByTextLater [("math/bits.deBruijn32tab", Rows.laid_math_bits_deBruijn32tab), ("math/bits.deBruijn64tab", Rows.laid_math_bits_deBruijn64tab), ("internal/strconv.uint64pow10", Rows.laid_internal_strconv_uint64pow10), ("battledore/code.takes", Rows.laid_battledore_code_takes), ("battledore/code.leaves", Rows.laid_battledore_code_leaves), ("bytes.ErrTooLarge", Rows.laid_bytes_ErrTooLarge)] [.data, .data, .data, .data, .data, .sentinel] true :=
  Program.laidByTextLater_by_one 53 8 65 (by kernel_rfl) (by kernel_rfl) (by kernel_rfl) (by kernel_rfl) (by kernel_rfl) (by kernel_rfl) (fun _ _ => by kernel_rfl)
theorem noOwnUnsafe : Tryd.pinned.checked.prog.headLifts.contains "ownunsafe" = false := by kernel_rfl
theorem tie : Tryd.prog.laidByTextLater [("math/bits.deBruijn32tab", Rows.laid_math_bits_deBruijn32tab), ("math/bits.deBruijn64tab", Rows.laid_math_bits_deBruijn64tab), ("internal/strconv.uint64pow10", Rows.laid_internal_strconv_uint64pow10), ("battledore/code.takes", Rows.laid_battledore_code_takes), ("battledore/code.leaves", Rows.laid_battledore_code_leaves), ("bytes.ErrTooLarge", Rows.laid_bytes_ErrTooLarge)] [.data, .data, .data, .data, .data, .sentinel] true :=
  Program.laidByTextLater.sub seatTie1 ["math/bits.deBruijn32tab", "math/bits.deBruijn64tab", "internal/strconv.uint64pow10", "battledore/code.takes", "battledore/code.leaves", "bytes.ErrTooLarge"] (by kernel_rfl) (by kernel_rfl)
theorem machineReckons_row_tie : Rows.machineReckonsRow.laidByTextAt .later Tryd.pinned [.data, .data, .data, .data, .data, .sentinel] true :=
  OpenClaim.laidByTextAt_later rfl rfl tie noOwnUnsafe
theorem machineFuel_row_tie : Rows.machineFuelRow.laidByTextAt .later Tryd.pinned [.data, .data, .data, .data, .data, .sentinel] true :=
  OpenClaim.laidByTextAt_later rfl rfl tie noOwnUnsafe
theorem machineMoves_row_tie : Rows.machineMovesRow.laidByTextAt .later Tryd.pinned [.data, .data, .data, .data, .data, .sentinel] true :=
  OpenClaim.laidByTextAt_later rfl rfl tie noOwnUnsafe
theorem machineTexts_row_tie : Rows.machineTextsRow.laidByTextAt .later Tryd.pinned [.data, .data, .data, .data, .data, .sentinel] true :=
  OpenClaim.laidByTextAt_later rfl rfl tie noOwnUnsafe
theorem machineDigits_row_tie : Rows.machineDigitsRow.laidByTextAt .later Tryd.pinned [.data, .data, .data, .data, .data, .sentinel] true :=
  OpenClaim.laidByTextAt_later rfl rfl tie noOwnUnsafe
theorem machineRaises_row_tie : Rows.machineRaisesRow.laidByTextAt .later Tryd.pinned [.data, .data, .data, .data, .data, .sentinel] true :=
  OpenClaim.laidByTextAt_later rfl rfl tie noOwnUnsafe
theorem machineGoes_row_tie : Rows.machineGoesRow.laidByTextAt .later Tryd.pinned [.data, .data, .data, .data, .data, .sentinel] true :=
  OpenClaim.laidByTextAt_later rfl rfl tie noOwnUnsafe
theorem machineErrs_row_tie : Rows.machineErrsRow.laidByTextAt .later Tryd.pinned [.data, .data, .data, .data, .data, .sentinel] true :=
  OpenClaim.laidByTextAt_later rfl rfl tie noOwnUnsafe
theorem machineReckonsUpto_row_tie : Rows.machineReckonsUptoRow.laidByTextAt .later Tryd.pinned [.data, .data, .data, .data, .data, .sentinel] true :=
  OpenClaim.laidByTextAt_later rfl rfl tie noOwnUnsafe
theorem machineFuelUpto_row_tie : Rows.machineFuelUptoRow.laidByTextAt .later Tryd.pinned [.data, .data, .data, .data, .data, .sentinel] true :=
  OpenClaim.laidByTextAt_later rfl rfl tie noOwnUnsafe
theorem machineMovesUpto_row_tie : Rows.machineMovesUptoRow.laidByTextAt .later Tryd.pinned [.data, .data, .data, .data, .data, .sentinel] true :=
  OpenClaim.laidByTextAt_later rfl rfl tie noOwnUnsafe
theorem machineTextsUpto_row_tie : Rows.machineTextsUptoRow.laidByTextAt .later Tryd.pinned [.data, .data, .data, .data, .data, .sentinel] true :=
  OpenClaim.laidByTextAt_later rfl rfl tie noOwnUnsafe
theorem machineDigitsUpto_row_tie : Rows.machineDigitsUptoRow.laidByTextAt .later Tryd.pinned [.data, .data, .data, .data, .data, .sentinel] true :=
  OpenClaim.laidByTextAt_later rfl rfl tie noOwnUnsafe
theorem machineRaisesUpto_row_tie : Rows.machineRaisesUptoRow.laidByTextAt .later Tryd.pinned [.data, .data, .data, .data, .data, .sentinel] true :=
  OpenClaim.laidByTextAt_later rfl rfl tie noOwnUnsafe
theorem machineGoesUpto_row_tie : Rows.machineGoesUptoRow.laidByTextAt .later Tryd.pinned [.data, .data, .data, .data, .data, .sentinel] true :=
  OpenClaim.laidByTextAt_later rfl rfl tie noOwnUnsafe
theorem machineErrsUpto_row_tie : Rows.machineErrsUptoRow.laidByTextAt .later Tryd.pinned [.data, .data, .data, .data, .data, .sentinel] true :=
  OpenClaim.laidByTextAt_later rfl rfl tie noOwnUnsafe
end Go.Proofs.YtfoceofohlpafaaDoor
