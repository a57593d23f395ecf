/-
  DERIVED. GIVEN WITH THE SEED: THE PROGRAM's TIES (one call each: nine closed facts by the kernel) AND EACH ROW's TIE, after the 31st guide's Derived/Test/Toyas{Tie, Card}.lean. No idea stands in it: it is a product of the set-up. Laid BY PROGRAM, IN A SANDBOX (cutbox-door.mjs). By AI agents, Wed Nov 11 2026. No macro, syntax, notation, axiom, sorry.
-/
import Derived.Test.YtfgihmgeplcfoaaGreatDoorRows
import Derived.LaidByTextLater
import Derived.SevenTiedAt
import Derived.LaidSub
import Derived.LaidOnce
namespace Go.Proofs.YtfgihmgeplcfoaaGreatDoor
open Go
set_option maxRecDepth 100000
theorem seatTie1 : Tryz.prog.laidByTextLater [("math/bits.deBruijn32tab", Rows.laid_math_bits_deBruijn32tab), ("math/bits.deBruijn64tab", Rows.laid_math_bits_deBruijn64tab), ("internal/strconv.uint64pow10", Rows.laid_internal_strconv_uint64pow10), ("battledore/code.takes", Rows.laid_battledore_code_takes), ("battledore/code.leaves", Rows.laid_battledore_code_leaves), ("battledore/infer.given", Rows.laid_battledore_infer_given), ("battledore/infer.Prims", Rows.laid_battledore_infer_Prims), ("strconv.ErrRange", Rows.laid_strconv_ErrRange), ("strconv.ErrSyntax", Rows.laid_strconv_ErrSyntax), ("bytes.ErrTooLarge", Rows.laid_bytes_ErrTooLarge), ("battledore/lex.words", Rows.laid_battledore_lex_words), ("battledore/lex.signs", Rows.laid_battledore_lex_signs), ("battledore/parse.levels", Rows.laid_battledore_parse_levels)] [.data, .data, .data, .data, .data, .widerDeep, .data, .sentinel, .sentinel, .sentinel, .data, .data, .data] true :=
  Program.laidByTextLater_by_one 123 8 65 (by kernel_rfl) (by kernel_rfl) (by kernel_rfl) (by kernel_rfl) (by kernel_rfl) (by kernel_rfl) (fun _ _ => by kernel_rfl)
theorem noOwnUnsafe : Tryz.pinned.checked.prog.headLifts.contains "ownunsafe" = false := by kernel_rfl
theorem tie : Tryz.prog.laidByTextLater [("math/bits.deBruijn32tab", Rows.laid_math_bits_deBruijn32tab), ("math/bits.deBruijn64tab", Rows.laid_math_bits_deBruijn64tab), ("internal/strconv.uint64pow10", Rows.laid_internal_strconv_uint64pow10), ("battledore/code.takes", Rows.laid_battledore_code_takes), ("battledore/code.leaves", Rows.laid_battledore_code_leaves), ("battledore/infer.given", Rows.laid_battledore_infer_given), ("battledore/infer.Prims", Rows.laid_battledore_infer_Prims), ("strconv.ErrRange", Rows.laid_strconv_ErrRange), ("strconv.ErrSyntax", Rows.laid_strconv_ErrSyntax), ("bytes.ErrTooLarge", Rows.laid_bytes_ErrTooLarge), ("battledore/lex.words", Rows.laid_battledore_lex_words), ("battledore/lex.signs", Rows.laid_battledore_lex_signs), ("battledore/parse.levels", Rows.laid_battledore_parse_levels)] [.data, .data, .data, .data, .data, .widerDeep, .data, .sentinel, .sentinel, .sentinel, .data, .data, .data] true :=
  Program.laidByTextLater.sub seatTie1 ["math/bits.deBruijn32tab", "math/bits.deBruijn64tab", "internal/strconv.uint64pow10", "battledore/code.takes", "battledore/code.leaves", "battledore/infer.given", "battledore/infer.Prims", "strconv.ErrRange", "strconv.ErrSyntax", "bytes.ErrTooLarge", "battledore/lex.words", "battledore/lex.signs", "battledore/parse.levels"] (by kernel_rfl) (by kernel_rfl)
theorem notebookReplies_row_tie : Rows.notebookRepliesRow.laidByTextAt .later Tryz.pinned [.data, .data, .data, .data, .data, .widerDeep, .data, .sentinel, .sentinel, .sentinel, .data, .data, .data] true :=
  OpenClaim.laidByTextAt_later rfl rfl tie noOwnUnsafe
theorem notebookReads_row_tie : Rows.notebookReadsRow.laidByTextAt .later Tryz.pinned [.data, .data, .data, .data, .data, .widerDeep, .data, .sentinel, .sentinel, .sentinel, .data, .data, .data] true :=
  OpenClaim.laidByTextAt_later rfl rfl tie noOwnUnsafe
theorem notebookRepliesUpto_row_tie : Rows.notebookRepliesUptoRow.laidByTextAt .later Tryz.pinned [.data, .data, .data, .data, .data, .widerDeep, .data, .sentinel, .sentinel, .sentinel, .data, .data, .data] true :=
  OpenClaim.laidByTextAt_later rfl rfl tie noOwnUnsafe
theorem notebookReadsUpto_row_tie : Rows.notebookReadsUptoRow.laidByTextAt .later Tryz.pinned [.data, .data, .data, .data, .data, .widerDeep, .data, .sentinel, .sentinel, .sentinel, .data, .data, .data] true :=
  OpenClaim.laidByTextAt_later rfl rfl tie noOwnUnsafe
end Go.Proofs.YtfgihmgeplcfoaaGreatDoor
