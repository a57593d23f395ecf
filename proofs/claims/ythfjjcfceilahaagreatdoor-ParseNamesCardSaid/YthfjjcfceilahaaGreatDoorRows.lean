/-
  NARROWER THAN 'FOR EVERY INPUT', by the rows' own cells (each row's printed sentence says how): ParseBack: laid · ParseLevels: laid · ParseDeep: laid · ParseNames: laid · ParseSeveral: laid · ParseLists: laid · ParseBrackets: laid.
  DERIVED. THE GIVEN ROWS OF THIS SEAT. 7 by the template 'for every input the law returns true; each argument reads behind the call as it read before'; 0 by the template 'total and deterministic' (their statements: YthfjjcfceilahaaGreatDoorTotals.lean).
  GIVEN WITH THE SEED: the statements are not yours to turn. If you find one false, say at which input.
  Laid BY PROGRAM, IN A SANDBOX (cutbox-rows.mjs): the forced cells as the released guide's own fill.sh prints them over the translation 492e92454feff166… (all of the seat's roots in one cut). By AI agents, Wed Nov 11 2026. No macro, syntax, notation, axiom, sorry.
-/
import Derived.Test.YthfjjcfceilahaaGreatDoorChecked
import GoSem.Claim
import GoSem.ClaimJoined
import GoSem.ClaimMapViews
import Derived.JoinedTies
import Derived.KernelRfl
namespace Go.Proofs.YthfjjcfceilahaaGreatDoor
/- THE CELL 'sum', in the pinned program and in every row, IS THE sha256 OF THE DUMP (.gsa) THAT YthfjjcfceilahaaGreatDoorProg.lean LOADS. Nothing in Lean hashes anything: it is a label: what it is worth is what the hold of that sum in a sandbox is worth. -/
noncomputable def Tryz.pinned : Pinned := { name := "ythfjjcfceilahaagreatdoor", sum := "492e92454feff166219be427ea436ce3e71e61b239001e588cb25617ca88d84d", checked := Tryz.checked }
namespace Rows
def none {H : Type} : Left H := { results := [], args := [] }

/- WHAT THE LISTED PACKAGE-LEVEL VARIABLES READ AS WHEN THE CALL BEGINS. Each datum BY PROGRAM (the guide's laid-datum.mjs) off the statement by which the dump's own 'gosem.cut.vars' lays the variable. In a bare row this is a premise. The card (YthfjjcfceilahaaGreatDoorCards.lean) ties it to the program's text. -/
def laid_math_bits_deBruijn32tab {H : Type} : DataW H := .agg [.lit (.int .u8 0), .lit (.int .u8 1), .lit (.int .u8 28), .lit (.int .u8 2), .lit (.int .u8 29), .lit (.int .u8 14), .lit (.int .u8 24), .lit (.int .u8 3), .lit (.int .u8 30), .lit (.int .u8 22), .lit (.int .u8 20), .lit (.int .u8 15), .lit (.int .u8 25), .lit (.int .u8 17), .lit (.int .u8 4), .lit (.int .u8 8), .lit (.int .u8 31), .lit (.int .u8 27), .lit (.int .u8 13), .lit (.int .u8 23), .lit (.int .u8 21), .lit (.int .u8 19), .lit (.int .u8 16), .lit (.int .u8 7), .lit (.int .u8 26), .lit (.int .u8 12), .lit (.int .u8 18), .lit (.int .u8 6), .lit (.int .u8 11), .lit (.int .u8 5), .lit (.int .u8 10), .lit (.int .u8 9)]
def laid_math_bits_deBruijn64tab {H : Type} : DataW H := .agg [.lit (.int .u8 0), .lit (.int .u8 1), .lit (.int .u8 56), .lit (.int .u8 2), .lit (.int .u8 57), .lit (.int .u8 49), .lit (.int .u8 28), .lit (.int .u8 3), .lit (.int .u8 61), .lit (.int .u8 58), .lit (.int .u8 42), .lit (.int .u8 50), .lit (.int .u8 38), .lit (.int .u8 29), .lit (.int .u8 17), .lit (.int .u8 4), .lit (.int .u8 62), .lit (.int .u8 47), .lit (.int .u8 59), .lit (.int .u8 36), .lit (.int .u8 45), .lit (.int .u8 43), .lit (.int .u8 51), .lit (.int .u8 22), .lit (.int .u8 53), .lit (.int .u8 39), .lit (.int .u8 33), .lit (.int .u8 30), .lit (.int .u8 24), .lit (.int .u8 18), .lit (.int .u8 12), .lit (.int .u8 5), .lit (.int .u8 63), .lit (.int .u8 55), .lit (.int .u8 48), .lit (.int .u8 27), .lit (.int .u8 60), .lit (.int .u8 41), .lit (.int .u8 37), .lit (.int .u8 16), .lit (.int .u8 46), .lit (.int .u8 35), .lit (.int .u8 44), .lit (.int .u8 21), .lit (.int .u8 52), .lit (.int .u8 32), .lit (.int .u8 23), .lit (.int .u8 11), .lit (.int .u8 54), .lit (.int .u8 26), .lit (.int .u8 40), .lit (.int .u8 15), .lit (.int .u8 34), .lit (.int .u8 20), .lit (.int .u8 31), .lit (.int .u8 10), .lit (.int .u8 25), .lit (.int .u8 14), .lit (.int .u8 19), .lit (.int .u8 9), .lit (.int .u8 13), .lit (.int .u8 8), .lit (.int .u8 7), .lit (.int .u8 6)]
def laid_internal_strconv_uint64pow10 {H : Type} : DataW H := .agg [.lit (.int .u64 1), .lit (.int .u64 10), .lit (.int .u64 100), .lit (.int .u64 1000), .lit (.int .u64 10000), .lit (.int .u64 100000), .lit (.int .u64 1000000), .lit (.int .u64 10000000), .lit (.int .u64 100000000), .lit (.int .u64 1000000000), .lit (.int .u64 10000000000), .lit (.int .u64 100000000000), .lit (.int .u64 1000000000000), .lit (.int .u64 10000000000000), .lit (.int .u64 100000000000000), .lit (.int .u64 1000000000000000), .lit (.int .u64 10000000000000000), .lit (.int .u64 100000000000000000), .lit (.int .u64 1000000000000000000), .lit (.int .u64 10000000000000000000)]
def laid_strconv_ErrRange {H : Type} : DataW H := .iface "*errors.errorString" (.ptr (.agg [.lit (.string [118, 97, 108, 117, 101, 32, 111, 117, 116, 32, 111, 102, 32, 114, 97, 110, 103, 101])]))
def laid_strconv_ErrSyntax {H : Type} : DataW H := .iface "*errors.errorString" (.ptr (.agg [.lit (.string [105, 110, 118, 97, 108, 105, 100, 32, 115, 121, 110, 116, 97, 120])]))
def laid_battledore_lex_words {H : Type} : DataW H := .agg [.lit (.string [108, 101, 116]), .lit (.string [114, 101, 99]), .lit (.string [105, 110]), .lit (.string [102, 117, 110]), .lit (.string [105, 102]), .lit (.string [116, 104, 101, 110]), .lit (.string [101, 108, 115, 101]), .lit (.string [109, 97, 116, 99, 104]), .lit (.string [119, 105, 116, 104]), .lit (.string [116, 114, 121]), .lit (.string [116, 121, 112, 101]), .lit (.string [111, 102]), .lit (.string [109, 111, 100]), .lit (.string [116, 114, 117, 101]), .lit (.string [102, 97, 108, 115, 101])]
def laid_battledore_lex_signs {H : Type} : DataW H := .agg [.lit (.string [45, 62]), .lit (.string [58, 61]), .lit (.string [59, 59]), .lit (.string [60, 62]), .lit (.string [60, 61]), .lit (.string [58, 58]), .lit (.string [124, 124]), .lit (.string [38, 38]), .lit (.string [40]), .lit (.string [41]), .lit (.string [91]), .lit (.string [93]), .lit (.string [44]), .lit (.string [59]), .lit (.string [124]), .lit (.string [61]), .lit (.string [60]), .lit (.string [43]), .lit (.string [45]), .lit (.string [42]), .lit (.string [47]), .lit (.string [94]), .lit (.string [33]), .lit (.string [95])]
def laid_battledore_parse_levels {H : Type} : DataW H := .agg [.slice [.lit (.string [58, 61])] [], .slice [.lit (.string [124, 124])] [], .slice [.lit (.string [38, 38])] [], .slice [.lit (.string [61]), .lit (.string [60, 62]), .lit (.string [60, 61]), .lit (.string [60])] [], .slice [.lit (.string [58, 58]), .lit (.string [94])] [], .slice [.lit (.string [43]), .lit (.string [45])] [], .slice [.lit (.string [42]), .lit (.string [47]), .lit (.string [109, 111, 100])] []]

/-- 'battledorelaw04.ParseBack': WHATEVER THE INPUT: true; the input reads as it did. -/
def parseBackSpec : ChangeSpec := { name := "parseBack", fn := fun _ => fun
  | [d] => { results := [.lit (.bool true)], args := [d] }
  | _ => none }
def parseBackRow : OpenClaim := { program := "ythfjjcfceilahaagreatdoor", sum := "492e92454feff166219be427ea436ce3e71e61b239001e588cb25617ca88d84d", func := "battledore/battledorelaw04.ParseBack", spec := "parseBack", inPlace := ["internal/bytealg.IndexByteString", "internal/abi.NoEscape"], unfollowed := true, recurses := true, named := ["battledore/lex.signs", "battledore/lex.words", "strconv.ErrSyntax", "strconv.ErrRange", "internal/strconv.uint64pow10", "math/bits.deBruijn32tab", "math/bits.deBruijn64tab", "battledore/parse.levels"], apart := false, laid := [("math/bits.deBruijn32tab", laid_math_bits_deBruijn32tab), ("math/bits.deBruijn64tab", laid_math_bits_deBruijn64tab), ("internal/strconv.uint64pow10", laid_internal_strconv_uint64pow10), ("strconv.ErrRange", laid_strconv_ErrRange), ("strconv.ErrSyntax", laid_strconv_ErrSyntax), ("battledore/lex.words", laid_battledore_lex_words), ("battledore/lex.signs", laid_battledore_lex_signs), ("battledore/parse.levels", laid_battledore_parse_levels)] }
def ParseBackSaid : Prop := parseBackRow.holds Tryz.pinned (OpenSpec.ofChange parseBackSpec)

/-- ITS FALSE NEIGHBOUR: 'it returns false'. Refute it at one input. -/
def parseBackWrong : ChangeSpec := { name := "parseBack", fn := fun _ => fun
  | [d] => { results := [.lit (.bool false)], args := [d] }
  | _ => none }
def ParseBackWrongFalsely : Prop := parseBackRow.holds Tryz.pinned (OpenSpec.ofChange parseBackWrong)

/-- 'battledorelaw04.ParseLevels': WHATEVER THE INPUT: true; the input reads as it did. -/
def parseLevelsSpec : ChangeSpec := { name := "parseLevels", fn := fun _ => fun
  | [d1, d2] => { results := [.lit (.bool true)], args := [d1, d2] }
  | _ => none }
def parseLevelsRow : OpenClaim := { program := "ythfjjcfceilahaagreatdoor", sum := "492e92454feff166219be427ea436ce3e71e61b239001e588cb25617ca88d84d", func := "battledore/battledorelaw04.ParseLevels", spec := "parseLevels", inPlace := ["internal/bytealg.IndexByteString", "internal/abi.NoEscape"], unfollowed := true, recurses := true, named := ["battledore/lex.signs", "battledore/lex.words", "strconv.ErrSyntax", "strconv.ErrRange", "internal/strconv.uint64pow10", "math/bits.deBruijn32tab", "math/bits.deBruijn64tab", "battledore/parse.levels"], apart := false, laid := [("math/bits.deBruijn32tab", laid_math_bits_deBruijn32tab), ("math/bits.deBruijn64tab", laid_math_bits_deBruijn64tab), ("internal/strconv.uint64pow10", laid_internal_strconv_uint64pow10), ("strconv.ErrRange", laid_strconv_ErrRange), ("strconv.ErrSyntax", laid_strconv_ErrSyntax), ("battledore/lex.words", laid_battledore_lex_words), ("battledore/lex.signs", laid_battledore_lex_signs), ("battledore/parse.levels", laid_battledore_parse_levels)] }
def ParseLevelsSaid : Prop := parseLevelsRow.holds Tryz.pinned (OpenSpec.ofChange parseLevelsSpec)

/-- ITS FALSE NEIGHBOUR: 'it returns false'. Refute it at one input. -/
def parseLevelsWrong : ChangeSpec := { name := "parseLevels", fn := fun _ => fun
  | [d1, d2] => { results := [.lit (.bool false)], args := [d1, d2] }
  | _ => none }
def ParseLevelsWrongFalsely : Prop := parseLevelsRow.holds Tryz.pinned (OpenSpec.ofChange parseLevelsWrong)

/-- 'battledorelaw04.ParseDeep': WHATEVER THE INPUT: true; the input reads as it did. -/
def parseDeepSpec : ChangeSpec := { name := "parseDeep", fn := fun _ => fun
  | [d] => { results := [.lit (.bool true)], args := [d] }
  | _ => none }
def parseDeepRow : OpenClaim := { program := "ythfjjcfceilahaagreatdoor", sum := "492e92454feff166219be427ea436ce3e71e61b239001e588cb25617ca88d84d", func := "battledore/battledorelaw04.ParseDeep", spec := "parseDeep", inPlace := ["internal/bytealg.IndexByteString", "internal/abi.NoEscape"], unfollowed := true, recurses := true, named := ["battledore/lex.signs", "battledore/lex.words", "strconv.ErrSyntax", "strconv.ErrRange", "internal/strconv.uint64pow10", "math/bits.deBruijn32tab", "math/bits.deBruijn64tab", "battledore/parse.levels"], apart := false, laid := [("math/bits.deBruijn32tab", laid_math_bits_deBruijn32tab), ("math/bits.deBruijn64tab", laid_math_bits_deBruijn64tab), ("internal/strconv.uint64pow10", laid_internal_strconv_uint64pow10), ("strconv.ErrRange", laid_strconv_ErrRange), ("strconv.ErrSyntax", laid_strconv_ErrSyntax), ("battledore/lex.words", laid_battledore_lex_words), ("battledore/lex.signs", laid_battledore_lex_signs), ("battledore/parse.levels", laid_battledore_parse_levels)] }
def ParseDeepSaid : Prop := parseDeepRow.holds Tryz.pinned (OpenSpec.ofChange parseDeepSpec)

/-- ITS FALSE NEIGHBOUR: 'it returns false'. Refute it at one input. -/
def parseDeepWrong : ChangeSpec := { name := "parseDeep", fn := fun _ => fun
  | [d] => { results := [.lit (.bool false)], args := [d] }
  | _ => none }
def ParseDeepWrongFalsely : Prop := parseDeepRow.holds Tryz.pinned (OpenSpec.ofChange parseDeepWrong)

/-- 'battledorelaw04.ParseNames': WHATEVER THE INPUT: true; the input reads as it did. -/
def parseNamesSpec : ChangeSpec := { name := "parseNames", fn := fun _ => fun
  | [d] => { results := [.lit (.bool true)], args := [d] }
  | _ => none }
def parseNamesRow : OpenClaim := { program := "ythfjjcfceilahaagreatdoor", sum := "492e92454feff166219be427ea436ce3e71e61b239001e588cb25617ca88d84d", func := "battledore/battledorelaw04.ParseNames", spec := "parseNames", inPlace := ["internal/bytealg.IndexByteString", "internal/abi.NoEscape"], unfollowed := true, recurses := true, named := ["battledore/lex.signs", "battledore/lex.words", "strconv.ErrSyntax", "strconv.ErrRange", "internal/strconv.uint64pow10", "math/bits.deBruijn32tab", "math/bits.deBruijn64tab", "battledore/parse.levels"], apart := false, laid := [("math/bits.deBruijn32tab", laid_math_bits_deBruijn32tab), ("math/bits.deBruijn64tab", laid_math_bits_deBruijn64tab), ("internal/strconv.uint64pow10", laid_internal_strconv_uint64pow10), ("strconv.ErrRange", laid_strconv_ErrRange), ("strconv.ErrSyntax", laid_strconv_ErrSyntax), ("battledore/lex.words", laid_battledore_lex_words), ("battledore/lex.signs", laid_battledore_lex_signs), ("battledore/parse.levels", laid_battledore_parse_levels)] }
def ParseNamesSaid : Prop := parseNamesRow.holds Tryz.pinned (OpenSpec.ofChange parseNamesSpec)

/-- ITS FALSE NEIGHBOUR: 'it returns false'. Refute it at one input. -/
def parseNamesWrong : ChangeSpec := { name := "parseNames", fn := fun _ => fun
  | [d] => { results := [.lit (.bool false)], args := [d] }
  | _ => none }
def ParseNamesWrongFalsely : Prop := parseNamesRow.holds Tryz.pinned (OpenSpec.ofChange parseNamesWrong)

/-- 'battledorelaw04.ParseSeveral': WHATEVER THE INPUT: true; the input reads as it did. -/
def parseSeveralSpec : ChangeSpec := { name := "parseSeveral", fn := fun _ => fun
  | [d1, d2] => { results := [.lit (.bool true)], args := [d1, d2] }
  | _ => none }
def parseSeveralRow : OpenClaim := { program := "ythfjjcfceilahaagreatdoor", sum := "492e92454feff166219be427ea436ce3e71e61b239001e588cb25617ca88d84d", func := "battledore/battledorelaw04.ParseSeveral", spec := "parseSeveral", inPlace := ["internal/bytealg.IndexByteString", "internal/abi.NoEscape"], unfollowed := true, recurses := true, named := ["battledore/lex.signs", "battledore/lex.words", "strconv.ErrSyntax", "strconv.ErrRange", "internal/strconv.uint64pow10", "math/bits.deBruijn32tab", "math/bits.deBruijn64tab", "battledore/parse.levels"], apart := false, laid := [("math/bits.deBruijn32tab", laid_math_bits_deBruijn32tab), ("math/bits.deBruijn64tab", laid_math_bits_deBruijn64tab), ("internal/strconv.uint64pow10", laid_internal_strconv_uint64pow10), ("strconv.ErrRange", laid_strconv_ErrRange), ("strconv.ErrSyntax", laid_strconv_ErrSyntax), ("battledore/lex.words", laid_battledore_lex_words), ("battledore/lex.signs", laid_battledore_lex_signs), ("battledore/parse.levels", laid_battledore_parse_levels)] }
def ParseSeveralSaid : Prop := parseSeveralRow.holds Tryz.pinned (OpenSpec.ofChange parseSeveralSpec)

/-- ITS FALSE NEIGHBOUR: 'it returns false'. Refute it at one input. -/
def parseSeveralWrong : ChangeSpec := { name := "parseSeveral", fn := fun _ => fun
  | [d1, d2] => { results := [.lit (.bool false)], args := [d1, d2] }
  | _ => none }
def ParseSeveralWrongFalsely : Prop := parseSeveralRow.holds Tryz.pinned (OpenSpec.ofChange parseSeveralWrong)

/-- 'battledorelaw04.ParseLists': WHATEVER THE INPUT: true; the input reads as it did. -/
def parseListsSpec : ChangeSpec := { name := "parseLists", fn := fun _ => fun
  | [d1, d2] => { results := [.lit (.bool true)], args := [d1, d2] }
  | _ => none }
def parseListsRow : OpenClaim := { program := "ythfjjcfceilahaagreatdoor", sum := "492e92454feff166219be427ea436ce3e71e61b239001e588cb25617ca88d84d", func := "battledore/battledorelaw04.ParseLists", spec := "parseLists", inPlace := ["internal/bytealg.IndexByteString", "internal/abi.NoEscape"], unfollowed := true, recurses := true, named := ["battledore/lex.signs", "battledore/lex.words", "strconv.ErrSyntax", "strconv.ErrRange", "internal/strconv.uint64pow10", "math/bits.deBruijn32tab", "math/bits.deBruijn64tab", "battledore/parse.levels"], apart := false, laid := [("math/bits.deBruijn32tab", laid_math_bits_deBruijn32tab), ("math/bits.deBruijn64tab", laid_math_bits_deBruijn64tab), ("internal/strconv.uint64pow10", laid_internal_strconv_uint64pow10), ("strconv.ErrRange", laid_strconv_ErrRange), ("strconv.ErrSyntax", laid_strconv_ErrSyntax), ("battledore/lex.words", laid_battledore_lex_words), ("battledore/lex.signs", laid_battledore_lex_signs), ("battledore/parse.levels", laid_battledore_parse_levels)] }
def ParseListsSaid : Prop := parseListsRow.holds Tryz.pinned (OpenSpec.ofChange parseListsSpec)

/-- ITS FALSE NEIGHBOUR: 'it returns false'. Refute it at one input. -/
def parseListsWrong : ChangeSpec := { name := "parseLists", fn := fun _ => fun
  | [d1, d2] => { results := [.lit (.bool false)], args := [d1, d2] }
  | _ => none }
def ParseListsWrongFalsely : Prop := parseListsRow.holds Tryz.pinned (OpenSpec.ofChange parseListsWrong)

/-- 'battledorelaw04.ParseBrackets': WHATEVER THE INPUT: true; the input reads as it did. -/
def parseBracketsSpec : ChangeSpec := { name := "parseBrackets", fn := fun _ => fun
  | [d] => { results := [.lit (.bool true)], args := [d] }
  | _ => none }
def parseBracketsRow : OpenClaim := { program := "ythfjjcfceilahaagreatdoor", sum := "492e92454feff166219be427ea436ce3e71e61b239001e588cb25617ca88d84d", func := "battledore/battledorelaw04.ParseBrackets", spec := "parseBrackets", inPlace := ["internal/bytealg.IndexByteString", "internal/abi.NoEscape"], unfollowed := true, recurses := true, named := ["battledore/lex.signs", "battledore/lex.words", "strconv.ErrSyntax", "strconv.ErrRange", "internal/strconv.uint64pow10", "math/bits.deBruijn32tab", "math/bits.deBruijn64tab", "battledore/parse.levels"], apart := false, laid := [("math/bits.deBruijn32tab", laid_math_bits_deBruijn32tab), ("math/bits.deBruijn64tab", laid_math_bits_deBruijn64tab), ("internal/strconv.uint64pow10", laid_internal_strconv_uint64pow10), ("strconv.ErrRange", laid_strconv_ErrRange), ("strconv.ErrSyntax", laid_strconv_ErrSyntax), ("battledore/lex.words", laid_battledore_lex_words), ("battledore/lex.signs", laid_battledore_lex_signs), ("battledore/parse.levels", laid_battledore_parse_levels)] }
def ParseBracketsSaid : Prop := parseBracketsRow.holds Tryz.pinned (OpenSpec.ofChange parseBracketsSpec)

/-- ITS FALSE NEIGHBOUR: 'it returns false'. Refute it at one input. -/
def parseBracketsWrong : ChangeSpec := { name := "parseBrackets", fn := fun _ => fun
  | [d] => { results := [.lit (.bool false)], args := [d] }
  | _ => none }
def ParseBracketsWrongFalsely : Prop := parseBracketsRow.holds Tryz.pinned (OpenSpec.ofChange parseBracketsWrong)

/- THE SECOND FORM. 'bulk': how many values and letters a reading holds, each counted each time it is reached (what is shared counts as often as it is met; a slice's spare places count too). A statement '..UptoSaid' is the law's where the arguments, and the package variables that the reading takes, are together of bulk at most 1048576: NARROWER than '..Said'. Prove '..Said' where nothing that the law and all that it calls make is longer than what came in: it says more and counts as full. Else prove '..UptoSaid'. A law counts once. -/
mutual
def uptoBulk {H : Type} : DataW H → Nat
  | .lit (.string bytes) => bytes.length + 1
  | .lit _ => 1
  | .nil => 1
  | .ptr d => uptoBulk d + 1
  | .slice elems spare => uptoBulkAll elems + uptoBulkAll spare + 1
  | .agg parts => uptoBulkAll parts + 1
  | .iface _ d => uptoBulk d + 1
  | .map entries => uptoBulkEntries entries + 1
  | .held _ => 1
def uptoBulkAll {H : Type} : List (DataW H) → Nat
  | [] => 0
  | d :: r => uptoBulk d + uptoBulkAll r
def uptoBulkEntries {H : Type} : List (Lit × DataW H) → Nat
  | [] => 0
  | x :: r => uptoBulkEntry x + uptoBulkEntries r
def uptoBulkEntry {H : Type} : Lit × DataW H → Nat
  | (.string bytes, d) => bytes.length + uptoBulk d + 1
  | (_, d) => uptoBulk d + 1
 end
def uptoSmall : (H : Type) → List (DataW H) → Bool := fun _ ds => decide (uptoBulkAll ds ≤ 1048576)
def OpenSpec.upto (s : _root_.Go.ChangeSpec) : _root_.Go.OpenSpec := { _root_.Go.OpenSpec.ofChange s with cond := some uptoSmall }

/-- 'battledorelaw04.ParseBack', WHERE WHAT IT READS IS OF BULK AT MOST 1048576: true; the input reads as it did. -/
def parseBackUptoRow : OpenClaim := { program := "ythfjjcfceilahaagreatdoor", sum := "492e92454feff166219be427ea436ce3e71e61b239001e588cb25617ca88d84d", func := "battledore/battledorelaw04.ParseBack", spec := "parseBack", inPlace := ["internal/bytealg.IndexByteString", "internal/abi.NoEscape"], unfollowed := true, recurses := true, named := ["battledore/lex.signs", "battledore/lex.words", "strconv.ErrSyntax", "strconv.ErrRange", "internal/strconv.uint64pow10", "math/bits.deBruijn32tab", "math/bits.deBruijn64tab", "battledore/parse.levels"], apart := false, laid := [("math/bits.deBruijn32tab", laid_math_bits_deBruijn32tab), ("math/bits.deBruijn64tab", laid_math_bits_deBruijn64tab), ("internal/strconv.uint64pow10", laid_internal_strconv_uint64pow10), ("strconv.ErrRange", laid_strconv_ErrRange), ("strconv.ErrSyntax", laid_strconv_ErrSyntax), ("battledore/lex.words", laid_battledore_lex_words), ("battledore/lex.signs", laid_battledore_lex_signs), ("battledore/parse.levels", laid_battledore_parse_levels)], narrowed := true }
def ParseBackUptoSaid : Prop := parseBackUptoRow.holds Tryz.pinned (OpenSpec.upto parseBackSpec)

/-- 'battledorelaw04.ParseLevels', WHERE WHAT IT READS IS OF BULK AT MOST 1048576: true; the input reads as it did. -/
def parseLevelsUptoRow : OpenClaim := { program := "ythfjjcfceilahaagreatdoor", sum := "492e92454feff166219be427ea436ce3e71e61b239001e588cb25617ca88d84d", func := "battledore/battledorelaw04.ParseLevels", spec := "parseLevels", inPlace := ["internal/bytealg.IndexByteString", "internal/abi.NoEscape"], unfollowed := true, recurses := true, named := ["battledore/lex.signs", "battledore/lex.words", "strconv.ErrSyntax", "strconv.ErrRange", "internal/strconv.uint64pow10", "math/bits.deBruijn32tab", "math/bits.deBruijn64tab", "battledore/parse.levels"], apart := false, laid := [("math/bits.deBruijn32tab", laid_math_bits_deBruijn32tab), ("math/bits.deBruijn64tab", laid_math_bits_deBruijn64tab), ("internal/strconv.uint64pow10", laid_internal_strconv_uint64pow10), ("strconv.ErrRange", laid_strconv_ErrRange), ("strconv.ErrSyntax", laid_strconv_ErrSyntax), ("battledore/lex.words", laid_battledore_lex_words), ("battledore/lex.signs", laid_battledore_lex_signs), ("battledore/parse.levels", laid_battledore_parse_levels)], narrowed := true }
def ParseLevelsUptoSaid : Prop := parseLevelsUptoRow.holds Tryz.pinned (OpenSpec.upto parseLevelsSpec)

/-- 'battledorelaw04.ParseDeep', WHERE WHAT IT READS IS OF BULK AT MOST 1048576: true; the input reads as it did. -/
def parseDeepUptoRow : OpenClaim := { program := "ythfjjcfceilahaagreatdoor", sum := "492e92454feff166219be427ea436ce3e71e61b239001e588cb25617ca88d84d", func := "battledore/battledorelaw04.ParseDeep", spec := "parseDeep", inPlace := ["internal/bytealg.IndexByteString", "internal/abi.NoEscape"], unfollowed := true, recurses := true, named := ["battledore/lex.signs", "battledore/lex.words", "strconv.ErrSyntax", "strconv.ErrRange", "internal/strconv.uint64pow10", "math/bits.deBruijn32tab", "math/bits.deBruijn64tab", "battledore/parse.levels"], apart := false, laid := [("math/bits.deBruijn32tab", laid_math_bits_deBruijn32tab), ("math/bits.deBruijn64tab", laid_math_bits_deBruijn64tab), ("internal/strconv.uint64pow10", laid_internal_strconv_uint64pow10), ("strconv.ErrRange", laid_strconv_ErrRange), ("strconv.ErrSyntax", laid_strconv_ErrSyntax), ("battledore/lex.words", laid_battledore_lex_words), ("battledore/lex.signs", laid_battledore_lex_signs), ("battledore/parse.levels", laid_battledore_parse_levels)], narrowed := true }
def ParseDeepUptoSaid : Prop := parseDeepUptoRow.holds Tryz.pinned (OpenSpec.upto parseDeepSpec)

/-- 'battledorelaw04.ParseNames', WHERE WHAT IT READS IS OF BULK AT MOST 1048576: true; the input reads as it did. -/
def parseNamesUptoRow : OpenClaim := { program := "ythfjjcfceilahaagreatdoor", sum := "492e92454feff166219be427ea436ce3e71e61b239001e588cb25617ca88d84d", func := "battledore/battledorelaw04.ParseNames", spec := "parseNames", inPlace := ["internal/bytealg.IndexByteString", "internal/abi.NoEscape"], unfollowed := true, recurses := true, named := ["battledore/lex.signs", "battledore/lex.words", "strconv.ErrSyntax", "strconv.ErrRange", "internal/strconv.uint64pow10", "math/bits.deBruijn32tab", "math/bits.deBruijn64tab", "battledore/parse.levels"], apart := false, laid := [("math/bits.deBruijn32tab", laid_math_bits_deBruijn32tab), ("math/bits.deBruijn64tab", laid_math_bits_deBruijn64tab), ("internal/strconv.uint64pow10", laid_internal_strconv_uint64pow10), ("strconv.ErrRange", laid_strconv_ErrRange), ("strconv.ErrSyntax", laid_strconv_ErrSyntax), ("battledore/lex.words", laid_battledore_lex_words), ("battledore/lex.signs", laid_battledore_lex_signs), ("battledore/parse.levels", laid_battledore_parse_levels)], narrowed := true }
def ParseNamesUptoSaid : Prop := parseNamesUptoRow.holds Tryz.pinned (OpenSpec.upto parseNamesSpec)

/-- 'battledorelaw04.ParseSeveral', WHERE WHAT IT READS IS OF BULK AT MOST 1048576: true; the input reads as it did. -/
def parseSeveralUptoRow : OpenClaim := { program := "ythfjjcfceilahaagreatdoor", sum := "492e92454feff166219be427ea436ce3e71e61b239001e588cb25617ca88d84d", func := "battledore/battledorelaw04.ParseSeveral", spec := "parseSeveral", inPlace := ["internal/bytealg.IndexByteString", "internal/abi.NoEscape"], unfollowed := true, recurses := true, named := ["battledore/lex.signs", "battledore/lex.words", "strconv.ErrSyntax", "strconv.ErrRange", "internal/strconv.uint64pow10", "math/bits.deBruijn32tab", "math/bits.deBruijn64tab", "battledore/parse.levels"], apart := false, laid := [("math/bits.deBruijn32tab", laid_math_bits_deBruijn32tab), ("math/bits.deBruijn64tab", laid_math_bits_deBruijn64tab), ("internal/strconv.uint64pow10", laid_internal_strconv_uint64pow10), ("strconv.ErrRange", laid_strconv_ErrRange), ("strconv.ErrSyntax", laid_strconv_ErrSyntax), ("battledore/lex.words", laid_battledore_lex_words), ("battledore/lex.signs", laid_battledore_lex_signs), ("battledore/parse.levels", laid_battledore_parse_levels)], narrowed := true }
def ParseSeveralUptoSaid : Prop := parseSeveralUptoRow.holds Tryz.pinned (OpenSpec.upto parseSeveralSpec)

/-- 'battledorelaw04.ParseLists', WHERE WHAT IT READS IS OF BULK AT MOST 1048576: true; the input reads as it did. -/
def parseListsUptoRow : OpenClaim := { program := "ythfjjcfceilahaagreatdoor", sum := "492e92454feff166219be427ea436ce3e71e61b239001e588cb25617ca88d84d", func := "battledore/battledorelaw04.ParseLists", spec := "parseLists", inPlace := ["internal/bytealg.IndexByteString", "internal/abi.NoEscape"], unfollowed := true, recurses := true, named := ["battledore/lex.signs", "battledore/lex.words", "strconv.ErrSyntax", "strconv.ErrRange", "internal/strconv.uint64pow10", "math/bits.deBruijn32tab", "math/bits.deBruijn64tab", "battledore/parse.levels"], apart := false, laid := [("math/bits.deBruijn32tab", laid_math_bits_deBruijn32tab), ("math/bits.deBruijn64tab", laid_math_bits_deBruijn64tab), ("internal/strconv.uint64pow10", laid_internal_strconv_uint64pow10), ("strconv.ErrRange", laid_strconv_ErrRange), ("strconv.ErrSyntax", laid_strconv_ErrSyntax), ("battledore/lex.words", laid_battledore_lex_words), ("battledore/lex.signs", laid_battledore_lex_signs), ("battledore/parse.levels", laid_battledore_parse_levels)], narrowed := true }
def ParseListsUptoSaid : Prop := parseListsUptoRow.holds Tryz.pinned (OpenSpec.upto parseListsSpec)

/-- 'battledorelaw04.ParseBrackets', WHERE WHAT IT READS IS OF BULK AT MOST 1048576: true; the input reads as it did. -/
def parseBracketsUptoRow : OpenClaim := { program := "ythfjjcfceilahaagreatdoor", sum := "492e92454feff166219be427ea436ce3e71e61b239001e588cb25617ca88d84d", func := "battledore/battledorelaw04.ParseBrackets", spec := "parseBrackets", inPlace := ["internal/bytealg.IndexByteString", "internal/abi.NoEscape"], unfollowed := true, recurses := true, named := ["battledore/lex.signs", "battledore/lex.words", "strconv.ErrSyntax", "strconv.ErrRange", "internal/strconv.uint64pow10", "math/bits.deBruijn32tab", "math/bits.deBruijn64tab", "battledore/parse.levels"], apart := false, laid := [("math/bits.deBruijn32tab", laid_math_bits_deBruijn32tab), ("math/bits.deBruijn64tab", laid_math_bits_deBruijn64tab), ("internal/strconv.uint64pow10", laid_internal_strconv_uint64pow10), ("strconv.ErrRange", laid_strconv_ErrRange), ("strconv.ErrSyntax", laid_strconv_ErrSyntax), ("battledore/lex.words", laid_battledore_lex_words), ("battledore/lex.signs", laid_battledore_lex_signs), ("battledore/parse.levels", laid_battledore_parse_levels)], narrowed := true }
def ParseBracketsUptoSaid : Prop := parseBracketsUptoRow.holds Tryz.pinned (OpenSpec.upto parseBracketsSpec)

end Rows
end Go.Proofs.YthfjjcfceilahaaGreatDoor
