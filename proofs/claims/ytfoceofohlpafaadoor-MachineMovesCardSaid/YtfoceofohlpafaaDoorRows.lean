/-
  NARROWER THAN 'FOR EVERY INPUT', by the rows' own cells (each row's printed sentence says how): MachineReckons: laid · MachineFuel: laid · MachineMoves: laid · MachineTexts: laid · MachineDigits: laid · MachineRaises: laid · MachineGoes: laid · MachineErrs: laid.
  DERIVED. THE GIVEN ROWS OF THIS SEAT. 8 by the template 'for every input the law returns true; each argument reads behind the call as it read before'; 0 by the template 'total and deterministic' (their statements: YtfoceofohlpafaaDoorTotals.lean).
  GIVEN WITH THE SEED: the statements are not yours to turn. If you find one false, say at which input.
  Laid BY PROGRAM, IN A SANDBOX (cutbox-rows.mjs): the forced cells as the released guide's own fill.sh prints them over the translation 5c926acd3ee54a9e… (all of the seat's roots in one cut). By AI agents, Wed Nov 11 2026. No macro, syntax, notation, axiom, sorry.
-/
import Derived.Test.YtfoceofohlpafaaDoorChecked
import GoSem.Claim
import GoSem.ClaimJoined
import GoSem.ClaimMapViews
import Derived.JoinedTies
import Derived.KernelRfl
namespace Go.Proofs.YtfoceofohlpafaaDoor
/- THE CELL 'sum', in the pinned program and in every row, IS THE sha256 OF THE DUMP (.gsa) THAT YtfoceofohlpafaaDoorProg.lean LOADS. Nothing in Lean hashes anything: it is a label: what it is worth is what the hold of that sum in a sandbox is worth. -/
noncomputable def Tryd.pinned : Pinned := { name := "ytfoceofohlpafaadoor", sum := "5c926acd3ee54a9e6f8533921667a25b92435446c0a7004291b85f12412f9f8d", checked := Tryd.checked }
namespace Rows
def none {H : Type} : Left H := { results := [], args := [] }

/- WHAT THE LISTED PACKAGE-LEVEL VARIABLES READ AS WHEN THE CALL BEGINS. Each datum BY PROGRAM (the guide's laid-datum.mjs) off the statement by which the dump's own 'gosem.cut.vars' lays the variable. In a bare row this is a premise. The card (YtfoceofohlpafaaDoorCards.lean) ties it to the program's text. -/
def laid_math_bits_deBruijn32tab {H : Type} : DataW H := .agg [.lit (.int .u8 0), .lit (.int .u8 1), .lit (.int .u8 28), .lit (.int .u8 2), .lit (.int .u8 29), .lit (.int .u8 14), .lit (.int .u8 24), .lit (.int .u8 3), .lit (.int .u8 30), .lit (.int .u8 22), .lit (.int .u8 20), .lit (.int .u8 15), .lit (.int .u8 25), .lit (.int .u8 17), .lit (.int .u8 4), .lit (.int .u8 8), .lit (.int .u8 31), .lit (.int .u8 27), .lit (.int .u8 13), .lit (.int .u8 23), .lit (.int .u8 21), .lit (.int .u8 19), .lit (.int .u8 16), .lit (.int .u8 7), .lit (.int .u8 26), .lit (.int .u8 12), .lit (.int .u8 18), .lit (.int .u8 6), .lit (.int .u8 11), .lit (.int .u8 5), .lit (.int .u8 10), .lit (.int .u8 9)]
def laid_math_bits_deBruijn64tab {H : Type} : DataW H := .agg [.lit (.int .u8 0), .lit (.int .u8 1), .lit (.int .u8 56), .lit (.int .u8 2), .lit (.int .u8 57), .lit (.int .u8 49), .lit (.int .u8 28), .lit (.int .u8 3), .lit (.int .u8 61), .lit (.int .u8 58), .lit (.int .u8 42), .lit (.int .u8 50), .lit (.int .u8 38), .lit (.int .u8 29), .lit (.int .u8 17), .lit (.int .u8 4), .lit (.int .u8 62), .lit (.int .u8 47), .lit (.int .u8 59), .lit (.int .u8 36), .lit (.int .u8 45), .lit (.int .u8 43), .lit (.int .u8 51), .lit (.int .u8 22), .lit (.int .u8 53), .lit (.int .u8 39), .lit (.int .u8 33), .lit (.int .u8 30), .lit (.int .u8 24), .lit (.int .u8 18), .lit (.int .u8 12), .lit (.int .u8 5), .lit (.int .u8 63), .lit (.int .u8 55), .lit (.int .u8 48), .lit (.int .u8 27), .lit (.int .u8 60), .lit (.int .u8 41), .lit (.int .u8 37), .lit (.int .u8 16), .lit (.int .u8 46), .lit (.int .u8 35), .lit (.int .u8 44), .lit (.int .u8 21), .lit (.int .u8 52), .lit (.int .u8 32), .lit (.int .u8 23), .lit (.int .u8 11), .lit (.int .u8 54), .lit (.int .u8 26), .lit (.int .u8 40), .lit (.int .u8 15), .lit (.int .u8 34), .lit (.int .u8 20), .lit (.int .u8 31), .lit (.int .u8 10), .lit (.int .u8 25), .lit (.int .u8 14), .lit (.int .u8 19), .lit (.int .u8 9), .lit (.int .u8 13), .lit (.int .u8 8), .lit (.int .u8 7), .lit (.int .u8 6)]
def laid_internal_strconv_uint64pow10 {H : Type} : DataW H := .agg [.lit (.int .u64 1), .lit (.int .u64 10), .lit (.int .u64 100), .lit (.int .u64 1000), .lit (.int .u64 10000), .lit (.int .u64 100000), .lit (.int .u64 1000000), .lit (.int .u64 10000000), .lit (.int .u64 100000000), .lit (.int .u64 1000000000), .lit (.int .u64 10000000000), .lit (.int .u64 100000000000), .lit (.int .u64 1000000000000), .lit (.int .u64 10000000000000), .lit (.int .u64 100000000000000), .lit (.int .u64 1000000000000000), .lit (.int .u64 10000000000000000), .lit (.int .u64 100000000000000000), .lit (.int .u64 1000000000000000000), .lit (.int .u64 10000000000000000000)]
def laid_battledore_code_takes {H : Type} : DataW H := .agg [.lit (.int .i64 0), .lit (.int .i64 0), .lit (.int .i64 0), .lit (.int .i64 0), .lit (.int .i64 0), .lit (.int .i64 0), .lit (.int .i64 (-1)), .lit (.int .i64 2), .lit (.int .i64 1), .lit (.int .i64 (-1)), .lit (.int .i64 1), .lit (.int .i64 1), .lit (.int .i64 0), .lit (.int .i64 1), .lit (.int .i64 1), .lit (.int .i64 1), .lit (.int .i64 1), .lit (.int .i64 1), .lit (.int .i64 (-1)), .lit (.int .i64 1), .lit (.int .i64 2), .lit (.int .i64 1), .lit (.int .i64 1), .lit (.int .i64 1), .lit (.int .i64 0), .lit (.int .i64 0), .lit (.int .i64 0)]
def laid_battledore_code_leaves {H : Type} : DataW H := .agg [.lit (.int .i64 1), .lit (.int .i64 1), .lit (.int .i64 1), .lit (.int .i64 1), .lit (.int .i64 1), .lit (.int .i64 1), .lit (.int .i64 1), .lit (.int .i64 1), .lit (.int .i64 0), .lit (.int .i64 1), .lit (.int .i64 1), .lit (.int .i64 1), .lit (.int .i64 0), .lit (.int .i64 0), .lit (.int .i64 1), .lit (.int .i64 1), .lit (.int .i64 1), .lit (.int .i64 1), .lit (.int .i64 1), .lit (.int .i64 0), .lit (.int .i64 1), .lit (.int .i64 1), .lit (.int .i64 1), .lit (.int .i64 1), .lit (.int .i64 0), .lit (.int .i64 0), .lit (.int .i64 1)]
def laid_bytes_ErrTooLarge {H : Type} : DataW H := .iface "*errors.errorString" (.ptr (.agg [.lit (.string [98, 121, 116, 101, 115, 46, 66, 117, 102, 102, 101, 114, 58, 32, 116, 111, 111, 32, 108, 97, 114, 103, 101])]))

/-- 'battledorelaw10.MachineReckons': WHATEVER THE INPUT: true; the input reads as it did. -/
def machineReckonsSpec : ChangeSpec := { name := "machineReckons", fn := fun _ => fun
  | [d1, d2, d3] => { results := [.lit (.bool true)], args := [d1, d2, d3] }
  | _ => none }
def machineReckonsRow : OpenClaim := { program := "ytfoceofohlpafaadoor", sum := "5c926acd3ee54a9e6f8533921667a25b92435446c0a7004291b85f12412f9f8d", func := "battledore/battledorelaw10.MachineReckons", spec := "machineReckons", inPlace := ["internal/abi.NoEscape"], unfollowed := true, recurses := true, named := ["battledore/code.takes", "battledore/code.leaves", "bytes.ErrTooLarge", "internal/strconv.uint64pow10", "math/bits.deBruijn32tab", "math/bits.deBruijn64tab"], apart := false, laid := [("math/bits.deBruijn32tab", laid_math_bits_deBruijn32tab), ("math/bits.deBruijn64tab", laid_math_bits_deBruijn64tab), ("internal/strconv.uint64pow10", laid_internal_strconv_uint64pow10), ("battledore/code.takes", laid_battledore_code_takes), ("battledore/code.leaves", laid_battledore_code_leaves), ("bytes.ErrTooLarge", laid_bytes_ErrTooLarge)] }
def MachineReckonsSaid : Prop := machineReckonsRow.holds Tryd.pinned (OpenSpec.ofChange machineReckonsSpec)

/-- ITS FALSE NEIGHBOUR: 'it returns false'. Refute it at one input. -/
def machineReckonsWrong : ChangeSpec := { name := "machineReckons", fn := fun _ => fun
  | [d1, d2, d3] => { results := [.lit (.bool false)], args := [d1, d2, d3] }
  | _ => none }
def MachineReckonsWrongFalsely : Prop := machineReckonsRow.holds Tryd.pinned (OpenSpec.ofChange machineReckonsWrong)

/-- 'battledorelaw10.MachineFuel': WHATEVER THE INPUT: true; the input reads as it did. -/
def machineFuelSpec : ChangeSpec := { name := "machineFuel", fn := fun _ => fun
  | [d1, d2] => { results := [.lit (.bool true)], args := [d1, d2] }
  | _ => none }
def machineFuelRow : OpenClaim := { program := "ytfoceofohlpafaadoor", sum := "5c926acd3ee54a9e6f8533921667a25b92435446c0a7004291b85f12412f9f8d", func := "battledore/battledorelaw10.MachineFuel", spec := "machineFuel", inPlace := ["internal/abi.NoEscape"], unfollowed := true, recurses := true, named := ["battledore/code.takes", "battledore/code.leaves", "bytes.ErrTooLarge", "internal/strconv.uint64pow10", "math/bits.deBruijn32tab", "math/bits.deBruijn64tab"], apart := false, laid := [("math/bits.deBruijn32tab", laid_math_bits_deBruijn32tab), ("math/bits.deBruijn64tab", laid_math_bits_deBruijn64tab), ("internal/strconv.uint64pow10", laid_internal_strconv_uint64pow10), ("battledore/code.takes", laid_battledore_code_takes), ("battledore/code.leaves", laid_battledore_code_leaves), ("bytes.ErrTooLarge", laid_bytes_ErrTooLarge)] }
def MachineFuelSaid : Prop := machineFuelRow.holds Tryd.pinned (OpenSpec.ofChange machineFuelSpec)

/-- ITS FALSE NEIGHBOUR: 'it returns false'. Refute it at one input. -/
def machineFuelWrong : ChangeSpec := { name := "machineFuel", fn := fun _ => fun
  | [d1, d2] => { results := [.lit (.bool false)], args := [d1, d2] }
  | _ => none }
def MachineFuelWrongFalsely : Prop := machineFuelRow.holds Tryd.pinned (OpenSpec.ofChange machineFuelWrong)

/-- 'battledorelaw10.MachineMoves': WHATEVER THE INPUT: true; the input reads as it did. -/
def machineMovesSpec : ChangeSpec := { name := "machineMoves", fn := fun _ => fun
  | [d1, d2] => { results := [.lit (.bool true)], args := [d1, d2] }
  | _ => none }
def machineMovesRow : OpenClaim := { program := "ytfoceofohlpafaadoor", sum := "5c926acd3ee54a9e6f8533921667a25b92435446c0a7004291b85f12412f9f8d", func := "battledore/battledorelaw10.MachineMoves", spec := "machineMoves", inPlace := ["internal/abi.NoEscape"], unfollowed := true, recurses := true, named := ["battledore/code.takes", "battledore/code.leaves", "bytes.ErrTooLarge", "internal/strconv.uint64pow10", "math/bits.deBruijn32tab", "math/bits.deBruijn64tab"], apart := false, laid := [("math/bits.deBruijn32tab", laid_math_bits_deBruijn32tab), ("math/bits.deBruijn64tab", laid_math_bits_deBruijn64tab), ("internal/strconv.uint64pow10", laid_internal_strconv_uint64pow10), ("battledore/code.takes", laid_battledore_code_takes), ("battledore/code.leaves", laid_battledore_code_leaves), ("bytes.ErrTooLarge", laid_bytes_ErrTooLarge)] }
def MachineMovesSaid : Prop := machineMovesRow.holds Tryd.pinned (OpenSpec.ofChange machineMovesSpec)

/-- ITS FALSE NEIGHBOUR: 'it returns false'. Refute it at one input. -/
def machineMovesWrong : ChangeSpec := { name := "machineMoves", fn := fun _ => fun
  | [d1, d2] => { results := [.lit (.bool false)], args := [d1, d2] }
  | _ => none }
def MachineMovesWrongFalsely : Prop := machineMovesRow.holds Tryd.pinned (OpenSpec.ofChange machineMovesWrong)

/-- 'battledorelaw10.MachineTexts': WHATEVER THE INPUT: true; the input reads as it did. -/
def machineTextsSpec : ChangeSpec := { name := "machineTexts", fn := fun _ => fun
  | [d1, d2] => { results := [.lit (.bool true)], args := [d1, d2] }
  | _ => none }
def machineTextsRow : OpenClaim := { program := "ytfoceofohlpafaadoor", sum := "5c926acd3ee54a9e6f8533921667a25b92435446c0a7004291b85f12412f9f8d", func := "battledore/battledorelaw10.MachineTexts", spec := "machineTexts", inPlace := ["internal/abi.NoEscape"], unfollowed := true, recurses := true, named := ["battledore/code.takes", "battledore/code.leaves", "bytes.ErrTooLarge", "internal/strconv.uint64pow10", "math/bits.deBruijn32tab", "math/bits.deBruijn64tab"], apart := false, laid := [("math/bits.deBruijn32tab", laid_math_bits_deBruijn32tab), ("math/bits.deBruijn64tab", laid_math_bits_deBruijn64tab), ("internal/strconv.uint64pow10", laid_internal_strconv_uint64pow10), ("battledore/code.takes", laid_battledore_code_takes), ("battledore/code.leaves", laid_battledore_code_leaves), ("bytes.ErrTooLarge", laid_bytes_ErrTooLarge)] }
def MachineTextsSaid : Prop := machineTextsRow.holds Tryd.pinned (OpenSpec.ofChange machineTextsSpec)

/-- ITS FALSE NEIGHBOUR: 'it returns false'. Refute it at one input. -/
def machineTextsWrong : ChangeSpec := { name := "machineTexts", fn := fun _ => fun
  | [d1, d2] => { results := [.lit (.bool false)], args := [d1, d2] }
  | _ => none }
def MachineTextsWrongFalsely : Prop := machineTextsRow.holds Tryd.pinned (OpenSpec.ofChange machineTextsWrong)

/-- 'battledorelaw10.MachineDigits': WHATEVER THE INPUT: true; the input reads as it did. -/
def machineDigitsSpec : ChangeSpec := { name := "machineDigits", fn := fun _ => fun
  | [d] => { results := [.lit (.bool true)], args := [d] }
  | _ => none }
def machineDigitsRow : OpenClaim := { program := "ytfoceofohlpafaadoor", sum := "5c926acd3ee54a9e6f8533921667a25b92435446c0a7004291b85f12412f9f8d", func := "battledore/battledorelaw10.MachineDigits", spec := "machineDigits", inPlace := ["internal/abi.NoEscape"], unfollowed := true, recurses := true, named := ["battledore/code.takes", "battledore/code.leaves", "bytes.ErrTooLarge", "internal/strconv.uint64pow10", "math/bits.deBruijn32tab", "math/bits.deBruijn64tab"], apart := false, laid := [("math/bits.deBruijn32tab", laid_math_bits_deBruijn32tab), ("math/bits.deBruijn64tab", laid_math_bits_deBruijn64tab), ("internal/strconv.uint64pow10", laid_internal_strconv_uint64pow10), ("battledore/code.takes", laid_battledore_code_takes), ("battledore/code.leaves", laid_battledore_code_leaves), ("bytes.ErrTooLarge", laid_bytes_ErrTooLarge)] }
def MachineDigitsSaid : Prop := machineDigitsRow.holds Tryd.pinned (OpenSpec.ofChange machineDigitsSpec)

/-- ITS FALSE NEIGHBOUR: 'it returns false'. Refute it at one input. -/
def machineDigitsWrong : ChangeSpec := { name := "machineDigits", fn := fun _ => fun
  | [d] => { results := [.lit (.bool false)], args := [d] }
  | _ => none }
def MachineDigitsWrongFalsely : Prop := machineDigitsRow.holds Tryd.pinned (OpenSpec.ofChange machineDigitsWrong)

/-- 'battledorelaw10.MachineRaises': WHATEVER THE INPUT: true; the input reads as it did. -/
def machineRaisesSpec : ChangeSpec := { name := "machineRaises", fn := fun _ => fun
  | [d1, d2, d3] => { results := [.lit (.bool true)], args := [d1, d2, d3] }
  | _ => none }
def machineRaisesRow : OpenClaim := { program := "ytfoceofohlpafaadoor", sum := "5c926acd3ee54a9e6f8533921667a25b92435446c0a7004291b85f12412f9f8d", func := "battledore/battledorelaw10.MachineRaises", spec := "machineRaises", inPlace := ["internal/abi.NoEscape"], unfollowed := true, recurses := true, named := ["battledore/code.takes", "battledore/code.leaves", "bytes.ErrTooLarge", "internal/strconv.uint64pow10", "math/bits.deBruijn32tab", "math/bits.deBruijn64tab"], apart := false, laid := [("math/bits.deBruijn32tab", laid_math_bits_deBruijn32tab), ("math/bits.deBruijn64tab", laid_math_bits_deBruijn64tab), ("internal/strconv.uint64pow10", laid_internal_strconv_uint64pow10), ("battledore/code.takes", laid_battledore_code_takes), ("battledore/code.leaves", laid_battledore_code_leaves), ("bytes.ErrTooLarge", laid_bytes_ErrTooLarge)] }
def MachineRaisesSaid : Prop := machineRaisesRow.holds Tryd.pinned (OpenSpec.ofChange machineRaisesSpec)

/-- ITS FALSE NEIGHBOUR: 'it returns false'. Refute it at one input. -/
def machineRaisesWrong : ChangeSpec := { name := "machineRaises", fn := fun _ => fun
  | [d1, d2, d3] => { results := [.lit (.bool false)], args := [d1, d2, d3] }
  | _ => none }
def MachineRaisesWrongFalsely : Prop := machineRaisesRow.holds Tryd.pinned (OpenSpec.ofChange machineRaisesWrong)

/-- 'battledorelaw10.MachineGoes': WHATEVER THE INPUT: true; the input reads as it did. -/
def machineGoesSpec : ChangeSpec := { name := "machineGoes", fn := fun _ => fun
  | [d1, d2, d3, d4] => { results := [.lit (.bool true)], args := [d1, d2, d3, d4] }
  | _ => none }
def machineGoesRow : OpenClaim := { program := "ytfoceofohlpafaadoor", sum := "5c926acd3ee54a9e6f8533921667a25b92435446c0a7004291b85f12412f9f8d", func := "battledore/battledorelaw10.MachineGoes", spec := "machineGoes", inPlace := ["internal/abi.NoEscape"], unfollowed := true, recurses := true, named := ["battledore/code.takes", "battledore/code.leaves", "bytes.ErrTooLarge", "internal/strconv.uint64pow10", "math/bits.deBruijn32tab", "math/bits.deBruijn64tab"], apart := false, laid := [("math/bits.deBruijn32tab", laid_math_bits_deBruijn32tab), ("math/bits.deBruijn64tab", laid_math_bits_deBruijn64tab), ("internal/strconv.uint64pow10", laid_internal_strconv_uint64pow10), ("battledore/code.takes", laid_battledore_code_takes), ("battledore/code.leaves", laid_battledore_code_leaves), ("bytes.ErrTooLarge", laid_bytes_ErrTooLarge)] }
def MachineGoesSaid : Prop := machineGoesRow.holds Tryd.pinned (OpenSpec.ofChange machineGoesSpec)

/-- ITS FALSE NEIGHBOUR: 'it returns false'. Refute it at one input. -/
def machineGoesWrong : ChangeSpec := { name := "machineGoes", fn := fun _ => fun
  | [d1, d2, d3, d4] => { results := [.lit (.bool false)], args := [d1, d2, d3, d4] }
  | _ => none }
def MachineGoesWrongFalsely : Prop := machineGoesRow.holds Tryd.pinned (OpenSpec.ofChange machineGoesWrong)

/-- 'battledorelaw10.MachineErrs': WHATEVER THE INPUT: true; the input reads as it did. -/
def machineErrsSpec : ChangeSpec := { name := "machineErrs", fn := fun _ => fun
  | [d1, d2, d3, d4] => { results := [.lit (.bool true)], args := [d1, d2, d3, d4] }
  | _ => none }
def machineErrsRow : OpenClaim := { program := "ytfoceofohlpafaadoor", sum := "5c926acd3ee54a9e6f8533921667a25b92435446c0a7004291b85f12412f9f8d", func := "battledore/battledorelaw10.MachineErrs", spec := "machineErrs", inPlace := ["internal/abi.NoEscape"], unfollowed := true, recurses := true, named := ["battledore/code.takes", "battledore/code.leaves", "bytes.ErrTooLarge", "internal/strconv.uint64pow10", "math/bits.deBruijn32tab", "math/bits.deBruijn64tab"], apart := false, laid := [("math/bits.deBruijn32tab", laid_math_bits_deBruijn32tab), ("math/bits.deBruijn64tab", laid_math_bits_deBruijn64tab), ("internal/strconv.uint64pow10", laid_internal_strconv_uint64pow10), ("battledore/code.takes", laid_battledore_code_takes), ("battledore/code.leaves", laid_battledore_code_leaves), ("bytes.ErrTooLarge", laid_bytes_ErrTooLarge)] }
def MachineErrsSaid : Prop := machineErrsRow.holds Tryd.pinned (OpenSpec.ofChange machineErrsSpec)

/-- ITS FALSE NEIGHBOUR: 'it returns false'. Refute it at one input. -/
def machineErrsWrong : ChangeSpec := { name := "machineErrs", fn := fun _ => fun
  | [d1, d2, d3, d4] => { results := [.lit (.bool false)], args := [d1, d2, d3, d4] }
  | _ => none }
def MachineErrsWrongFalsely : Prop := machineErrsRow.holds Tryd.pinned (OpenSpec.ofChange machineErrsWrong)

/- THE SECOND FORM. 'bulk': how many values and letters a reading holds, each counted each time it is reached (what is shared counts as often as it is met; a slice's spare places count too). A statement '..UptoSaid' is the law's where the arguments, and the package variables that the reading takes, are together of bulk at most 1048576: NARROWER than '..Said'. Prove '..Said' where nothing that the law and all that it calls make is longer than what came in: it says more and counts as full. Else prove '..UptoSaid'. A law counts once. -/
mutual
def uptoBulk {H : Type} : DataW H → Nat
  | .lit (.string bytes) => bytes.length + 1
  | .lit _ => 1
  | .nil => 1
  | .ptr d => uptoBulk d + 1
  | .slice elems spare => uptoBulkAll elems + uptoBulkAll spare + 1
  | .agg parts => uptoBulkAll parts + 1
  | .iface _ d => uptoBulk d + 1
  | .map entries => uptoBulkEntries entries + 1
  | .held _ => 1
def uptoBulkAll {H : Type} : List (DataW H) → Nat
  | [] => 0
  | d :: r => uptoBulk d + uptoBulkAll r
def uptoBulkEntries {H : Type} : List (Lit × DataW H) → Nat
  | [] => 0
  | x :: r => uptoBulkEntry x + uptoBulkEntries r
def uptoBulkEntry {H : Type} : Lit × DataW H → Nat
  | (.string bytes, d) => bytes.length + uptoBulk d + 1
  | (_, d) => uptoBulk d + 1
 end
def uptoSmall : (H : Type) → List (DataW H) → Bool := fun _ ds => decide (uptoBulkAll ds ≤ 1048576)
def OpenSpec.upto (s : _root_.Go.ChangeSpec) : _root_.Go.OpenSpec := { _root_.Go.OpenSpec.ofChange s with cond := some uptoSmall }

/-- 'battledorelaw10.MachineReckons', WHERE WHAT IT READS IS OF BULK AT MOST 1048576: true; the input reads as it did. -/
def machineReckonsUptoRow : OpenClaim := { program := "ytfoceofohlpafaadoor", sum := "5c926acd3ee54a9e6f8533921667a25b92435446c0a7004291b85f12412f9f8d", func := "battledore/battledorelaw10.MachineReckons", spec := "machineReckons", inPlace := ["internal/abi.NoEscape"], unfollowed := true, recurses := true, named := ["battledore/code.takes", "battledore/code.leaves", "bytes.ErrTooLarge", "internal/strconv.uint64pow10", "math/bits.deBruijn32tab", "math/bits.deBruijn64tab"], apart := false, laid := [("math/bits.deBruijn32tab", laid_math_bits_deBruijn32tab), ("math/bits.deBruijn64tab", laid_math_bits_deBruijn64tab), ("internal/strconv.uint64pow10", laid_internal_strconv_uint64pow10), ("battledore/code.takes", laid_battledore_code_takes), ("battledore/code.leaves", laid_battledore_code_leaves), ("bytes.ErrTooLarge", laid_bytes_ErrTooLarge)], narrowed := true }
def MachineReckonsUptoSaid : Prop := machineReckonsUptoRow.holds Tryd.pinned (OpenSpec.upto machineReckonsSpec)

/-- 'battledorelaw10.MachineFuel', WHERE WHAT IT READS IS OF BULK AT MOST 1048576: true; the input reads as it did. -/
def machineFuelUptoRow : OpenClaim := { program := "ytfoceofohlpafaadoor", sum := "5c926acd3ee54a9e6f8533921667a25b92435446c0a7004291b85f12412f9f8d", func := "battledore/battledorelaw10.MachineFuel", spec := "machineFuel", inPlace := ["internal/abi.NoEscape"], unfollowed := true, recurses := true, named := ["battledore/code.takes", "battledore/code.leaves", "bytes.ErrTooLarge", "internal/strconv.uint64pow10", "math/bits.deBruijn32tab", "math/bits.deBruijn64tab"], apart := false, laid := [("math/bits.deBruijn32tab", laid_math_bits_deBruijn32tab), ("math/bits.deBruijn64tab", laid_math_bits_deBruijn64tab), ("internal/strconv.uint64pow10", laid_internal_strconv_uint64pow10), ("battledore/code.takes", laid_battledore_code_takes), ("battledore/code.leaves", laid_battledore_code_leaves), ("bytes.ErrTooLarge", laid_bytes_ErrTooLarge)], narrowed := true }
def MachineFuelUptoSaid : Prop := machineFuelUptoRow.holds Tryd.pinned (OpenSpec.upto machineFuelSpec)

/-- 'battledorelaw10.MachineMoves', WHERE WHAT IT READS IS OF BULK AT MOST 1048576: true; the input reads as it did. -/
def machineMovesUptoRow : OpenClaim := { program := "ytfoceofohlpafaadoor", sum := "5c926acd3ee54a9e6f8533921667a25b92435446c0a7004291b85f12412f9f8d", func := "battledore/battledorelaw10.MachineMoves", spec := "machineMoves", inPlace := ["internal/abi.NoEscape"], unfollowed := true, recurses := true, named := ["battledore/code.takes", "battledore/code.leaves", "bytes.ErrTooLarge", "internal/strconv.uint64pow10", "math/bits.deBruijn32tab", "math/bits.deBruijn64tab"], apart := false, laid := [("math/bits.deBruijn32tab", laid_math_bits_deBruijn32tab), ("math/bits.deBruijn64tab", laid_math_bits_deBruijn64tab), ("internal/strconv.uint64pow10", laid_internal_strconv_uint64pow10), ("battledore/code.takes", laid_battledore_code_takes), ("battledore/code.leaves", laid_battledore_code_leaves), ("bytes.ErrTooLarge", laid_bytes_ErrTooLarge)], narrowed := true }
def MachineMovesUptoSaid : Prop := machineMovesUptoRow.holds Tryd.pinned (OpenSpec.upto machineMovesSpec)

/-- 'battledorelaw10.MachineTexts', WHERE WHAT IT READS IS OF BULK AT MOST 1048576: true; the input reads as it did. -/
def machineTextsUptoRow : OpenClaim := { program := "ytfoceofohlpafaadoor", sum := "5c926acd3ee54a9e6f8533921667a25b92435446c0a7004291b85f12412f9f8d", func := "battledore/battledorelaw10.MachineTexts", spec := "machineTexts", inPlace := ["internal/abi.NoEscape"], unfollowed := true, recurses := true, named := ["battledore/code.takes", "battledore/code.leaves", "bytes.ErrTooLarge", "internal/strconv.uint64pow10", "math/bits.deBruijn32tab", "math/bits.deBruijn64tab"], apart := false, laid := [("math/bits.deBruijn32tab", laid_math_bits_deBruijn32tab), ("math/bits.deBruijn64tab", laid_math_bits_deBruijn64tab), ("internal/strconv.uint64pow10", laid_internal_strconv_uint64pow10), ("battledore/code.takes", laid_battledore_code_takes), ("battledore/code.leaves", laid_battledore_code_leaves), ("bytes.ErrTooLarge", laid_bytes_ErrTooLarge)], narrowed := true }
def MachineTextsUptoSaid : Prop := machineTextsUptoRow.holds Tryd.pinned (OpenSpec.upto machineTextsSpec)

/-- 'battledorelaw10.MachineDigits', WHERE WHAT IT READS IS OF BULK AT MOST 1048576: true; the input reads as it did. -/
def machineDigitsUptoRow : OpenClaim := { program := "ytfoceofohlpafaadoor", sum := "5c926acd3ee54a9e6f8533921667a25b92435446c0a7004291b85f12412f9f8d", func := "battledore/battledorelaw10.MachineDigits", spec := "machineDigits", inPlace := ["internal/abi.NoEscape"], unfollowed := true, recurses := true, named := ["battledore/code.takes", "battledore/code.leaves", "bytes.ErrTooLarge", "internal/strconv.uint64pow10", "math/bits.deBruijn32tab", "math/bits.deBruijn64tab"], apart := false, laid := [("math/bits.deBruijn32tab", laid_math_bits_deBruijn32tab), ("math/bits.deBruijn64tab", laid_math_bits_deBruijn64tab), ("internal/strconv.uint64pow10", laid_internal_strconv_uint64pow10), ("battledore/code.takes", laid_battledore_code_takes), ("battledore/code.leaves", laid_battledore_code_leaves), ("bytes.ErrTooLarge", laid_bytes_ErrTooLarge)], narrowed := true }
def MachineDigitsUptoSaid : Prop := machineDigitsUptoRow.holds Tryd.pinned (OpenSpec.upto machineDigitsSpec)

/-- 'battledorelaw10.MachineRaises', WHERE WHAT IT READS IS OF BULK AT MOST 1048576: true; the input reads as it did. -/
def machineRaisesUptoRow : OpenClaim := { program := "ytfoceofohlpafaadoor", sum := "5c926acd3ee54a9e6f8533921667a25b92435446c0a7004291b85f12412f9f8d", func := "battledore/battledorelaw10.MachineRaises", spec := "machineRaises", inPlace := ["internal/abi.NoEscape"], unfollowed := true, recurses := true, named := ["battledore/code.takes", "battledore/code.leaves", "bytes.ErrTooLarge", "internal/strconv.uint64pow10", "math/bits.deBruijn32tab", "math/bits.deBruijn64tab"], apart := false, laid := [("math/bits.deBruijn32tab", laid_math_bits_deBruijn32tab), ("math/bits.deBruijn64tab", laid_math_bits_deBruijn64tab), ("internal/strconv.uint64pow10", laid_internal_strconv_uint64pow10), ("battledore/code.takes", laid_battledore_code_takes), ("battledore/code.leaves", laid_battledore_code_leaves), ("bytes.ErrTooLarge", laid_bytes_ErrTooLarge)], narrowed := true }
def MachineRaisesUptoSaid : Prop := machineRaisesUptoRow.holds Tryd.pinned (OpenSpec.upto machineRaisesSpec)

/-- 'battledorelaw10.MachineGoes', WHERE WHAT IT READS IS OF BULK AT MOST 1048576: true; the input reads as it did. -/
def machineGoesUptoRow : OpenClaim := { program := "ytfoceofohlpafaadoor", sum := "5c926acd3ee54a9e6f8533921667a25b92435446c0a7004291b85f12412f9f8d", func := "battledore/battledorelaw10.MachineGoes", spec := "machineGoes", inPlace := ["internal/abi.NoEscape"], unfollowed := true, recurses := true, named := ["battledore/code.takes", "battledore/code.leaves", "bytes.ErrTooLarge", "internal/strconv.uint64pow10", "math/bits.deBruijn32tab", "math/bits.deBruijn64tab"], apart := false, laid := [("math/bits.deBruijn32tab", laid_math_bits_deBruijn32tab), ("math/bits.deBruijn64tab", laid_math_bits_deBruijn64tab), ("internal/strconv.uint64pow10", laid_internal_strconv_uint64pow10), ("battledore/code.takes", laid_battledore_code_takes), ("battledore/code.leaves", laid_battledore_code_leaves), ("bytes.ErrTooLarge", laid_bytes_ErrTooLarge)], narrowed := true }
def MachineGoesUptoSaid : Prop := machineGoesUptoRow.holds Tryd.pinned (OpenSpec.upto machineGoesSpec)

/-- 'battledorelaw10.MachineErrs', WHERE WHAT IT READS IS OF BULK AT MOST 1048576: true; the input reads as it did. -/
def machineErrsUptoRow : OpenClaim := { program := "ytfoceofohlpafaadoor", sum := "5c926acd3ee54a9e6f8533921667a25b92435446c0a7004291b85f12412f9f8d", func := "battledore/battledorelaw10.MachineErrs", spec := "machineErrs", inPlace := ["internal/abi.NoEscape"], unfollowed := true, recurses := true, named := ["battledore/code.takes", "battledore/code.leaves", "bytes.ErrTooLarge", "internal/strconv.uint64pow10", "math/bits.deBruijn32tab", "math/bits.deBruijn64tab"], apart := false, laid := [("math/bits.deBruijn32tab", laid_math_bits_deBruijn32tab), ("math/bits.deBruijn64tab", laid_math_bits_deBruijn64tab), ("internal/strconv.uint64pow10", laid_internal_strconv_uint64pow10), ("battledore/code.takes", laid_battledore_code_takes), ("battledore/code.leaves", laid_battledore_code_leaves), ("bytes.ErrTooLarge", laid_bytes_ErrTooLarge)], narrowed := true }
def MachineErrsUptoSaid : Prop := machineErrsUptoRow.holds Tryd.pinned (OpenSpec.upto machineErrsSpec)

end Rows
end Go.Proofs.YtfoceofohlpafaaDoor
