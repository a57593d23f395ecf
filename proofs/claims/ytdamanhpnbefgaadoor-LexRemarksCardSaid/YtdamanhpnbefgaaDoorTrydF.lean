/- Printed by a program of the prover: what the Go functions of this seat do, in steps. -/
import Derived.Test.YtdamanhpnbefgaaDoorAm12
import Derived.Test.YtdamanhpnbefgaaDoorProg
set_option linter.unusedVariables false
namespace Go.Proofs.Tryd
open Go Go.Am Go.RowKit
theorem mixed : prog.follows .mixedOrders = true := by kernel_rfl
theorem okG0 : okOpd prog.globals.size (.global 0) = true := by kernel_rfl
theorem okG1 : okOpd prog.globals.size (.global 1) = true := by kernel_rfl
theorem okG2 : okOpd prog.globals.size (.global 2) = true := by kernel_rfl
theorem okG3 : okOpd prog.globals.size (.global 3) = true := by kernel_rfl
theorem okG4 : okOpd prog.globals.size (.global 4) = true := by kernel_rfl
theorem okG5 : okOpd prog.globals.size (.global 5) = true := by kernel_rfl
theorem okG6 : okOpd prog.globals.size (.global 6) = true := by kernel_rfl
theorem okG7 : okOpd prog.globals.size (.global 7) = true := by kernel_rfl
theorem sz2 : (prog.info? 2).map (·.size) = some 1 := by kernel_rfl
theorem by2 : (prog.info? 2).map (·.bytes) = some 8 := by kernel_rfl
theorem z2 : (prog.info? 2).bind (·.zero) = some (.int .i64 0) := by kernel_rfl
theorem sz3 : (prog.info? 3).map (·.size) = some 1 := by kernel_rfl
theorem by3 : (prog.info? 3).map (·.bytes) = some 8 := by kernel_rfl
theorem z3 : (prog.info? 3).bind (·.zero) = some (.int .i64 0) := by kernel_rfl
theorem sz4 : (prog.info? 4).map (·.size) = some 1 := by kernel_rfl
theorem by4 : (prog.info? 4).map (·.bytes) = some 1 := by kernel_rfl
theorem z4 : (prog.info? 4).bind (·.zero) = some (.bool false) := by kernel_rfl
theorem sz5 : (prog.info? 5).map (·.size) = some 1 := by kernel_rfl
theorem by5 : (prog.info? 5).map (·.bytes) = some 1 := by kernel_rfl
theorem z5 : (prog.info? 5).bind (·.zero) = some (.int .u8 0) := by kernel_rfl
theorem sz9 : (prog.info? 9).map (·.size) = some 1 := by kernel_rfl
theorem by9 : (prog.info? 9).map (·.bytes) = some 16 := by kernel_rfl
theorem z9 : (prog.info? 9).bind (·.zero) = some (.string ⟨#[]⟩) := by kernel_rfl
theorem sz21 : (prog.info? 21).map (·.size) = some 1 := by kernel_rfl
theorem by21 : (prog.info? 21).map (·.bytes) = some 4 := by kernel_rfl
theorem z21 : (prog.info? 21).bind (·.zero) = some (.int .i32 0) := by kernel_rfl
theorem sz23 : (prog.info? 23).map (·.size) = some 1 := by kernel_rfl
theorem by23 : (prog.info? 23).map (·.bytes) = some 24 := by kernel_rfl
theorem z23 : (prog.info? 23).bind (·.zero) = some (.slice none 0 0) := by kernel_rfl
theorem sz24 : (prog.info? 24).map (·.size) = some 1 := by kernel_rfl
theorem by24 : (prog.info? 24).map (·.bytes) = some 8 := by kernel_rfl
theorem z24 : (prog.info? 24).bind (·.zero) = some (.int .i64 0) := by kernel_rfl
theorem sz30 : (prog.info? 30).map (·.size) = some 1 := by kernel_rfl
theorem by30 : (prog.info? 30).map (·.bytes) = some 24 := by kernel_rfl
theorem z30 : (prog.info? 30).bind (·.zero) = some (.slice none 0 0) := by kernel_rfl
theorem sz33 : (prog.info? 33).map (·.size) = some 3 := by kernel_rfl
theorem by33 : (prog.info? 33).map (·.bytes) = some 32 := by kernel_rfl
theorem z33 : (prog.info? 33).bind (·.zero) = some (.agg #[.int .u8 0, .string ⟨#[]⟩, .int .i64 0]) := by kernel_rfl
theorem bo33 : BuildOk prog 33 [.int .u8 0, .string (⟨#[]⟩ : ByteArray), .int .i64 0] [(0, 1), (1, 1), (2, 1)] := ⟨_, _, z33, rfl, rfl, underlying33, by kernel_rfl, by kernel_rfl⟩
theorem eqst33 (a b : Operand) (x0 y0 : Int) (x1 y1 : ByteArray) (x2 y2 : Int) (w : World) : (do eqGuard .eql 33 a b (.agg #[.int .u8 x0, .string x1, .int .i64 x2]) (.agg #[.int .u8 y0, .string y1, .int .i64 y2]); binOp .eql 33 (.agg #[.int .u8 x0, .string x1, .int .i64 x2]) (.agg #[.int .u8 y0, .string y1, .int .i64 y2]) : Sem Value).run prog w = .ok (.bool ((decide (x0 = y0) && (decide (x1 = y1) && (decide (x2 = y2) && (true)))))) w :=
  stEq underlying33 (by kernel_rfl) (by kernel_rfl) (.int rfl underlying5 rfl rfl (.str rfl underlying9 rfl rfl (.int rfl underlying3 rfl rfl .nil))) a b w
theorem nest33 (a b : Operand) (x0 y0 : Int) (x1 y1 : ByteArray) (x2 y2 : Int) (w : World) : (do eqGuard .neq 33 a b (.agg #[.int .u8 x0, .string x1, .int .i64 x2]) (.agg #[.int .u8 y0, .string y1, .int .i64 y2]); binOp .neq 33 (.agg #[.int .u8 x0, .string x1, .int .i64 x2]) (.agg #[.int .u8 y0, .string y1, .int .i64 y2]) : Sem Value).run prog w = .ok (.bool (!(decide (x0 = y0) && (decide (x1 = y1) && (decide (x2 = y2) && (true)))))) w :=
  stNe underlying33 (by kernel_rfl) (by kernel_rfl) (.int rfl underlying5 rfl rfl (.str rfl underlying9 rfl rfl (.int rfl underlying3 rfl rfl .nil))) a b w
theorem sz43 : (prog.info? 43).map (·.size) = some 1 := by kernel_rfl
theorem by43 : (prog.info? 43).map (·.bytes) = some 24 := by kernel_rfl
theorem z43 : (prog.info? 43).bind (·.zero) = some (.slice none 0 0) := by kernel_rfl
theorem sz47 : (prog.info? 47).map (·.size) = some 1 := by kernel_rfl
theorem by47 : (prog.info? 47).map (·.bytes) = some 16 := by kernel_rfl
theorem z47 : (prog.info? 47).bind (·.zero) = some (.nilIface) := by kernel_rfl
theorem sz50 : (prog.info? 50).map (·.size) = some 24 := by kernel_rfl
theorem by50 : (prog.info? 50).map (·.bytes) = some 384 := by kernel_rfl
theorem z50 : (prog.info? 50).bind (·.zero) = some (.agg #[.string ⟨#[]⟩, .string ⟨#[]⟩, .string ⟨#[]⟩, .string ⟨#[]⟩, .string ⟨#[]⟩, .string ⟨#[]⟩, .string ⟨#[]⟩, .string ⟨#[]⟩, .string ⟨#[]⟩, .string ⟨#[]⟩, .string ⟨#[]⟩, .string ⟨#[]⟩, .string ⟨#[]⟩, .string ⟨#[]⟩, .string ⟨#[]⟩, .string ⟨#[]⟩, .string ⟨#[]⟩, .string ⟨#[]⟩, .string ⟨#[]⟩, .string ⟨#[]⟩, .string ⟨#[]⟩, .string ⟨#[]⟩, .string ⟨#[]⟩, .string ⟨#[]⟩]) := by kernel_rfl
theorem sz51 : (prog.info? 51).map (·.size) = some 15 := by kernel_rfl
theorem by51 : (prog.info? 51).map (·.bytes) = some 240 := by kernel_rfl
theorem z51 : (prog.info? 51).bind (·.zero) = some (.agg #[.string ⟨#[]⟩, .string ⟨#[]⟩, .string ⟨#[]⟩, .string ⟨#[]⟩, .string ⟨#[]⟩, .string ⟨#[]⟩, .string ⟨#[]⟩, .string ⟨#[]⟩, .string ⟨#[]⟩, .string ⟨#[]⟩, .string ⟨#[]⟩, .string ⟨#[]⟩, .string ⟨#[]⟩, .string ⟨#[]⟩, .string ⟨#[]⟩]) := by kernel_rfl
theorem sz53 : (prog.info? 53).map (·.size) = some 1 := by kernel_rfl
theorem by53 : (prog.info? 53).map (·.bytes) = some 8 := by kernel_rfl
theorem z53 : (prog.info? 53).bind (·.zero) = some (.pointer none) := by kernel_rfl
theorem sz55 : (prog.info? 55).map (·.size) = some 2 := by kernel_rfl
theorem by55 : (prog.info? 55).map (·.bytes) = some 32 := by kernel_rfl
theorem z55 : (prog.info? 55).bind (·.zero) = some (.agg #[.pointer none, .slice none 0 0]) := by kernel_rfl
theorem lies55 : LiesOk prog 55 2 := by unfold LiesOk; kernel_rfl
theorem bo55 : BuildOk prog 55 [(.pointer none), (.slice none 0 0)] [(0, 1), (1, 1)] := ⟨_, _, z55, rfl, rfl, underlying55, by kernel_rfl, by kernel_rfl⟩
theorem sz59 : (prog.info? 59).map (·.size) = some 1 := by kernel_rfl
theorem by59 : (prog.info? 59).map (·.bytes) = some 8 := by kernel_rfl
theorem z59 : (prog.info? 59).bind (·.zero) = some (.int .u64 0) := by kernel_rfl
theorem sz62 : (prog.info? 62).map (·.size) = some 1 := by kernel_rfl
theorem by62 : (prog.info? 62).map (·.bytes) = some 8 := by kernel_rfl
theorem z62 : (prog.info? 62).bind (·.zero) = some (.int .u64 0) := by kernel_rfl
theorem sz66 : (prog.info? 66).map (·.size) = some 1 := by kernel_rfl
theorem by66 : (prog.info? 66).map (·.bytes) = some 8 := by kernel_rfl
theorem z66 : (prog.info? 66).bind (·.zero) = some (.pointer none) := by kernel_rfl
theorem sz70 : (prog.info? 70).map (·.size) = some 3 := by kernel_rfl
theorem by70 : (prog.info? 70).map (·.bytes) = some 48 := by kernel_rfl
theorem z70 : (prog.info? 70).bind (·.zero) = some (.agg #[.string ⟨#[]⟩, .string ⟨#[]⟩, .nilIface]) := by kernel_rfl
theorem bo70 : BuildOk prog 70 [.string (⟨#[]⟩ : ByteArray), .string (⟨#[]⟩ : ByteArray), (.nilIface )] [(0, 1), (1, 1), (2, 1)] := ⟨_, _, z70, rfl, rfl, underlying70, by kernel_rfl, by kernel_rfl⟩
theorem sz73 : (prog.info? 73).map (·.size) = some 1 := by kernel_rfl
theorem by73 : (prog.info? 73).map (·.bytes) = some 8 := by kernel_rfl
theorem z73 : (prog.info? 73).bind (·.zero) = some (.pointer none) := by kernel_rfl
theorem sz77 : (prog.info? 77).map (·.size) = some 1 := by kernel_rfl
theorem by77 : (prog.info? 77).map (·.bytes) = some 16 := by kernel_rfl
theorem z77 : (prog.info? 77).bind (·.zero) = some (.agg #[.string ⟨#[]⟩]) := by kernel_rfl
theorem bo77 : BuildOk prog 77 [.string (⟨#[]⟩ : ByteArray)] [(0, 1)] := ⟨_, _, z77, rfl, rfl, underlying77, by kernel_rfl, by kernel_rfl⟩
theorem eqst77 (a b : Operand) (x0 y0 : ByteArray) (w : World) : (do eqGuard .eql 77 a b (.agg #[.string x0]) (.agg #[.string y0]); binOp .eql 77 (.agg #[.string x0]) (.agg #[.string y0]) : Sem Value).run prog w = .ok (.bool ((decide (x0 = y0) && (true)))) w :=
  stEq underlying77 (by kernel_rfl) (by kernel_rfl) (.str rfl underlying9 rfl rfl .nil) a b w
theorem nest77 (a b : Operand) (x0 y0 : ByteArray) (w : World) : (do eqGuard .neq 77 a b (.agg #[.string x0]) (.agg #[.string y0]); binOp .neq 77 (.agg #[.string x0]) (.agg #[.string y0]) : Sem Value).run prog w = .ok (.bool (!(decide (x0 = y0) && (true)))) w :=
  stNe underlying77 (by kernel_rfl) (by kernel_rfl) (.str rfl underlying9 rfl rfl .nil) a b w
theorem sz79 : (prog.info? 79).map (·.size) = some 24 := by kernel_rfl
theorem by79 : (prog.info? 79).map (·.bytes) = some 24 := by kernel_rfl
theorem z79 : (prog.info? 79).bind (·.zero) = some (.agg #[.int .u8 0, .int .u8 0, .int .u8 0, .int .u8 0, .int .u8 0, .int .u8 0, .int .u8 0, .int .u8 0, .int .u8 0, .int .u8 0, .int .u8 0, .int .u8 0, .int .u8 0, .int .u8 0, .int .u8 0, .int .u8 0, .int .u8 0, .int .u8 0, .int .u8 0, .int .u8 0, .int .u8 0, .int .u8 0, .int .u8 0, .int .u8 0]) := by kernel_rfl
theorem sz86 : (prog.info? 86).map (·.size) = some 20 := by kernel_rfl
theorem by86 : (prog.info? 86).map (·.bytes) = some 160 := by kernel_rfl
theorem z86 : (prog.info? 86).bind (·.zero) = some (.agg #[.int .u64 0, .int .u64 0, .int .u64 0, .int .u64 0, .int .u64 0, .int .u64 0, .int .u64 0, .int .u64 0, .int .u64 0, .int .u64 0, .int .u64 0, .int .u64 0, .int .u64 0, .int .u64 0, .int .u64 0, .int .u64 0, .int .u64 0, .int .u64 0, .int .u64 0, .int .u64 0]) := by kernel_rfl
theorem sz87 : (prog.info? 87).map (·.size) = some 1 := by kernel_rfl
theorem by87 : (prog.info? 87).map (·.bytes) = some 4 := by kernel_rfl
theorem z87 : (prog.info? 87).bind (·.zero) = some (.int .u32 0) := by kernel_rfl
theorem sz88 : (prog.info? 88).map (·.size) = some 65 := by kernel_rfl
theorem by88 : (prog.info? 88).map (·.bytes) = some 65 := by kernel_rfl
theorem z88 : (prog.info? 88).bind (·.zero) = some (.agg #[.int .u8 0, .int .u8 0, .int .u8 0, .int .u8 0, .int .u8 0, .int .u8 0, .int .u8 0, .int .u8 0, .int .u8 0, .int .u8 0, .int .u8 0, .int .u8 0, .int .u8 0, .int .u8 0, .int .u8 0, .int .u8 0, .int .u8 0, .int .u8 0, .int .u8 0, .int .u8 0, .int .u8 0, .int .u8 0, .int .u8 0, .int .u8 0, .int .u8 0, .int .u8 0, .int .u8 0, .int .u8 0, .int .u8 0, .int .u8 0, .int .u8 0, .int .u8 0, .int .u8 0, .int .u8 0, .int .u8 0, .int .u8 0, .int .u8 0, .int .u8 0, .int .u8 0, .int .u8 0, .int .u8 0, .int .u8 0, .int .u8 0, .int .u8 0, .int .u8 0, .int .u8 0, .int .u8 0, .int .u8 0, .int .u8 0, .int .u8 0, .int .u8 0, .int .u8 0, .int .u8 0, .int .u8 0, .int .u8 0, .int .u8 0, .int .u8 0, .int .u8 0, .int .u8 0, .int .u8 0, .int .u8 0, .int .u8 0, .int .u8 0, .int .u8 0, .int .u8 0]) := by kernel_rfl
theorem sz92 : (prog.info? 92).map (·.size) = some 32 := by kernel_rfl
theorem by92 : (prog.info? 92).map (·.bytes) = some 32 := by kernel_rfl
theorem z92 : (prog.info? 92).bind (·.zero) = some (.agg #[.int .u8 0, .int .u8 0, .int .u8 0, .int .u8 0, .int .u8 0, .int .u8 0, .int .u8 0, .int .u8 0, .int .u8 0, .int .u8 0, .int .u8 0, .int .u8 0, .int .u8 0, .int .u8 0, .int .u8 0, .int .u8 0, .int .u8 0, .int .u8 0, .int .u8 0, .int .u8 0, .int .u8 0, .int .u8 0, .int .u8 0, .int .u8 0, .int .u8 0, .int .u8 0, .int .u8 0, .int .u8 0, .int .u8 0, .int .u8 0, .int .u8 0, .int .u8 0]) := by kernel_rfl
theorem sz93 : (prog.info? 93).map (·.size) = some 64 := by kernel_rfl
theorem by93 : (prog.info? 93).map (·.bytes) = some 64 := by kernel_rfl
theorem z93 : (prog.info? 93).bind (·.zero) = some (.agg #[.int .u8 0, .int .u8 0, .int .u8 0, .int .u8 0, .int .u8 0, .int .u8 0, .int .u8 0, .int .u8 0, .int .u8 0, .int .u8 0, .int .u8 0, .int .u8 0, .int .u8 0, .int .u8 0, .int .u8 0, .int .u8 0, .int .u8 0, .int .u8 0, .int .u8 0, .int .u8 0, .int .u8 0, .int .u8 0, .int .u8 0, .int .u8 0, .int .u8 0, .int .u8 0, .int .u8 0, .int .u8 0, .int .u8 0, .int .u8 0, .int .u8 0, .int .u8 0, .int .u8 0, .int .u8 0, .int .u8 0, .int .u8 0, .int .u8 0, .int .u8 0, .int .u8 0, .int .u8 0, .int .u8 0, .int .u8 0, .int .u8 0, .int .u8 0, .int .u8 0, .int .u8 0, .int .u8 0, .int .u8 0, .int .u8 0, .int .u8 0, .int .u8 0, .int .u8 0, .int .u8 0, .int .u8 0, .int .u8 0, .int .u8 0, .int .u8 0, .int .u8 0, .int .u8 0, .int .u8 0, .int .u8 0, .int .u8 0, .int .u8 0, .int .u8 0]) := by kernel_rfl
def sh0 : Unit → Value := fun r => .tuple #[]
def sh1 : Unit → Value := fun r => .tuple #[]
def sh2 : Unit → Value := fun r => .tuple #[]
theorem is2 : IsFn prog 2 := isFn_of func2 (by kernel_rfl) (by kernel_rfl)
def sh3 : Bool → Value := fun r => .bool r
theorem is3 : IsFn prog 3 := isFn_of func3 (by kernel_rfl) (by kernel_rfl)
def sh4 : Bool → Value := fun r => .bool r
theorem is4 : IsFn prog 4 := isFn_of func4 (by kernel_rfl) (by kernel_rfl)
def sh5 : Bool → Value := fun r => .bool r
theorem is5 : IsFn prog 5 := isFn_of func5 (by kernel_rfl) (by kernel_rfl)
def sh6 : Bool → Value := fun r => .bool r
theorem is6 : IsFn prog 6 := isFn_of func6 (by kernel_rfl) (by kernel_rfl)
def sh7 : Bool → Value := fun r => .bool r
theorem is7 : IsFn prog 7 := isFn_of func7 (by kernel_rfl) (by kernel_rfl)
def sh8 : Bool → Value := fun r => .bool r
theorem is8 : IsFn prog 8 := isFn_of func8 (by kernel_rfl) (by kernel_rfl)
def sh9 : Bool → Value := fun r => .bool r
theorem is9 : IsFn prog 9 := isFn_of func9 (by kernel_rfl) (by kernel_rfl)
def sh10 : (Value × Int × Int) → Value := fun r => .tuple #[r.1, .int .i64 r.2.1, .int .i64 r.2.2]
theorem is10 : IsFn prog 10 := isFn_of func10 (by kernel_rfl) (by kernel_rfl)
def sh11 : Value → Value := fun r => r
theorem is11 : IsFn prog 11 := isFn_of func11 (by kernel_rfl) (by kernel_rfl)
def sh12 : Bool → Value := fun r => .bool r
theorem is12 : IsFn prog 12 := isFn_of func12 (by kernel_rfl) (by kernel_rfl)
def sh13 : Bool → Value := fun r => .bool r
theorem is13 : IsFn prog 13 := isFn_of func13 (by kernel_rfl) (by kernel_rfl)
def sh14 : (Int × Bool) → Value := fun r => .tuple #[.int .i64 r.1, .bool r.2]
theorem is14 : IsFn prog 14 := isFn_of func14 (by kernel_rfl) (by kernel_rfl)
def sh15 : Int → Value := fun r => .int .i64 r
theorem is15 : IsFn prog 15 := isFn_of func15 (by kernel_rfl) (by kernel_rfl)
def sh16 : Bool → Value := fun r => .bool r
theorem is16 : IsFn prog 16 := isFn_of func16 (by kernel_rfl) (by kernel_rfl)
def sh17 : Int → Value := fun r => .int .i64 r
theorem is17 : IsFn prog 17 := isFn_of func17 (by kernel_rfl) (by kernel_rfl)
def sh18 : (Int × ByteArray × Int × Int × Int × Int) → Value := fun r => .tuple #[.agg #[.int .u8 r.1, .string r.2.1, .int .i64 r.2.2.1], .int .i64 r.2.2.2.1, .int .i64 r.2.2.2.2.1, .int .i64 r.2.2.2.2.2]
theorem is18 : IsFn prog 18 := isFn_of func18 (by kernel_rfl) (by kernel_rfl)
def sh19 : Int → Value := fun r => .int .i64 r
theorem is19 : IsFn prog 19 := isFn_of func19 (by kernel_rfl) (by kernel_rfl)
def sh20 : Bool → Value := fun r => .bool r
theorem is20 : IsFn prog 20 := isFn_of func20 (by kernel_rfl) (by kernel_rfl)
def sh21 : Bool → Value := fun r => .bool r
theorem is21 : IsFn prog 21 := isFn_of func21 (by kernel_rfl) (by kernel_rfl)
def sh22 : Bool → Value := fun r => .bool r
theorem is22 : IsFn prog 22 := isFn_of func22 (by kernel_rfl) (by kernel_rfl)
def sh23 : Bool → Value := fun r => .bool r
theorem is23 : IsFn prog 23 := isFn_of func23 (by kernel_rfl) (by kernel_rfl)
def sh24 : (Int × ByteArray × Int × Int × Int × Int) → Value := fun r => .tuple #[.agg #[.int .u8 r.1, .string r.2.1, .int .i64 r.2.2.1], .int .i64 r.2.2.2.1, .int .i64 r.2.2.2.2.1, .int .i64 r.2.2.2.2.2]
theorem is24 : IsFn prog 24 := isFn_of func24 (by kernel_rfl) (by kernel_rfl)
def sh25 : Bool → Value := fun r => .bool r
theorem is25 : IsFn prog 25 := isFn_of func25 (by kernel_rfl) (by kernel_rfl)
def sh26 : (Int × Value) → Value := fun r => .tuple #[.int .i64 r.1, r.2]
theorem is26 : IsFn prog 26 := isFn_of func26 (by kernel_rfl) (by kernel_rfl)
def sh27 : (Int × ByteArray × Int × Int × Int × Int) → Value := fun r => .tuple #[.agg #[.int .u8 r.1, .string r.2.1, .int .i64 r.2.2.1], .int .i64 r.2.2.2.1, .int .i64 r.2.2.2.2.1, .int .i64 r.2.2.2.2.2]
theorem is27 : IsFn prog 27 := isFn_of func27 (by kernel_rfl) (by kernel_rfl)
def sh28 : Int → Value := fun r => .int .i64 r
theorem ext28 : IsExt prog 28 Extern.BytealgIndexByte.indexByte := ⟨f28, func28, by kernel_rfl, by kernel_rfl, by kernel_rfl, by kernel_rfl⟩
def sh29 : (Int × Value) → Value := fun r => .tuple #[.int .i64 r.1, r.2]
theorem is29 : IsFn prog 29 := isFn_of func29 (by kernel_rfl) (by kernel_rfl)
def sh30 : Value → Value := fun r => r
theorem is30 : IsFn prog 30 := isFn_of func30 (by kernel_rfl) (by kernel_rfl)
def sh31 : ByteArray → Value := fun r => .string r
theorem is31 : IsFn prog 31 := isFn_of func31 (by kernel_rfl) (by kernel_rfl)
def sh32 : Value → Value := fun r => r
theorem is32 : IsFn prog 32 := isFn_of func32 (by kernel_rfl) (by kernel_rfl)
def sh33 : (Int × Value) → Value := fun r => .tuple #[.int .u64 r.1, r.2]
theorem is33 : IsFn prog 33 := isFn_of func33 (by kernel_rfl) (by kernel_rfl)
def sh34 : Value → Value := fun r => r
theorem is34 : IsFn prog 34 := isFn_of func34 (by kernel_rfl) (by kernel_rfl)
def sh35 : Value → Value := fun r => r
theorem is35 : IsFn prog 35 := isFn_of func35 (by kernel_rfl) (by kernel_rfl)
def sh36 : Value → Value := fun r => r
theorem is36 : IsFn prog 36 := isFn_of func36 (by kernel_rfl) (by kernel_rfl)
def sh37 : Value → Value := fun r => r
theorem is37 : IsFn prog 37 := isFn_of func37 (by kernel_rfl) (by kernel_rfl)
def sh38 : Unit → Value := fun r => .tuple #[]
theorem is38 : IsFn prog 38 := isFn_of func38 (by kernel_rfl) (by kernel_rfl)
def sh39 : Int → Value := fun r => .int .u8 r
theorem is39 : IsFn prog 39 := isFn_of func39 (by kernel_rfl) (by kernel_rfl)
def sh40 : Bool → Value := fun r => .bool r
theorem is40 : IsFn prog 40 := isFn_of func40 (by kernel_rfl) (by kernel_rfl)
def sh41 : ByteArray → Value := fun r => .string r
theorem is41 : IsFn prog 41 := isFn_of func41 (by kernel_rfl) (by kernel_rfl)
def sh42 : Value → Value := fun r => r
theorem is42 : IsFn prog 42 := isFn_of func42 (by kernel_rfl) (by kernel_rfl)
def sh43 : ByteArray → Value := fun r => .string r
theorem is43 : IsFn prog 43 := isFn_of func43 (by kernel_rfl) (by kernel_rfl)
def sh44 : Value → Value := fun r => r
theorem ext44 : IsExt prog 44 Extern.AbiNoEscape.same := ⟨f44, func44, by kernel_rfl, by kernel_rfl, by kernel_rfl, by kernel_rfl⟩
def sh45 : ByteArray → Value := fun r => .string r
theorem is45 : IsFn prog 45 := isFn_of func45 (by kernel_rfl) (by kernel_rfl)
def sh46 : ByteArray → Value := fun r => .string r
theorem is46 : IsFn prog 46 := isFn_of func46 (by kernel_rfl) (by kernel_rfl)
def sh47 : ByteArray → Value := fun r => .string r
theorem is47 : IsFn prog 47 := isFn_of func47 (by kernel_rfl) (by kernel_rfl)
def sh48 : Int → Value := fun r => .int .i64 r
theorem is48 : IsFn prog 48 := isFn_of func48 (by kernel_rfl) (by kernel_rfl)
def sh49 : Unit → Value := fun r => .tuple #[]
theorem is49 : IsFn prog 49 := isFn_of func49 (by kernel_rfl) (by kernel_rfl)
def sh50 : (Value × ByteArray) → Value := fun r => .tuple #[r.1, .string r.2]
theorem is50 : IsFn prog 50 := isFn_of func50 (by kernel_rfl) (by kernel_rfl)
def sh51 : Int → Value := fun r => .int .i64 r
theorem is51 : IsFn prog 51 := isFn_of func51 (by kernel_rfl) (by kernel_rfl)
def sh52 : Int → Value := fun r => .int .i64 r
theorem is52 : IsFn prog 52 := isFn_of func52 (by kernel_rfl) (by kernel_rfl)
def sh53 : Int → Value := fun r => .int .i64 r
theorem is53 : IsFn prog 53 := isFn_of func53 (by kernel_rfl) (by kernel_rfl)
def sh54 : Bool → Value := fun r => .bool r
theorem is54 : IsFn prog 54 := isFn_of func54 (by kernel_rfl) (by kernel_rfl)
def sh55 : Int → Value := fun r => .int .i64 r
theorem is55 : IsFn prog 55 := isFn_of func55 (by kernel_rfl) (by kernel_rfl)
def sh56 : Int → Value := fun r => .int .i64 r
theorem is56 : IsFn prog 56 := isFn_of func56 (by kernel_rfl) (by kernel_rfl)
def sh57 : Int → Value := fun r => .int .i64 r
theorem is57 : IsFn prog 57 := isFn_of func57 (by kernel_rfl) (by kernel_rfl)
def sh58 : ByteArray → Value := fun r => .string r
def sh59 : Unit → Value := fun r => .tuple #[]
def sh60 : ByteArray → Value := fun r => .string r
def sh61 : Unit → Value := fun r => .tuple #[]
def sh62 : ByteArray → Value := fun r => .string r
def sh63 : Unit → Value := fun r => .tuple #[]
def sh64 : ByteArray → Value := fun r => .string r
def sh65 : Unit → Value := fun r => .tuple #[]
def sh66 : ByteArray → Value := fun r => .string r
def sh67 : Unit → Value := fun r => .tuple #[]
def sh68 : ByteArray → Value := fun r => .string r
def sh69 : Unit → Value := fun r => .tuple #[]
def sh70 : Int → Value := fun r => .int .i64 r
def sh71 : ByteArray → Value := fun r => .string r
def sh72 : Unit → Value := fun r => .tuple #[]
def sh73 : Unit → Value := fun r => .tuple #[]
def sh74 : ByteArray → Value := fun r => .string r
def sh75 : ByteArray → Value := fun r => .string r
def sh76 : ByteArray → Value := fun r => .string r
def sh77 : ByteArray → Value := fun r => .string r
def sh78 : Unit → Value := fun r => .tuple #[]
def sh79 : Unit → Value := fun r => .tuple #[]
def sh80 : Unit → Value := fun r => .tuple #[]
def sh81 : Unit → Value := fun r => .tuple #[]
def sh82 : Unit → Value := fun r => .tuple #[]
def sh83 : Unit → Value := fun r => .tuple #[]
def sh84 : Unit → Value := fun r => .tuple #[]
def sh85 : Unit → Value := fun r => .tuple #[]
def sh86 : Unit → Value := fun r => .tuple #[]
def sh87 : Unit → Value := fun r => .tuple #[]
theorem is87 : IsFn prog 87 := isFn_of func87 (by kernel_rfl) (by kernel_rfl)
end Go.Proofs.Tryd
