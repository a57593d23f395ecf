/- Printed by a program of the prover: what the Go functions of this seat do, in steps. -/
import Derived.Test.YtfdfakapkhflcaaL3
import Derived.Test.YtfdfakapkhflcaaRows
set_option linter.unusedSectionVars false
set_option linter.unusedSimpArgs false
set_option linter.unusedVariables false
namespace Go.Proofs.Try
open Go Go.Am Go.RowKit
variable [SymE]
theorem mixed : prog.follows .mixedOrders = true := by kernel_rfl
def shT : Unit → Value := fun r => .tuple #[]
theorem z2 : (prog.info? 2).bind (·.zero) = some (.int .i64 0) := by kernel_rfl
theorem sz3 : (prog.info? 3).map (·.size) = some 1 := by kernel_rfl
theorem sz4 : (prog.info? 4).map (·.size) = some 1 := by kernel_rfl
theorem by4 : (prog.info? 4).map (·.bytes) = some 1 := by kernel_rfl
theorem z4 : (prog.info? 4).bind (·.zero) = some (.bool false) := by kernel_rfl
theorem sz5 : (prog.info? 5).map (·.size) = some 1 := by kernel_rfl
theorem by5 : (prog.info? 5).map (·.bytes) = some 1 := by kernel_rfl
theorem z5 : (prog.info? 5).bind (·.zero) = some (.int .u8 0) := by kernel_rfl
theorem sz24 : (prog.info? 24).map (·.size) = some 1 := by kernel_rfl
theorem by24 : (prog.info? 24).map (·.bytes) = some 8 := by kernel_rfl
theorem z24 : (prog.info? 24).bind (·.zero) = some (.int .u64 0) := by kernel_rfl
theorem sz25 : (prog.info? 25).map (·.size) = some 1 := by kernel_rfl
theorem sz26 : (prog.info? 26).map (·.size) = some 1 := by kernel_rfl
theorem sz27 : (prog.info? 27).map (·.size) = some 1 := by kernel_rfl
theorem sz28 : (prog.info? 28).map (·.size) = some 1 := by kernel_rfl
theorem sz30 : (prog.info? 30).map (·.size) = some 16 := by kernel_rfl
theorem z30 : (prog.info? 30).bind (·.zero) = some (.agg #[.int .i64 0, .int .i64 0, .int .i64 0, .int .u64 0, .int .i64 0, .int .u64 0, .int .u64 0, .slice none 0 0, .slice none 0 0, .int .u64 0, .int .u8 0, .int .i64 0, .int .i64 0, .slice none 0 0, .slice none 0 0, .slice none 0 0]) := by kernel_rfl
theorem bo30 : BuildOk prog 30 [.int .i64 0, .int .i64 0, .int .i64 0, .int .u64 0, .int .i64 0, .int .u64 0, .int .u64 0, (.slice none 0 0), (.slice none 0 0), .int .u64 0, .int .u8 0, .int .i64 0, .int .i64 0, (.slice none 0 0), (.slice none 0 0), (.slice none 0 0)] [(0, 1), (1, 1), (2, 1), (3, 1), (4, 1), (5, 1), (6, 1), (7, 1), (8, 1), (9, 1), (10, 1), (11, 1), (12, 1), (13, 1), (14, 1), (15, 1)] := ⟨_, _, z30, rfl, rfl, underlying30, by kernel_rfl, by kernel_rfl⟩
theorem sz34 : (prog.info? 34).map (·.size) = some 1 := by kernel_rfl
theorem sz40 : (prog.info? 40).map (·.size) = some 4 := by kernel_rfl
theorem by40 : (prog.info? 40).map (·.bytes) = some 48 := by kernel_rfl
theorem z40 : (prog.info? 40).bind (·.zero) = some (.agg #[.int .u64 0, .int .u64 0, .int .u64 0, .slice none 0 0]) := by kernel_rfl
theorem bo40 : BuildOk prog 40 [.int .u64 0, .int .u64 0, .int .u64 0, (.slice none 0 0)] [(0, 1), (1, 1), (2, 1), (3, 1)] := ⟨_, _, z40, rfl, rfl, underlying40, by kernel_rfl, by kernel_rfl⟩
theorem sz73 : (prog.info? 73).map (·.size) = some 1 := by kernel_rfl
theorem z73 : (prog.info? 73).bind (·.zero) = some (.pointer none) := by kernel_rfl
theorem z76 : (prog.info? 76).bind (·.zero) = some (.agg #[.int .i64 0, .int .i64 0, .int .i64 0, .int .u64 0, .int .i64 0, .int .u64 0, .int .u64 0, .slice none 0 0, .slice none 0 0, .int .u64 0, .int .u8 0, .int .i64 0, .int .i64 0, .slice none 0 0, .slice none 0 0, .slice none 0 0, .slice none 0 0]) := by kernel_rfl
theorem bo76 : BuildOk prog 76 [.int .i64 0, .int .i64 0, .int .i64 0, .int .u64 0, .int .i64 0, .int .u64 0, .int .u64 0, (.slice none 0 0), (.slice none 0 0), .int .u64 0, .int .u8 0, .int .i64 0, .int .i64 0, (.slice none 0 0), (.slice none 0 0), (.slice none 0 0), (.slice none 0 0)] [(0, 16), (16, 1)] := ⟨_, _, z76, rfl, rfl, underlying76, by kernel_rfl, by kernel_rfl⟩
def sh0 : Unit → Value := fun r => .tuple #[]
def sh1 : Unit → Value := fun r => .tuple #[]
def sh2 : Unit → Value := fun r => .tuple #[]
def sh3 : Bool → Value := fun r => .bool r
def sh4 : Bool → Value := fun r => .bool r
def sh7 : Bool → Value := fun r => .bool r
theorem is7 : IsFn prog 7 := isFn_of func7 (by kernel_rfl) (by kernel_rfl)
def sh8 : (Int × Int × Int × Int × Int × Int × Int × Value × Value × Int × Int × Int × Int × Value × Value × Value × Int) → Value := fun r => .tuple #[.agg #[.int .i64 r.1, .int .i64 r.2.1, .int .i64 r.2.2.1, .int .u64 r.2.2.2.1, .int .i64 r.2.2.2.2.1, .int .u64 r.2.2.2.2.2.1, .int .u64 r.2.2.2.2.2.2.1, r.2.2.2.2.2.2.2.1, r.2.2.2.2.2.2.2.2.1, .int .u64 r.2.2.2.2.2.2.2.2.2.1, .int .u8 r.2.2.2.2.2.2.2.2.2.2.1, .int .i64 r.2.2.2.2.2.2.2.2.2.2.2.1, .int .i64 r.2.2.2.2.2.2.2.2.2.2.2.2.1, r.2.2.2.2.2.2.2.2.2.2.2.2.2.1, r.2.2.2.2.2.2.2.2.2.2.2.2.2.2.1, r.2.2.2.2.2.2.2.2.2.2.2.2.2.2.2.1], .int .i64 r.2.2.2.2.2.2.2.2.2.2.2.2.2.2.2.2]
theorem is8 : IsFn prog 8 := isFn_of func8 (by kernel_rfl) (by kernel_rfl)
def sh9 : (Int × Int × Int × Int × Int × Int × Int × Value × Value × Int × Int × Int × Int × Value × Value × Value × Value) → Value := fun r => .tuple #[.agg #[.int .i64 r.1, .int .i64 r.2.1, .int .i64 r.2.2.1, .int .u64 r.2.2.2.1, .int .i64 r.2.2.2.2.1, .int .u64 r.2.2.2.2.2.1, .int .u64 r.2.2.2.2.2.2.1, r.2.2.2.2.2.2.2.1, r.2.2.2.2.2.2.2.2.1, .int .u64 r.2.2.2.2.2.2.2.2.2.1, .int .u8 r.2.2.2.2.2.2.2.2.2.2.1, .int .i64 r.2.2.2.2.2.2.2.2.2.2.2.1, .int .i64 r.2.2.2.2.2.2.2.2.2.2.2.2.1, r.2.2.2.2.2.2.2.2.2.2.2.2.2.1, r.2.2.2.2.2.2.2.2.2.2.2.2.2.2.1, r.2.2.2.2.2.2.2.2.2.2.2.2.2.2.2.1], r.2.2.2.2.2.2.2.2.2.2.2.2.2.2.2.2]
theorem is9 : IsFn prog 9 := isFn_of func9 (by kernel_rfl) (by kernel_rfl)
def sh10 : (Int × Int × Int × Int × Int × Int × Int × Value × Value × Int × Int × Int × Int × Value × Value × Value × Value × Int × Int) → Value := fun r => .tuple #[.agg #[.int .i64 r.1, .int .i64 r.2.1, .int .i64 r.2.2.1, .int .u64 r.2.2.2.1, .int .i64 r.2.2.2.2.1, .int .u64 r.2.2.2.2.2.1, .int .u64 r.2.2.2.2.2.2.1, r.2.2.2.2.2.2.2.1, r.2.2.2.2.2.2.2.2.1, .int .u64 r.2.2.2.2.2.2.2.2.2.1, .int .u8 r.2.2.2.2.2.2.2.2.2.2.1, .int .i64 r.2.2.2.2.2.2.2.2.2.2.2.1, .int .i64 r.2.2.2.2.2.2.2.2.2.2.2.2.1, r.2.2.2.2.2.2.2.2.2.2.2.2.2.1, r.2.2.2.2.2.2.2.2.2.2.2.2.2.2.1, r.2.2.2.2.2.2.2.2.2.2.2.2.2.2.2.1], r.2.2.2.2.2.2.2.2.2.2.2.2.2.2.2.2.1, .int .u64 r.2.2.2.2.2.2.2.2.2.2.2.2.2.2.2.2.2.1, .int .i64 r.2.2.2.2.2.2.2.2.2.2.2.2.2.2.2.2.2.2]
theorem is10 : IsFn prog 10 := isFn_of func10 (by kernel_rfl) (by kernel_rfl)
def sh22 : Int → Value := fun r => .int .u64 r
theorem is22 : IsFn prog 22 := isFn_of func22 (by kernel_rfl) (by kernel_rfl)
def sh23 : (Int × Int × Int × Int × Int × Int × Int × Value × Value × Int × Int × Int × Int × Value × Value × Value) → Value := fun r => .agg #[.int .i64 r.1, .int .i64 r.2.1, .int .i64 r.2.2.1, .int .u64 r.2.2.2.1, .int .i64 r.2.2.2.2.1, .int .u64 r.2.2.2.2.2.1, .int .u64 r.2.2.2.2.2.2.1, r.2.2.2.2.2.2.2.1, r.2.2.2.2.2.2.2.2.1, .int .u64 r.2.2.2.2.2.2.2.2.2.1, .int .u8 r.2.2.2.2.2.2.2.2.2.2.1, .int .i64 r.2.2.2.2.2.2.2.2.2.2.2.1, .int .i64 r.2.2.2.2.2.2.2.2.2.2.2.2.1, r.2.2.2.2.2.2.2.2.2.2.2.2.2.1, r.2.2.2.2.2.2.2.2.2.2.2.2.2.2.1, r.2.2.2.2.2.2.2.2.2.2.2.2.2.2.2]
theorem is23 : IsFn prog 23 := isFn_of func23 (by kernel_rfl) (by kernel_rfl)
def sh24 : Unit → Value := fun r => .tuple #[]
theorem is24 : IsFn prog 24 := isFn_of func24 (by kernel_rfl) (by kernel_rfl)
def sh26 : Unit → Value := fun r => .tuple #[]
theorem is26 : IsFn prog 26 := isFn_of func26 (by kernel_rfl) (by kernel_rfl)
def sh27 : (Int × Bool) → Value := fun r => .tuple #[.int .u64 r.1, .bool r.2]
theorem is27 : IsFn prog 27 := isFn_of func27 (by kernel_rfl) (by kernel_rfl)
def sh30 : Unit → Value := fun r => .tuple #[]
theorem is30 : IsFn prog 30 := isFn_of func30 (by kernel_rfl) (by kernel_rfl)
def sh31 : Unit → Value := fun r => .tuple #[]
theorem is31 : IsFn prog 31 := isFn_of func31 (by kernel_rfl) (by kernel_rfl)
def sh57 : Value → Value := fun r => r
theorem is57 : IsFn prog 57 := isFn_of func57 (by kernel_rfl) (by kernel_rfl)
def sh58 : Value → Value := fun r => r
theorem is58 : IsFn prog 58 := isFn_of func58 (by kernel_rfl) (by kernel_rfl)
def sh59 : Value → Value := fun r => r
theorem is59 : IsFn prog 59 := isFn_of func59 (by kernel_rfl) (by kernel_rfl)
def sh61 : Unit → Value := fun r => .tuple #[]
theorem is61 : IsFn prog 61 := isFn_of func61 (by kernel_rfl) (by kernel_rfl)
def sh72 : Value → Value := fun r => r
theorem is72 : IsFn prog 72 := isFn_of func72 (by kernel_rfl) (by kernel_rfl)
def sh73 : Value → Value := fun r => r
theorem is73 : IsFn prog 73 := isFn_of func73 (by kernel_rfl) (by kernel_rfl)
def sh74 : Value → Value := fun r => r
theorem is74 : IsFn prog 74 := isFn_of func74 (by kernel_rfl) (by kernel_rfl)
def sh75 : Unit → Value := fun r => .tuple #[]
theorem is75 : IsFn prog 75 := isFn_of func75 (by kernel_rfl) (by kernel_rfl)
def sh77 : Value → Value := fun r => r
theorem is77 : IsFn prog 77 := isFn_of func77 (by kernel_rfl) (by kernel_rfl)
def sh78 : Unit → Value := fun r => .tuple #[]
theorem is78 : IsFn prog 78 := isFn_of func78 (by kernel_rfl) (by kernel_rfl)
def sh79 : Int → Value := fun r => .int .i64 r
theorem is79 : IsFn prog 79 := isFn_of func79 (by kernel_rfl) (by kernel_rfl)
def sh80 : Unit → Value := fun r => .tuple #[]
theorem is80 : IsFn prog 80 := isFn_of func80 (by kernel_rfl) (by kernel_rfl)
def sh81 : Unit → Value := fun r => .tuple #[]
theorem is81 : IsFn prog 81 := isFn_of func81 (by kernel_rfl) (by kernel_rfl)
def sh82 : Unit → Value := fun r => .tuple #[]
theorem is82 : IsFn prog 82 := isFn_of func82 (by kernel_rfl) (by kernel_rfl)
def sh83 : (Int × Int) → Value := fun r => .tuple #[.int .i64 r.1, .int .i64 r.2]
theorem is83 : IsFn prog 83 := isFn_of func83 (by kernel_rfl) (by kernel_rfl)
def sh84 : Unit → Value := fun r => .tuple #[]
theorem is84 : IsFn prog 84 := isFn_of func84 (by kernel_rfl) (by kernel_rfl)
def sh85 : Bool → Value := fun r => .bool r
theorem is85 : IsFn prog 85 := isFn_of func85 (by kernel_rfl) (by kernel_rfl)
def sh86 : Bool → Value := fun r => .bool r
theorem is86 : IsFn prog 86 := isFn_of func86 (by kernel_rfl) (by kernel_rfl)
def sh87 : Int → Value := fun r => .int .i64 r
theorem is87 : IsFn prog 87 := isFn_of func87 (by kernel_rfl) (by kernel_rfl)
def sh88 : (Int × Bool) → Value := fun r => .tuple #[.int .i64 r.1, .bool r.2]
theorem is88 : IsFn prog 88 := isFn_of func88 (by kernel_rfl) (by kernel_rfl)
def sh90 : Int → Value := fun r => .int .i64 r
theorem is90 : IsFn prog 90 := isFn_of func90 (by kernel_rfl) (by kernel_rfl)
def sh96 : Bool → Value := fun r => .bool r
theorem is96 : IsFn prog 96 := isFn_of func96 (by kernel_rfl) (by kernel_rfl)
end Go.Proofs.Try
