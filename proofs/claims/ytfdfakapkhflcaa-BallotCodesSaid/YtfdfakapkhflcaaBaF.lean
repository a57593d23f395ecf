/- Printed by a program of the prover: what the Go functions of this seat do, in steps. -/
import Derived.Test.YtfdfakapkhflcaaL3
import Derived.Test.YtfdfakapkhflcaaRows
set_option linter.unusedSectionVars false
set_option linter.unusedSimpArgs false
set_option linter.unusedVariables false
namespace Go.Proofs.Try
open Go Go.Am Go.RowKit
variable [SymE]
theorem mixed : prog.follows .mixedOrders = true := by kernel_rfl
theorem z2 : (prog.info? 2).bind (·.zero) = some (.int .i64 0) := by kernel_rfl
theorem sz3 : (prog.info? 3).map (·.size) = some 1 := by kernel_rfl
theorem z3 : (prog.info? 3).bind (·.zero) = some (.int .i64 0) := by kernel_rfl
theorem sz4 : (prog.info? 4).map (·.size) = some 1 := by kernel_rfl
theorem sz5 : (prog.info? 5).map (·.size) = some 1 := by kernel_rfl
theorem by5 : (prog.info? 5).map (·.bytes) = some 1 := by kernel_rfl
theorem z5 : (prog.info? 5).bind (·.zero) = some (.int .u8 0) := by kernel_rfl
theorem sz24 : (prog.info? 24).map (·.size) = some 1 := by kernel_rfl
theorem sz25 : (prog.info? 25).map (·.size) = some 1 := by kernel_rfl
theorem sz26 : (prog.info? 26).map (·.size) = some 1 := by kernel_rfl
theorem sz40 : (prog.info? 40).map (·.size) = some 4 := by kernel_rfl
theorem by40 : (prog.info? 40).map (·.bytes) = some 48 := by kernel_rfl
theorem z40 : (prog.info? 40).bind (·.zero) = some (.agg #[.int .u64 0, .int .u64 0, .int .u64 0, .slice none 0 0]) := by kernel_rfl
theorem bo40 : BuildOk prog 40 [.int .u64 0, .int .u64 0, .int .u64 0, (.slice none 0 0)] [(0, 1), (1, 1), (2, 1), (3, 1)] := ⟨_, _, z40, rfl, rfl, underlying40, by kernel_rfl, by kernel_rfl⟩
theorem sz43 : (prog.info? 43).map (·.size) = some 10 := by kernel_rfl
theorem z43 : (prog.info? 43).bind (·.zero) = some (.agg #[.int .u8 0, .int .i64 0, .int .i64 0, .int .u64 0, .int .u64 0, .int .u64 0, .int .u64 0, .bool false, .slice none 0 0, .slice none 0 0]) := by kernel_rfl
theorem bo43 : BuildOk prog 43 [.int .u8 0, .int .i64 0, .int .i64 0, .int .u64 0, .int .u64 0, .int .u64 0, .int .u64 0, .bool false, (.slice none 0 0), (.slice none 0 0)] [(0, 1), (1, 1), (2, 1), (3, 1), (4, 1), (5, 1), (6, 1), (7, 1), (8, 1), (9, 1)] := ⟨_, _, z43, rfl, rfl, underlying43, by kernel_rfl, by kernel_rfl⟩
theorem sz46 : (prog.info? 46).map (·.size) = some 10 := by kernel_rfl
theorem z46 : (prog.info? 46).bind (·.zero) = some (.agg #[.int .u8 0, .int .i64 0, .int .i64 0, .int .u64 0, .int .u64 0, .int .u64 0, .int .u64 0, .bool false, .slice none 0 0, .slice none 0 0]) := by kernel_rfl
theorem z98 : (prog.info? 98).bind (·.zero) = some (.agg #[.slice none 0 0]) := by kernel_rfl
theorem bo98 : BuildOk prog 98 [(.slice none 0 0)] [(0, 1)] := ⟨_, _, z98, rfl, rfl, underlying98, by kernel_rfl, by kernel_rfl⟩
theorem z116 : (prog.info? 116).bind (·.zero) = some (.agg #[.slice none 0 0, .bool false]) := by kernel_rfl
theorem bo116 : BuildOk prog 116 [(.slice none 0 0), .bool false] [(0, 1), (1, 1)] := ⟨_, _, z116, rfl, rfl, underlying116, by kernel_rfl, by kernel_rfl⟩
def sh0 : Unit → Value := fun r => .tuple #[]
def sh1 : Unit → Value := fun r => .tuple #[]
def sh2 : Unit → Value := fun r => .tuple #[]
def sh3 : Bool → Value := fun r => .bool r
def sh4 : Bool → Value := fun r => .bool r
def sh5 : Bool → Value := fun r => .bool r
def sh7 : Bool → Value := fun r => .bool r
theorem is7 : IsFn prog 7 := isFn_of func7 (by kernel_rfl) (by kernel_rfl)
def sh11 : (Int × Int × Int × Int × Int × Int × Int × Bool × Value × Value × Int) → Value := fun r => .tuple #[.agg #[.int .u8 r.1, .int .i64 r.2.1, .int .i64 r.2.2.1, .int .u64 r.2.2.2.1, .int .u64 r.2.2.2.2.1, .int .u64 r.2.2.2.2.2.1, .int .u64 r.2.2.2.2.2.2.1, .bool r.2.2.2.2.2.2.2.1, r.2.2.2.2.2.2.2.2.1, r.2.2.2.2.2.2.2.2.2.1], .int .i64 r.2.2.2.2.2.2.2.2.2.2]
theorem is11 : IsFn prog 11 := isFn_of func11 (by kernel_rfl) (by kernel_rfl)
def sh13 : Bool → Value := fun r => .bool r
theorem is13 : IsFn prog 13 := isFn_of func13 (by kernel_rfl) (by kernel_rfl)
def sh14 : (Int × Int × Int × Int × Int × Int × Int × Bool × Value × Value) → Value := fun r => .agg #[.int .u8 r.1, .int .i64 r.2.1, .int .i64 r.2.2.1, .int .u64 r.2.2.2.1, .int .u64 r.2.2.2.2.1, .int .u64 r.2.2.2.2.2.1, .int .u64 r.2.2.2.2.2.2.1, .bool r.2.2.2.2.2.2.2.1, r.2.2.2.2.2.2.2.2.1, r.2.2.2.2.2.2.2.2.2]
theorem is14 : IsFn prog 14 := isFn_of func14 (by kernel_rfl) (by kernel_rfl)
def sh15 : Value → Value := fun r => r
theorem is15 : IsFn prog 15 := isFn_of func15 (by kernel_rfl) (by kernel_rfl)
def sh16 : Value → Value := fun r => r
theorem is16 : IsFn prog 16 := isFn_of func16 (by kernel_rfl) (by kernel_rfl)
def sh32 : (Value × Int) → Value := fun r => .tuple #[r.1, .int .i64 r.2]
theorem is32 : IsFn prog 32 := isFn_of func32 (by kernel_rfl) (by kernel_rfl)
def sh33 : Value → Value := fun r => r
theorem is33 : IsFn prog 33 := isFn_of func33 (by kernel_rfl) (by kernel_rfl)
def sh34 : Int → Value := fun r => .int .i64 r
theorem is34 : IsFn prog 34 := isFn_of func34 (by kernel_rfl) (by kernel_rfl)
def sh35 : Int → Value := fun r => .int .i64 r
theorem is35 : IsFn prog 35 := isFn_of func35 (by kernel_rfl) (by kernel_rfl)
def sh36 : Int → Value := fun r => .int .u64 r
theorem is36 : IsFn prog 36 := isFn_of func36 (by kernel_rfl) (by kernel_rfl)
def sh37 : Bool → Value := fun r => .bool r
theorem is37 : IsFn prog 37 := isFn_of func37 (by kernel_rfl) (by kernel_rfl)
def sh38 : Value → Value := fun r => r
theorem is38 : IsFn prog 38 := isFn_of func38 (by kernel_rfl) (by kernel_rfl)
def sh39 : Bool → Value := fun r => .bool r
theorem is39 : IsFn prog 39 := isFn_of func39 (by kernel_rfl) (by kernel_rfl)
def sh40 : (Value × Int) → Value := fun r => .tuple #[r.1, .int .i64 r.2]
def sh45 : Bool → Value := fun r => .bool r
theorem is45 : IsFn prog 45 := isFn_of func45 (by kernel_rfl) (by kernel_rfl)
def sh46 : Value → Value := fun r => r
theorem is46 : IsFn prog 46 := isFn_of func46 (by kernel_rfl) (by kernel_rfl)
def sh47 : Value → Value := fun r => r
theorem is47 : IsFn prog 47 := isFn_of func47 (by kernel_rfl) (by kernel_rfl)
def sh48 : Value → Value := fun r => r
theorem is48 : IsFn prog 48 := isFn_of func48 (by kernel_rfl) (by kernel_rfl)
def sh49 : Value → Value := fun r => r
theorem is49 : IsFn prog 49 := isFn_of func49 (by kernel_rfl) (by kernel_rfl)
def sh50 : Value → Value := fun r => r
theorem is50 : IsFn prog 50 := isFn_of func50 (by kernel_rfl) (by kernel_rfl)
def sh51 : Value → Value := fun r => r
theorem is51 : IsFn prog 51 := isFn_of func51 (by kernel_rfl) (by kernel_rfl)
def sh52 : Value → Value := fun r => r
theorem is52 : IsFn prog 52 := isFn_of func52 (by kernel_rfl) (by kernel_rfl)
def sh53 : Value → Value := fun r => r
theorem is53 : IsFn prog 53 := isFn_of func53 (by kernel_rfl) (by kernel_rfl)
def sh54 : Value → Value := fun r => r
theorem is54 : IsFn prog 54 := isFn_of func54 (by kernel_rfl) (by kernel_rfl)
def sh57 : Value → Value := fun r => r
theorem is57 : IsFn prog 57 := isFn_of func57 (by kernel_rfl) (by kernel_rfl)
def sh62 : Bool → Value := fun r => .bool r
theorem is62 : IsFn prog 62 := isFn_of func62 (by kernel_rfl) (by kernel_rfl)
def sh63 : Unit → Value := fun r => .tuple #[]
theorem is63 : IsFn prog 63 := isFn_of func63 (by kernel_rfl) (by kernel_rfl)
def sh64 : Bool → Value := fun r => .bool r
theorem is64 : IsFn prog 64 := isFn_of func64 (by kernel_rfl) (by kernel_rfl)
def sh65 : Int → Value := fun r => .int .u32 r
theorem is65 : IsFn prog 65 := isFn_of func65 (by kernel_rfl) (by kernel_rfl)
def sh66 : Int → Value := fun r => .int .u32 r
theorem is66 : IsFn prog 66 := isFn_of func66 (by kernel_rfl) (by kernel_rfl)
def sh115 : ByteArray → Value := fun r => .string r
end Go.Proofs.Try
