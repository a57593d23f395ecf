/- Printed by a program of the prover: what the Go functions of this seat do, in steps. -/
import Derived.Test.YtfgihmgeplcfoaaGreatDoorL5
import Derived.Test.YtfgihmgeplcfoaaGreatDoorProg
set_option linter.unusedSectionVars false
set_option linter.unusedSimpArgs false
set_option linter.unusedVariables false
namespace Go.Proofs.Tryz
open Go Go.Am Go.RowKit
variable [SymE]
theorem mixed : prog.follows .mixedOrders = true := by kernel_rfl
theorem sz2 : (prog.info? 2).map (·.size) = some 1 := by kernel_rfl
theorem sz3 : (prog.info? 3).map (·.size) = some 1 := by kernel_rfl
theorem sz4 : (prog.info? 4).map (·.size) = some 1 := by kernel_rfl
theorem sz5 : (prog.info? 5).map (·.size) = some 1 := by kernel_rfl
theorem by5 : (prog.info? 5).map (·.bytes) = some 1 := by kernel_rfl
theorem z5 : (prog.info? 5).bind (·.zero) = some (.int .u8 0) := by kernel_rfl
theorem sz9 : (prog.info? 9).map (·.size) = some 1 := by kernel_rfl
theorem sz22 : (prog.info? 22).map (·.size) = some 1 := by kernel_rfl
theorem sz23 : (prog.info? 23).map (·.size) = some 1 := by kernel_rfl
theorem sz24 : (prog.info? 24).map (·.size) = some 1 := by kernel_rfl
theorem sz26 : (prog.info? 26).map (·.size) = some 6 := by kernel_rfl
theorem z26 : (prog.info? 26).bind (·.zero) = some (.agg #[.int .i64 0, .int .i64 0, .string ⟨#[]⟩, .slice none 0 0, .string ⟨#[]⟩, .slice none 0 0]) := by kernel_rfl
theorem bo26 : BuildOk prog 26 [.int .i64 0, .int .i64 0, .string (⟨#[]⟩ : ByteArray), (.slice none 0 0), .string (⟨#[]⟩ : ByteArray), (.slice none 0 0)] [(0, 1), (1, 1), (2, 1), (3, 1), (4, 1), (5, 1)] := ⟨_, _, z26, rfl, rfl, underlying26, by kernel_rfl, by kernel_rfl⟩
theorem sz29 : (prog.info? 29).map (·.size) = some 3 := by kernel_rfl
theorem by29 : (prog.info? 29).map (·.bytes) = some 48 := by kernel_rfl
theorem z29 : (prog.info? 29).bind (·.zero) = some (.agg #[.string ⟨#[]⟩, .string ⟨#[]⟩, .string ⟨#[]⟩]) := by kernel_rfl
theorem bo29 : BuildOk prog 29 [.string (⟨#[]⟩ : ByteArray), .string (⟨#[]⟩ : ByteArray), .string (⟨#[]⟩ : ByteArray)] [(0, 1), (1, 1), (2, 1)] := ⟨_, _, z29, rfl, rfl, underlying29, by kernel_rfl, by kernel_rfl⟩
theorem nest29 (a b : Operand) (x0 y0 : ByteArray) (x1 y1 : ByteArray) (x2 y2 : ByteArray) (w : World) : (do eqGuard .neq 29 a b (.agg #[.string x0, .string x1, .string x2]) (.agg #[.string y0, .string y1, .string y2]); binOp .neq 29 (.agg #[.string x0, .string x1, .string x2]) (.agg #[.string y0, .string y1, .string y2]) : Sem Value).run prog w = .ok (.bool (!(decide (x0 = y0) && (decide (x1 = y1) && (decide (x2 = y2) && (true)))))) w :=
  stNe underlying29 (by kernel_rfl) (by kernel_rfl) (.str rfl underlying9 rfl rfl (.str rfl underlying9 rfl rfl (.str rfl underlying9 rfl rfl .nil))) a b w
theorem sz30 : (prog.info? 30).map (·.size) = some 1 := by kernel_rfl
theorem z47 : (prog.info? 47).bind (·.zero) = some (.agg #[.slice none 0 0]) := by kernel_rfl
theorem bo47 : BuildOk prog 47 [(.slice none 0 0)] [(0, 1)] := ⟨_, _, z47, rfl, rfl, underlying47, by kernel_rfl, by kernel_rfl⟩
theorem sz52 : (prog.info? 52).map (·.size) = some 2 := by kernel_rfl
theorem by52 : (prog.info? 52).map (·.bytes) = some 16 := by kernel_rfl
theorem z52 : (prog.info? 52).bind (·.zero) = some (.agg #[.bool false, .int .i64 0]) := by kernel_rfl
theorem bo52 : BuildOk prog 52 [.bool false, .int .i64 0] [(0, 1), (1, 1)] := ⟨_, _, z52, rfl, rfl, underlying52, by kernel_rfl, by kernel_rfl⟩
theorem nest52 (a b : Operand) (x0 y0 : Bool) (x1 y1 : Int) (w : World) : (do eqGuard .neq 52 a b (.agg #[.bool x0, .int .i64 x1]) (.agg #[.bool y0, .int .i64 y1]); binOp .neq 52 (.agg #[.bool x0, .int .i64 x1]) (.agg #[.bool y0, .int .i64 y1]) : Sem Value).run prog w = .ok (.bool (!(decide (x0 = y0) && (decide (x1 = y1) && (true))))) w :=
  stNe underlying52 (by kernel_rfl) (by kernel_rfl) (.bool rfl underlying4 rfl rfl (.int rfl underlying2 rfl rfl .nil)) a b w
theorem z84 : (prog.info? 84).bind (·.zero) = some (.agg #[.slice none 0 0, .bool false]) := by kernel_rfl
theorem bo84 : BuildOk prog 84 [(.slice none 0 0), .bool false] [(0, 1), (1, 1)] := ⟨_, _, z84, rfl, rfl, underlying84, by kernel_rfl, by kernel_rfl⟩
def sh3 : Bool → Value := fun r => .bool r
def sh5 : Bool → Value := fun r => .bool r
theorem is5 : IsFn prog 5 := isFn_of func5 (by kernel_rfl) (by kernel_rfl)
def sh6 : Value → Value := fun r => r
theorem is6 : IsFn prog 6 := isFn_of func6 (by kernel_rfl) (by kernel_rfl)
def sh7 : (Int × Int × ByteArray × Value × ByteArray × Value × Int) → Value := fun r => .tuple #[.agg #[.int .i64 r.1, .int .i64 r.2.1, .string r.2.2.1, r.2.2.2.1, .string r.2.2.2.2.1, r.2.2.2.2.2.1], .int .i64 r.2.2.2.2.2.2]
theorem is7 : IsFn prog 7 := isFn_of func7 (by kernel_rfl) (by kernel_rfl)
def sh8 : Value → Value := fun r => r
theorem is8 : IsFn prog 8 := isFn_of func8 (by kernel_rfl) (by kernel_rfl)
def sh9 : Bool → Value := fun r => .bool r
theorem is9 : IsFn prog 9 := isFn_of func9 (by kernel_rfl) (by kernel_rfl)
def sh13 : Value → Value := fun r => r
theorem is13 : IsFn prog 13 := isFn_of func13 (by kernel_rfl) (by kernel_rfl)
def sh14 : Value → Value := fun r => r
theorem is14 : IsFn prog 14 := isFn_of func14 (by kernel_rfl) (by kernel_rfl)
def sh15 : Value → Value := fun r => r
theorem is15 : IsFn prog 15 := isFn_of func15 (by kernel_rfl) (by kernel_rfl)
def sh16 : Value → Value := fun r => r
theorem is16 : IsFn prog 16 := isFn_of func16 (by kernel_rfl) (by kernel_rfl)
def sh17 : Value → Value := fun r => r
theorem is17 : IsFn prog 17 := isFn_of func17 (by kernel_rfl) (by kernel_rfl)
def sh18 : Int → Value := fun r => .int .i64 r
theorem is18 : IsFn prog 18 := isFn_of func18 (by kernel_rfl) (by kernel_rfl)
def sh19 : ByteArray → Value := fun r => .string r
theorem is19 : IsFn prog 19 := isFn_of func19 (by kernel_rfl) (by kernel_rfl)
def sh20 : Int → Value := fun r => .int .i64 r
theorem is20 : IsFn prog 20 := isFn_of func20 (by kernel_rfl) (by kernel_rfl)
def sh21 : Bool → Value := fun r => .bool r
theorem is21 : IsFn prog 21 := isFn_of func21 (by kernel_rfl) (by kernel_rfl)
def sh22 : Bool → Value := fun r => .bool r
theorem is22 : IsFn prog 22 := isFn_of func22 (by kernel_rfl) (by kernel_rfl)
def sh23 : Value → Value := fun r => r
theorem is23 : IsFn prog 23 := isFn_of func23 (by kernel_rfl) (by kernel_rfl)
def sh24 : Value → Value := fun r => r
theorem is24 : IsFn prog 24 := isFn_of func24 (by kernel_rfl) (by kernel_rfl)
def sh25 : Value → Value := fun r => r
theorem is25 : IsFn prog 25 := isFn_of func25 (by kernel_rfl) (by kernel_rfl)
def sh31 : Value → Value := fun r => r
theorem is31 : IsFn prog 31 := isFn_of func31 (by kernel_rfl) (by kernel_rfl)
def sh32 : Value → Value := fun r => r
theorem is32 : IsFn prog 32 := isFn_of func32 (by kernel_rfl) (by kernel_rfl)
def sh33 : Int → Value := fun r => .int .u64 r
theorem is33 : IsFn prog 33 := isFn_of func33 (by kernel_rfl) (by kernel_rfl)
def sh34 : Value → Value := fun r => r
theorem is34 : IsFn prog 34 := isFn_of func34 (by kernel_rfl) (by kernel_rfl)
def sh35 : Unit → Value := fun r => .tuple #[]
theorem is35 : IsFn prog 35 := isFn_of func35 (by kernel_rfl) (by kernel_rfl)
end Go.Proofs.Tryz
