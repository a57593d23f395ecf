/- Printed by a program of the prover: what the Go functions of this seat do, in steps. -/
import Derived.Test.YthfjjcfceilahaaGreatDoorL5
import Derived.Test.YthfjjcfceilahaaGreatDoorProg
set_option linter.unusedSectionVars false
set_option linter.unusedSimpArgs false
set_option linter.unusedVariables false
namespace Go.Proofs.Tryz
open Go Go.Am Go.RowKit
variable [SymE]
theorem mixed : prog.follows .mixedOrders = true := by kernel_rfl
theorem z2 : (prog.info? 2).bind (·.zero) = some (.int .i64 0) := by kernel_rfl
theorem sz3 : (prog.info? 3).map (·.size) = some 1 := by kernel_rfl
theorem z3 : (prog.info? 3).bind (·.zero) = some (.int .i64 0) := by kernel_rfl
theorem z4 : (prog.info? 4).bind (·.zero) = some (.bool false) := by kernel_rfl
theorem sz5 : (prog.info? 5).map (·.size) = some 1 := by kernel_rfl
theorem z5 : (prog.info? 5).bind (·.zero) = some (.int .u8 0) := by kernel_rfl
theorem sz9 : (prog.info? 9).map (·.size) = some 1 := by kernel_rfl
theorem by9 : (prog.info? 9).map (·.bytes) = some 16 := by kernel_rfl
theorem z9 : (prog.info? 9).bind (·.zero) = some (.string ⟨#[]⟩) := by kernel_rfl
theorem z21 : (prog.info? 21).bind (·.zero) = some (.int .i32 0) := by kernel_rfl
theorem z31 : (prog.info? 31).bind (·.zero) = some (.slice none 0 0) := by kernel_rfl
theorem sz32 : (prog.info? 32).map (·.size) = some 1 := by kernel_rfl
theorem sz35 : (prog.info? 35).map (·.size) = some 6 := by kernel_rfl
theorem sz44 : (prog.info? 44).map (·.size) = some 4 := by kernel_rfl
theorem z44 : (prog.info? 44).bind (·.zero) = some (.agg #[.int .u8 0, .string ⟨#[]⟩, .int .i64 0, .slice none 0 0]) := by kernel_rfl
theorem sz47 : (prog.info? 47).map (·.size) = some 11 := by kernel_rfl
theorem z51 : (prog.info? 51).bind (·.zero) = some (.slice none 0 0) := by kernel_rfl
def sh6 : Bool → Value := fun r => .bool r
def sh10 : Bool → Value := fun r => .bool r
theorem is10 : IsFn prog 10 := isFn_of func10 (by kernel_rfl) (by kernel_rfl)
def sh11 : (Value × Int × Int) → Value := fun r => .tuple #[r.1, .int .i64 r.2.1, .int .i64 r.2.2]
theorem is11 : IsFn prog 11 := isFn_of func11 (by kernel_rfl) (by kernel_rfl)
def sh16 : Value → Value := fun r => r
theorem is16 : IsFn prog 16 := isFn_of func16 (by kernel_rfl) (by kernel_rfl)
def sh23 : Unit → Value := fun r => .tuple #[]
theorem is23 : IsFn prog 23 := isFn_of func23 (by kernel_rfl) (by kernel_rfl)
theorem ext63 : IsExt prog 63 Extern.BytealgIndexByte.indexByte := ⟨f63, func63, by kernel_rfl, by kernel_rfl, by kernel_rfl, by kernel_rfl⟩
def sh71 : (Int × ByteArray × Int × Value) → Value := fun r => .agg #[.int .u8 r.1, .string r.2.1, .int .i64 r.2.2.1, r.2.2.2]
def sh81 : (Int × ByteArray × Int × Value) → Value := fun r => .agg #[.int .u8 r.1, .string r.2.1, .int .i64 r.2.2.1, r.2.2.2]
theorem is81 : IsFn prog 81 := isFn_of func81 (by kernel_rfl) (by kernel_rfl)
def sh82 : Unit → Value := fun r => .tuple #[]
theorem is82 : IsFn prog 82 := isFn_of func82 (by kernel_rfl) (by kernel_rfl)
def sh83 : Value → Value := fun r => r
theorem is83 : IsFn prog 83 := isFn_of func83 (by kernel_rfl) (by kernel_rfl)
theorem ext90 : IsExt prog 90 Extern.AbiNoEscape.same := ⟨f90, func90, by kernel_rfl, by kernel_rfl, by kernel_rfl, by kernel_rfl⟩
end Go.Proofs.Tryz
