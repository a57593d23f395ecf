/- Printed by a program of the prover: what the Go functions of this seat do, in steps. -/
import Derived.Test.YtacnonepegjooaaGreatDoorL5
import Derived.Test.YtacnonepegjooaaGreatDoorProg
set_option linter.unusedSectionVars false
set_option linter.unusedSimpArgs false
set_option linter.unusedVariables false
namespace Go.Proofs.Tryz
open Go Go.Am Go.RowKit
variable [SymE]
theorem sz5 : (prog.info? 5).map (·.size) = some 1 := by kernel_rfl
theorem sz9 : (prog.info? 9).map (·.size) = some 1 := by kernel_rfl
theorem z9 : (prog.info? 9).bind (·.zero) = some (.string ⟨#[]⟩) := by kernel_rfl
theorem sz26 : (prog.info? 26).map (·.size) = some 1 := by kernel_rfl
theorem sz28 : (prog.info? 28).map (·.size) = some 4 := by kernel_rfl
theorem sz31 : (prog.info? 31).map (·.size) = some 5 := by kernel_rfl
theorem z31 : (prog.info? 31).bind (·.zero) = some (.agg #[.slice none 0 0, .slice none 0 0, .slice none 0 0, .slice none 0 0, .pointer none]) := by kernel_rfl
def sh4 : Bool → Value := fun r => .bool r
def sh6 : Value → Value := fun r => r
theorem is6 : IsFn prog 6 := isFn_of func6 (by kernel_rfl) (by kernel_rfl)
def sh7 : (Value × Value × Value × Value × Value × Int) → Value := fun r => .tuple #[.agg #[r.1, r.2.1, r.2.2.1, r.2.2.2.1, r.2.2.2.2.1], .int .i64 r.2.2.2.2.2]
theorem is7 : IsFn prog 7 := isFn_of func7 (by kernel_rfl) (by kernel_rfl)
def sh12 : (Value × Value × Value × Value × Value × Bool) → Value := fun r => .tuple #[.agg #[r.1, r.2.1, r.2.2.1, r.2.2.2.1, r.2.2.2.2.1], .bool r.2.2.2.2.2]
theorem is12 : IsFn prog 12 := isFn_of func12 (by kernel_rfl) (by kernel_rfl)
def sh13 : (Value × Value × Value × Value × Value × ByteArray) → Value := fun r => .tuple #[.agg #[r.1, r.2.1, r.2.2.1, r.2.2.2.1, r.2.2.2.2.1], .string r.2.2.2.2.2]
theorem is13 : IsFn prog 13 := isFn_of func13 (by kernel_rfl) (by kernel_rfl)
def sh64 : Int → Value := fun r => .int .u32 r
end Go.Proofs.Tryz
