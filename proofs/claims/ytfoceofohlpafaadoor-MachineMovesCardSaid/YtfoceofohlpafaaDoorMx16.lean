/- machine: a run's answer. -/
import Derived.Test.YtfoceofohlpafaaDoorMx15
set_option linter.unusedSectionVars false
set_option linter.unusedSimpArgs false
set_option linter.unusedVariables false
namespace Go.Proofs.Tryd
open Go Go.Am Go.RowKit
variable [SymE]
set_option maxHeartbeats 1000000
section
variable {aw0 aw : AW} {own : List Nat} {ro l : List (Nat × Blk)} {m bs tb rb n w : Nat} {h fu gl sk fr tr ad mo : Value} {fuel space most : Int} {E : List PanicEntry → AW → Prop} {Q : (Int × Int × ByteArray × ByteArray × Value × Int) → AW → Prop} {s : ByteArray} {st : List Nat} {sj : List Value}
abbrev RB (e w : Int) (r o : ByteArray) (mv : Value) (f : Int) : Blk := ⟨[.int .i64 e, .int .u64 w, .string r, .string o, mv, .int .i64 f], 29, 0, true, 0⟩
end
end Go.Proofs.Tryd
