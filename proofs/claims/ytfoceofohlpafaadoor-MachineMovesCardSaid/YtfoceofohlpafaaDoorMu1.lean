/- machine: an exception is caught by the last open try. -/
import Derived.Test.YtfoceofohlpafaaDoorMt9
set_option linter.unusedVariables false
set_option linter.unusedSimpArgs false
set_option linter.unusedSectionVars false
namespace Go.Proofs.Tryd
open Go Go.Am Go.RowKit
variable [SymE]
set_option maxHeartbeats 1000000
abbrev TB (a b c : Nat) : Blk := ⟨[.int .i64 (a : Int), .int .i64 (b : Int), .int .i64 (c : Int)], 132, 3, true, 0⟩
section
variable {aw0 aw : AW} {own : List Nat} {ro l : List (Nat × Blk)} {m bs bf tb hb mb qu f pc base at_ k : Nat} {fu gl ad bu mo : Value} {fuel space most : Int} {st st2 ws : List Nat} {fs fj sj : List Value} {E : List PanicEntry → AW → Prop} {s : ByteArray}
end
end Go.Proofs.Tryd
