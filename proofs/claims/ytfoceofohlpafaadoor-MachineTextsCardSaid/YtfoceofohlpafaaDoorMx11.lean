/- machine: instructions. -/
import Derived.Test.YtfoceofohlpafaaDoorMx10
set_option linter.unusedSectionVars false
set_option linter.unusedSimpArgs false
set_option linter.unusedVariables false
namespace Go.Proofs.Tryd
open Go Go.Am Go.RowKit
variable [SymE]
set_option maxHeartbeats 1000000
section
variable {aw0 aw : AW} {own : List Nat} {ro l : List (Nat × Blk)} {m bs bf ib k a b : Nat} {h fu gl fr tr ad bu mo fp : Value} {fuel space most : Int} {E : List PanicEntry → AW → Prop} {sj : List Value} {BF : Blk} {n ia : Int} {s : ByteArray} {st : List Nat}
end
end Go.Proofs.Tryd
