/- machine: a text is laid in the heap. -/
import Derived.Test.YtfoceofohlpafaaDoorMx5
set_option linter.unusedSectionVars false
set_option linter.unusedSimpArgs false
set_option linter.unusedVariables false
namespace Go.Proofs.Tryd
open Go Go.Am Go.RowKit
variable [SymE]
set_option maxHeartbeats 1000000
section
variable {aw0 aw : AW} {own : List Nat} {ro l : List (Nat × Blk)} {hb : Nat} {E : List PanicEntry → AW → Prop}
end
end Go.Proofs.Tryd
