/- machine: the sign of two operands of the stack. -/
import Derived.Test.YtfoceofohlpafaaDoorMx8
set_option linter.unusedSectionVars false
set_option linter.unusedSimpArgs false
set_option linter.unusedVariables false
namespace Go.Proofs.Tryd
open Go Go.Am Go.RowKit
variable [SymE]
set_option maxHeartbeats 1000000
section
variable {aw0 aw : AW} {own : List Nat} {ro l : List (Nat × Blk)} {m bs : Nat} {h fu gl sk fr tr ad bu mo : Value} {fuel space most : Int} {E : List PanicEntry → AW → Prop} {a b : Nat} {sign : Int} {st : List Nat} {js : List Value}
end
end Go.Proofs.Tryd
