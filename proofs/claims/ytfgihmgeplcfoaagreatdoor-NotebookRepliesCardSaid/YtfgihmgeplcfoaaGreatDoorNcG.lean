/- NotebookReads: any bytes as an outcome. -/
import Derived.Test.YtfgihmgeplcfoaaGreatDoorNcF
set_option linter.unusedSimpArgs false
set_option linter.unusedVariables false
set_option linter.unusedSectionVars false
namespace Go.Proofs.Tryz
open Go Go.Am Go.RowKit Go.Oc
variable [SymE]
section
variable {aw0 aw : AW} {ro l L S : List (Nat × Blk)} {own : List Nat} {E : List PanicEntry → AW → Prop} {v : Value} {bs : List UInt8} {Q : Bool → AW → Prop}
end
end Go.Proofs.Tryz
