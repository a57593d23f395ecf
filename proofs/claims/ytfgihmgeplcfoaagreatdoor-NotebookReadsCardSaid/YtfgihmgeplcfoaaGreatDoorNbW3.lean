/- The document's octet: numbers with a sign, and bytes, laid. -/
import Derived.Test.YtfgihmgeplcfoaaGreatDoorNbS3
import Derived.Test.YtfgihmgeplcfoaaGreatDoorNaW
set_option linter.unusedSimpArgs false
set_option linter.unusedVariables false
set_option linter.unusedSectionVars false
namespace Go.Proofs.Tryz
open Go Go.Am Go.RowKit Go.Oc
variable [SymE]
section
variable {aw0 aw : AW} {own : List Nat} {ro l L S : List (Nat × Blk)} {E : List PanicEntry → AW → Prop} {v pv : Value} {bs cs : List UInt8}
end
end Go.Proofs.Tryz
