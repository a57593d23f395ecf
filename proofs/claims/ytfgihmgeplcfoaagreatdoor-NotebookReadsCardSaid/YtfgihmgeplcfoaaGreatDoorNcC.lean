/- The document's reply: an outcome as bytes. -/
import Derived.Test.YtfgihmgeplcfoaaGreatDoorNcA
import Derived.Test.YtfgihmgeplcfoaaGreatDoorNbW3
set_option linter.unusedSimpArgs false
set_option linter.unusedVariables false
set_option linter.unusedSectionVars false
namespace Go.Proofs.Tryz
open Go Go.Am Go.RowKit Go.Oc
variable [SymE]
section
variable {aw0 aw : AW} {own : List Nat} {ro l L L1 S : List (Nat × Blk)} {E : List PanicEntry → AW → Prop} {v pv xv : Value} {bs cs : List UInt8} {ob : Nat}
  {e a : Int} {r u : List UInt8} {bv mv : Value} {binds : List Bnd} {moves : List (Bool × Int)} {whole : List UInt8}
end
end Go.Proofs.Tryz
