/- ballot.Decode: the message of some bytes. -/
import Derived.Test.YtfdfakapkhflcaaBaS5
import Derived.Test.YtfdfakapkhflcaaBaC
set_option linter.unusedSimpArgs false
set_option linter.unusedVariables false
set_option linter.unusedSectionVars false
namespace Go.Proofs.Try
open Go Go.Am Go.RowKit Go.Oc
variable [SymE]
section
variable {aw0 aw : AW} {own : List Nat} {ro l L S Sc D F Le : List (Nat × Blk)} {E : List PanicEntry → AW → Prop} {v pv ev dv tv tw : Value} {rb mb tb : Nat} {bad : Bool} {sx se : Oc.St} {Q : (Int × Int × Int × Int × Int × Int × Int × Bool × Value × Value × Int) → AW → Prop}
  {m m1 : Ms} {es tot : List En}
end
section
variable {aw0 aw : AW} {own : List Nat} {ro l S : List (Nat × Blk)} {E : List PanicEntry → AW → Prop} {v : Value} {bs : List UInt8} {Q : (Int × Int × Int × Int × Int × Int × Int × Bool × Value × Value × Int) → AW → Prop}
end
end Go.Proofs.Try
