/- octet: what its functions do: bytes copied and compared; the reader. -/
import Derived.Test.YtfdfakapkhflcaaL3
import Derived.Test.YtfdfakapkhflcaaBaA
set_option linter.unusedSimpArgs false
set_option linter.unusedVariables false
set_option linter.unusedSectionVars false
namespace Go.Proofs.Try
open Go Go.Am Go.RowKit Go.Oc
variable [SymE]
section
variable {aw0 aw : AW} {own : List Nat} {ro l S S' : List (Nat × Blk)} {E : List PanicEntry → AW → Prop} {v w pv : Value} {bs cs : List UInt8} {rb : Nat} {bad : Bool} {st : Oc.St}
inductive RdS (aw0 : AW) (own : List Nat) (ro S : List (Nat × Blk)) : Oc.St → Value → Bool → Prop
  | ok {pv : Value} {rest : List UInt8} (h : Rs aw0 own ro S pv rest) (ho : one pv = true) (hl : rest.length < 2 ^ 44) : RdS aw0 own ro S (some rest) pv false
  | bad {pv : Value} (ho : one pv = true) : RdS aw0 own ro S none pv true
theorem RdS.one' (h : RdS aw0 own ro S st pv bad) : one pv = true := by
  cases h with
  | ok _ ho _ => exact ho
  | bad ho => exact ho
end
section
variable {aw0 aw : AW} {own : List Nat} {ro l S : List (Nat × Blk)} {E : List PanicEntry → AW → Prop} {pv : Value} {rb : Nat} {bad : Bool} {st : Oc.St} {Q : Int → AW → Prop}
end
section
variable {aw0 aw : AW} {own : List Nat} {ro l S : List (Nat × Blk)} {E : List PanicEntry → AW → Prop} {pv : Value} {rb : Nat} {bad : Bool} {st : Oc.St} {Q : Value → AW → Prop}
end
end Go.Proofs.Try
