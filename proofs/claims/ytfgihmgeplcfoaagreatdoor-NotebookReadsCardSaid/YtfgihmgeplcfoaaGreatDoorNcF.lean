/- NotebookReplies: any outcome as bytes, and back. -/
import Derived.Test.YtfgihmgeplcfoaaGreatDoorNcB
import Derived.Test.YtfgihmgeplcfoaaGreatDoorNcC
import Derived.Test.YtfgihmgeplcfoaaGreatDoorNcE
import Derived.Test.YtfgihmgeplcfoaaGreatDoorNaL
set_option linter.unusedSimpArgs false
set_option linter.unusedVariables false
set_option linter.unusedSectionVars false
namespace Go.Proofs.Tryz
open Go Go.Am Go.RowKit Go.Oc
variable [SymE]
def AwkN (aw0 : AW) (own : List Nat) (ro : List (Nat × Blk)) : Prop := ∀ {Q : Bool → AW → Prop} {E : List PanicEntry → AW → Prop} {aw : AW} {l : List (Nat × Blk)}, Hp aw0 own ro aw l → Q true aw → CallP prog 5 [] aw sh5 Q E
section
variable {aw0 aw : AW} {ro l L S : List (Nat × Blk)} {own : List Nat} {E : List PanicEntry → AW → Prop}
  {e a : Int} {r u : List UInt8} {bv mv : Value} {binds : List Bnd} {moves : List (Bool × Int)} {ob : Nat} {Q : Bool → AW → Prop}
end
end Go.Proofs.Tryz
