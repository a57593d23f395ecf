/- Messages compared; awake. -/
import Derived.Test.YtfdfakapkhflcaaBaS6
import Derived.Test.YtfdfakapkhflcaaL3
set_option linter.unusedSimpArgs false
set_option linter.unusedVariables false
set_option linter.unusedSectionVars false
namespace Go.Proofs.Try
open Go Go.Am Go.RowKit Go.Oc
variable [SymE]
section
variable {aw0 aw : AW} {own : List Nat} {ro l S : List (Nat × Blk)} {E : List PanicEntry → AW → Prop} {v av bv ev ev2 dv dv2 : Value} {bs : List UInt8} {m : Ms} {es : List En}
end
def Awk : Prop := ∀ (Q : Bool → AW → Prop) (E : List PanicEntry → AW → Prop) (aw : AW), prog.globals.size ≤ aw.next → Q true aw → CallP prog 7 [] aw sh7 Q E
theorem hp0 (aw : AW) : Hp aw [] [] aw [] := ⟨List.nodup_nil, (fun _ h => by cases h), (fun _ h => by cases h), Nat.le_refl _, (fun _ _ _ => rfl), (fun _ h => by cases h), (fun _ B h1 h2 => ⟨B, h1, h2⟩)⟩
end Go.Proofs.Try
