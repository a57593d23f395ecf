/- The document's octet: what its functions do. -/
import Derived.Test.YtfgihmgeplcfoaaGreatDoorNbS2
import Derived.Test.YtfgihmgeplcfoaaGreatDoorNaW
set_option linter.unusedSimpArgs false
set_option linter.unusedVariables false
set_option linter.unusedSectionVars false
namespace Go.Proofs.Tryz
open Go Go.Am Go.RowKit Go.Oc
variable [SymE]
section
variable {aw0 aw : AW} {own : List Nat} {ro l L S : List (Nat × Blk)} {E : List PanicEntry → AW → Prop} {v pv : Value} {bs cs : List UInt8} {rb : Nat}
theorem toS_b {X : ByteArray → Prop} (h : Rb aw v bs) (hX : X ⟨bs.toArray⟩) : toS aw v X := by
  obtain ⟨q, c, e⟩ := h.len
  exact ⟨bs, bs.length, _, h.src, ⟨q, _, c, e⟩, rfl, hX⟩
theorem againS_b {K : Prop} (h : Rb aw v bs) (hK : K) : againS aw v ⟨bs.toArray⟩ ∧ K := by
  refine ⟨fun l n hl _ hs => ?_, hK⟩
  have e : bs = l := by
    injection hs with hs
    exact congrArg Array.toList hs
  subst e
  rw [← hl]
  exact h.src
end
end Go.Proofs.Tryz
