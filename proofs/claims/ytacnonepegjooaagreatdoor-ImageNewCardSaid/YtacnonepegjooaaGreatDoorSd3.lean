/- A call that needs less of the memory. -/
import Derived.Test.YtacnonepegjooaaGreatDoorL5
set_option linter.unusedSectionVars false
set_option linter.unusedSimpArgs false
set_option linter.unusedVariables false
namespace Go.Ri
open Go Go.Am Go.RowKit
variable [SymE]
structure Sub (aw' aw : AW) : Prop where
  next : aw'.next = aw.next
  m : ∀ b B', aw'.m b = some B' → ∃ B, aw.m b = some B ∧ B'.cells = B.cells ∧ B'.elem = B.elem ∧ B'.esz = B.esz ∧ B'.rw = false
  mp : ∀ b, aw'.mp b = none
theorem Rel.sub {G : Nat} {base : Nat → Prop} {w0 w : World} {s : Inj} {aw aw' : AW} (hs : Sub aw' aw) (h : Rel G base w0 s aw w) : Rel G base w0 s aw' w := by
  refine ⟨fun b hb => h.fresh b (by rw [← hs.next]; exact hb), fun b hb => ?_, fun b B' hB => ?_, fun b1 b2 B1 B2 e1 e2 hne h1 h2 k1 k2 hrw => ?_, h.hbase, h.glob, h.below, Maps.none hs.mp⟩
  · cases hB : aw'.m b with
    | none => rfl
    | some B' =>
      obtain ⟨B, h1, _⟩ := hs.m b B' hB
      rw [h.mfresh b (by rw [← hs.next]; exact hb)] at h1; cases h1
  · obtain ⟨B, h1, h2, h3, h4, h5⟩ := hs.m b B' hB
    obtain ⟨e, cs, fz, g1, g2, g3, g4, g5, g6, g7⟩ := h.blk b B h1
    exact ⟨e, cs, fz, g1, ⟨by rw [h4]; exact g2.1, (fun hr => by rw [h5] at hr; cases hr), by rw [h4, h2]; exact g2.2.2⟩, by rw [h3]; exact g3, g4, by rw [h2]; exact g5, by rw [h2]; exact g6, (fun hr => by rw [h5] at hr; cases hr)⟩
  · obtain ⟨B, _, _, _, _, h5⟩ := hs.m b1 B1 h1
    rw [h5] at hrw; cases hrw
theorem acalls_sub {P : Program} {f : FuncId} {args : List Value} {aw' aw : AW} {Q : AEnd → AW → Prop} (hs : Sub aw' aw) (h : ACalls P f args aw' Q) : ACalls P f args aw Q :=
  fun base w0 s args' w hr hv => h base w0 s args' w (Rel.sub hs hr) hv
end Go.Ri
