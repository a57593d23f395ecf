/- BallotReads: from the row's world. -/
import Derived.Test.YtfdfakapkhflcaaBK0
import Derived.Test.YtfdfakapkhflcaaBaS9
set_option linter.unusedSectionVars false
set_option linter.unusedVariables false
set_option linter.unusedSimpArgs false
namespace Go.Proofs.Ytfdfakapkhflcaa
open Go.ChangeShapes Go.WideShapes Go.ChangeAt Go.RowKit Go.Am Go.Ri
theorem walkReads {H : Type} {enc : TypeId × Value → H} {w : World} {vs : List Value} {ds : List (DataW H)} {ps : List MemPlace} (hA : DataW.TrodAll enc Try.prog w 0 (fun _ => true) true [25] vs ds ps)
    (hw : (DataW.weightsEach Try.prog [25] ds).all (· ≤ reachBytes) = true) (hv : ∀ (j : Nat) t v, [25][j]? = some t → vs[j]? = some v → ∃ base, Value.okWide Try.prog w .any base t v) :
    Calls Try.prog 4 vs.toArray w fun e w' => e = .returned (.bool true) ∧ Below w.heap.size w w' := by
  letI : SymE := symW
  obtain ⟨s, aw, vs', hr, hG, ha, hvs⟩ := args_rel plainOk (by kernel_rfl) hA hw hv
  obtain ⟨v1, r, rfl, h1, ha⟩ := ha.cons
  obtain rfl := ha.nil
  obtain ⟨l, hb, _⟩ := h1.bytes und25 und5 (by kernel_rfl) (by kernel_rfl)
  obtain ⟨k1, k2⟩ := bytes_rs hb
  exact calls_true (fun b => rfl) (Try.reads_x awk hG k1 k2) hr hvs
end Go.Proofs.Ytfdfakapkhflcaa
