/- Printed by a program of the prover: what the Go functions of this seat do, in steps. -/
import Derived.Test.YtdamanhpnbefgaaDoorTrydK3
import Derived.Test.YtdamanhpnbefgaaDoorTrydJoins
namespace Go.Proofs.YtdamanhpnbefgaaDoor
open Go.ChangeShapes Go.WideShapes Go.ChangeAt Go.RowKit Go.Am
set_option linter.unusedVariables false
theorem walkRemarks {H : Type} {enc : TypeId × Value → H} {w : World} {vs : List Value} {ds : List (DataW H)} {ps : List MemPlace} (hL : laidMetH Tryd.prog laidAll w) (hA : DataW.TrodAll enc Tryd.prog w 0 (fun _ => true) true [9, 30] vs ds ps)
    (hw : (DataW.weightsEach Tryd.prog [9, 30] ds).all (· ≤ reachBytes) = true) (hv : ∀ (j : Nat) t v, [9, 30][j]? = some t → vs[j]? = some v → ∃ base, Value.okWide Tryd.prog w .any base t v) :
    Calls Tryd.prog 4 vs.toArray w fun e w' => e = .returned (.bool true) ∧ Below w.heap.size w w' :=
  walkA (fun _ => rfl) (by kernel_rfl) (fun aw vs hg ha => by
    obtain ⟨v, r, rfl, h1, ha⟩ := ha.cons
    obtain ⟨u, r, rfl, h2, ha⟩ := ha.cons
    obtain rfl := ha.nil
    obtain ⟨l, rfl, hs⟩ := arg_str h1
    obtain ⟨m, hB, _⟩ := arg_bytes h2
    exact Tryd.T_remarks hg hB) hL hA hw hv
end Go.Proofs.YtdamanhpnbefgaaDoor
