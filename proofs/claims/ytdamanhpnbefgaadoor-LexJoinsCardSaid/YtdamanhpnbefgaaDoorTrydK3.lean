/- Printed by a program of the prover: what the Go functions of this seat do, in steps. -/
import Derived.Test.YtdamanhpnbefgaaDoorTrydK0
import Derived.Test.YtdamanhpnbefgaaDoorAm16
namespace Go.Proofs.YtdamanhpnbefgaaDoor
open Go.ChangeShapes Go.WideShapes Go.ChangeAt Go.RowKit Go.Am
set_option linter.unusedVariables false
set_option linter.unusedSimpArgs false

def plainTypes : List TypeId := [30, 9, 5]
theorem plainOk : okTypes Tryd.prog plainTypes = true := by kernel_rfl
theorem walkA {H : Type} {enc : TypeId × Value → H} {f : FuncId} {sh : Bool → Value} (hsh : ∀ b, sh b = .bool b) {ts : List TypeId} (hts : (ts.all fun t => plainTypes.contains t) = true)
    (Hc : ∀ aw vs, Tryd.G0 aw → ArgsIn Tryd.prog aw ts vs → CallP Tryd.prog f vs aw sh (fun r _ => r = true) (fun _ _ => False))
    {w : World} {vs : List Value} {ds : List (DataW H)} {ps : List MemPlace} (hL : laidMetH Tryd.prog laidAll w) (hA : DataW.TrodAll enc Tryd.prog w 0 (fun _ => true) true ts vs ds ps)
    (hw : (DataW.weightsEach Tryd.prog ts ds).all (· ≤ reachBytes) = true) (hv : ∀ (j : Nat) t v, ts[j]? = some t → vs[j]? = some v → ∃ base, Value.okWide Tryd.prog w .any base t v) :
    Calls Tryd.prog f vs.toArray w fun e w' => e = .returned (.bool true) ∧ Below w.heap.size w w' := by
  obtain ⟨er, aw, hr, hro, hg, hn, _⟩ := rel0 hL []
  rw [← gsz] at hr
  obtain ⟨s', aw', vs', h1, h2, h3, h4, h5, h6⟩ := open_args plainOk ts vs ds ps hts hA hw hv _ aw hr hro
  exact calls_true hsh (Hc aw' vs' (hg.ext h2) h6) h3 h5
theorem arg_bytes {aw : AW} {v : Value} (h : ArgIn Tryd.prog aw 30 v) : ∃ l, BytesAt aw v l ∧ l.length ≤ reachBytes := h.bytes Tryd.underlying30 Tryd.underlying5 (by kernel_rfl) (by kernel_rfl)
theorem arg_str {aw : AW} {v : Value} (h : ArgIn Tryd.prog aw 9 v) : ∃ l, v = .string (mkB l) ∧ l.length ≤ reachBytes := h.str Tryd.underlying9
theorem arg_byte {aw : AW} {v : Value} (h : ArgIn Tryd.prog aw 5 v) : ∃ b : UInt8, v = .int .u8 (bn b) := h.byte Tryd.underlying5
end Go.Proofs.YtdamanhpnbefgaaDoor
