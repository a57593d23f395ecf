/- Printed by a program of the prover: what the Go functions of this seat do, in steps. -/
import Derived.Test.YtdamanhpnbefgaaDoorTrydK1
import Derived.Test.YtdamanhpnbefgaaDoorTie
import Derived.Test.YtdamanhpnbefgaaDoorCards
namespace Go.Proofs.YtdamanhpnbefgaaDoor
theorem card6 : Rows.LexNamesCardSaid :=
  Claim7.holds_tied_plain_at .later [] [.data, .data, .data, .sentinel, .sentinel, .data, .data] true (true, "120b43a4fcb04904399acea519f7986157eb4869af608735b753bec912f3d528") true
    over6 (fun _ h => by cases h) (by kernel_rfl) (fun _ h => by cases h) lexNames_row_tie rfl ⟨rfl, rfl⟩ (by kernel_rfl) rfl
    (fun f fn hf hfn => by
      obtain rfl : f = 6 := Option.some.inj ((show Tryd.prog.funcNamed "battledore/battledorelaw03.LexNames" = some 6 by kernel_rfl).symm.trans hf) |>.symm
      obtain rfl : fn = Tryd.f6 := (Option.some.inj (Tryd.func6.symm.trans hfn)).symm
      exact ⟨by kernel_rfl, fun j t ht => by
        rw [Tryd.params6] at ht
        have hm : t ∈ [30] := by simpa using Array.mem_of_getElem? ht
        have hall : ([30].all fun u => !Tryd.prog.wantsStandIn u) = true := by kernel_rfl
        exact (show Tryd.prog.wantsStandIn t = false by simpa using List.all_eq_true.1 hall t hm)⟩)
    (by kernel_rfl)
end Go.Proofs.YtdamanhpnbefgaaDoor
