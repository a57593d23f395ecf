/-
  DERIVED. GIVEN WITH THE SEED: THE CARDS: each row of YtfoceofohlpafaaDoorRows.lean that lists a variable, with what it lists TIED to the program's text (the seventh form; the later family's looks); each row that meets fmt, with fmt's text TOLD by the authors' own Lean function (tested against real Go, not proved from fmt's source: count such statements apart). THE CARD IS WHAT COUNTS. Prove the row's statement (the work); the ties are given (YtfoceofohlpafaaDoorTie.lean); close each card by the builder's one call (the guide's Derived/Test/ToyasCard.lean, 'card_holds'). Laid BY PROGRAM, IN A SANDBOX (cutbox-door.mjs). By AI agents, Wed Nov 11 2026. No macro, syntax, notation, axiom, sorry.
-/
import Derived.Test.YtfoceofohlpafaaDoorRows
import GoSem.ClaimSeven
namespace Go.Proofs.YtfoceofohlpafaaDoor
namespace Rows

/-- THE TIED CARD OF 'battledorelaw10.MachineReckons'. -/
def machineReckonsCard : Claim7 := { stood := { row := machineReckonsRow, standIns := [], harness := (true, "bfb89e0271b7f8a8ae90d72ba8c5443c6dd9629a2ca241f7d03148dded4be6c4"), looks := true }, kinds := [], alts := [], laidByText := true, laidKinds := [.data, .data, .data, .data, .data, .sentinel], laidTests := true, laidLooks := .later }
def MachineReckonsCardSaid : Prop := Claim7.holds Tryd.pinned (.plain (OpenSpec.ofChange machineReckonsSpec)) machineReckonsCard

/-- THE TIED CARD OF 'battledorelaw10.MachineFuel'. -/
def machineFuelCard : Claim7 := { stood := { row := machineFuelRow, standIns := [], harness := (true, "bfb89e0271b7f8a8ae90d72ba8c5443c6dd9629a2ca241f7d03148dded4be6c4"), looks := true }, kinds := [], alts := [], laidByText := true, laidKinds := [.data, .data, .data, .data, .data, .sentinel], laidTests := true, laidLooks := .later }
def MachineFuelCardSaid : Prop := Claim7.holds Tryd.pinned (.plain (OpenSpec.ofChange machineFuelSpec)) machineFuelCard

/-- THE TIED CARD OF 'battledorelaw10.MachineMoves'. -/
def machineMovesCard : Claim7 := { stood := { row := machineMovesRow, standIns := [], harness := (true, "bfb89e0271b7f8a8ae90d72ba8c5443c6dd9629a2ca241f7d03148dded4be6c4"), looks := true }, kinds := [], alts := [], laidByText := true, laidKinds := [.data, .data, .data, .data, .data, .sentinel], laidTests := true, laidLooks := .later }
def MachineMovesCardSaid : Prop := Claim7.holds Tryd.pinned (.plain (OpenSpec.ofChange machineMovesSpec)) machineMovesCard

/-- THE TIED CARD OF 'battledorelaw10.MachineTexts'. -/
def machineTextsCard : Claim7 := { stood := { row := machineTextsRow, standIns := [], harness := (true, "bfb89e0271b7f8a8ae90d72ba8c5443c6dd9629a2ca241f7d03148dded4be6c4"), looks := true }, kinds := [], alts := [], laidByText := true, laidKinds := [.data, .data, .data, .data, .data, .sentinel], laidTests := true, laidLooks := .later }
def MachineTextsCardSaid : Prop := Claim7.holds Tryd.pinned (.plain (OpenSpec.ofChange machineTextsSpec)) machineTextsCard

/-- THE TIED CARD OF 'battledorelaw10.MachineDigits'. -/
def machineDigitsCard : Claim7 := { stood := { row := machineDigitsRow, standIns := [], harness := (true, "bfb89e0271b7f8a8ae90d72ba8c5443c6dd9629a2ca241f7d03148dded4be6c4"), looks := true }, kinds := [], alts := [], laidByText := true, laidKinds := [.data, .data, .data, .data, .data, .sentinel], laidTests := true, laidLooks := .later }
def MachineDigitsCardSaid : Prop := Claim7.holds Tryd.pinned (.plain (OpenSpec.ofChange machineDigitsSpec)) machineDigitsCard

/-- THE TIED CARD OF 'battledorelaw10.MachineRaises'. -/
def machineRaisesCard : Claim7 := { stood := { row := machineRaisesRow, standIns := [], harness := (true, "bfb89e0271b7f8a8ae90d72ba8c5443c6dd9629a2ca241f7d03148dded4be6c4"), looks := true }, kinds := [], alts := [], laidByText := true, laidKinds := [.data, .data, .data, .data, .data, .sentinel], laidTests := true, laidLooks := .later }
def MachineRaisesCardSaid : Prop := Claim7.holds Tryd.pinned (.plain (OpenSpec.ofChange machineRaisesSpec)) machineRaisesCard

/-- THE TIED CARD OF 'battledorelaw10.MachineGoes'. -/
def machineGoesCard : Claim7 := { stood := { row := machineGoesRow, standIns := [], harness := (true, "bfb89e0271b7f8a8ae90d72ba8c5443c6dd9629a2ca241f7d03148dded4be6c4"), looks := true }, kinds := [], alts := [], laidByText := true, laidKinds := [.data, .data, .data, .data, .data, .sentinel], laidTests := true, laidLooks := .later }
def MachineGoesCardSaid : Prop := Claim7.holds Tryd.pinned (.plain (OpenSpec.ofChange machineGoesSpec)) machineGoesCard

/-- THE TIED CARD OF 'battledorelaw10.MachineErrs'. -/
def machineErrsCard : Claim7 := { stood := { row := machineErrsRow, standIns := [], harness := (true, "bfb89e0271b7f8a8ae90d72ba8c5443c6dd9629a2ca241f7d03148dded4be6c4"), looks := true }, kinds := [], alts := [], laidByText := true, laidKinds := [.data, .data, .data, .data, .data, .sentinel], laidTests := true, laidLooks := .later }
def MachineErrsCardSaid : Prop := Claim7.holds Tryd.pinned (.plain (OpenSpec.ofChange machineErrsSpec)) machineErrsCard

/-- THE SECOND FORM's CARD OF 'battledorelaw10.MachineReckons'. -/
def machineReckonsUptoCard : Claim7 := { stood := { row := machineReckonsUptoRow, standIns := [], harness := (true, "bfb89e0271b7f8a8ae90d72ba8c5443c6dd9629a2ca241f7d03148dded4be6c4"), looks := true }, kinds := [], alts := [], laidByText := true, laidKinds := [.data, .data, .data, .data, .data, .sentinel], laidTests := true, laidLooks := .later }
def MachineReckonsUptoCardSaid : Prop := Claim7.holds Tryd.pinned (.plain (OpenSpec.upto machineReckonsSpec)) machineReckonsUptoCard

/-- THE SECOND FORM's CARD OF 'battledorelaw10.MachineFuel'. -/
def machineFuelUptoCard : Claim7 := { stood := { row := machineFuelUptoRow, standIns := [], harness := (true, "bfb89e0271b7f8a8ae90d72ba8c5443c6dd9629a2ca241f7d03148dded4be6c4"), looks := true }, kinds := [], alts := [], laidByText := true, laidKinds := [.data, .data, .data, .data, .data, .sentinel], laidTests := true, laidLooks := .later }
def MachineFuelUptoCardSaid : Prop := Claim7.holds Tryd.pinned (.plain (OpenSpec.upto machineFuelSpec)) machineFuelUptoCard

/-- THE SECOND FORM's CARD OF 'battledorelaw10.MachineMoves'. -/
def machineMovesUptoCard : Claim7 := { stood := { row := machineMovesUptoRow, standIns := [], harness := (true, "bfb89e0271b7f8a8ae90d72ba8c5443c6dd9629a2ca241f7d03148dded4be6c4"), looks := true }, kinds := [], alts := [], laidByText := true, laidKinds := [.data, .data, .data, .data, .data, .sentinel], laidTests := true, laidLooks := .later }
def MachineMovesUptoCardSaid : Prop := Claim7.holds Tryd.pinned (.plain (OpenSpec.upto machineMovesSpec)) machineMovesUptoCard

/-- THE SECOND FORM's CARD OF 'battledorelaw10.MachineTexts'. -/
def machineTextsUptoCard : Claim7 := { stood := { row := machineTextsUptoRow, standIns := [], harness := (true, "bfb89e0271b7f8a8ae90d72ba8c5443c6dd9629a2ca241f7d03148dded4be6c4"), looks := true }, kinds := [], alts := [], laidByText := true, laidKinds := [.data, .data, .data, .data, .data, .sentinel], laidTests := true, laidLooks := .later }
def MachineTextsUptoCardSaid : Prop := Claim7.holds Tryd.pinned (.plain (OpenSpec.upto machineTextsSpec)) machineTextsUptoCard

/-- THE SECOND FORM's CARD OF 'battledorelaw10.MachineDigits'. -/
def machineDigitsUptoCard : Claim7 := { stood := { row := machineDigitsUptoRow, standIns := [], harness := (true, "bfb89e0271b7f8a8ae90d72ba8c5443c6dd9629a2ca241f7d03148dded4be6c4"), looks := true }, kinds := [], alts := [], laidByText := true, laidKinds := [.data, .data, .data, .data, .data, .sentinel], laidTests := true, laidLooks := .later }
def MachineDigitsUptoCardSaid : Prop := Claim7.holds Tryd.pinned (.plain (OpenSpec.upto machineDigitsSpec)) machineDigitsUptoCard

/-- THE SECOND FORM's CARD OF 'battledorelaw10.MachineRaises'. -/
def machineRaisesUptoCard : Claim7 := { stood := { row := machineRaisesUptoRow, standIns := [], harness := (true, "bfb89e0271b7f8a8ae90d72ba8c5443c6dd9629a2ca241f7d03148dded4be6c4"), looks := true }, kinds := [], alts := [], laidByText := true, laidKinds := [.data, .data, .data, .data, .data, .sentinel], laidTests := true, laidLooks := .later }
def MachineRaisesUptoCardSaid : Prop := Claim7.holds Tryd.pinned (.plain (OpenSpec.upto machineRaisesSpec)) machineRaisesUptoCard

/-- THE SECOND FORM's CARD OF 'battledorelaw10.MachineGoes'. -/
def machineGoesUptoCard : Claim7 := { stood := { row := machineGoesUptoRow, standIns := [], harness := (true, "bfb89e0271b7f8a8ae90d72ba8c5443c6dd9629a2ca241f7d03148dded4be6c4"), looks := true }, kinds := [], alts := [], laidByText := true, laidKinds := [.data, .data, .data, .data, .data, .sentinel], laidTests := true, laidLooks := .later }
def MachineGoesUptoCardSaid : Prop := Claim7.holds Tryd.pinned (.plain (OpenSpec.upto machineGoesSpec)) machineGoesUptoCard

/-- THE SECOND FORM's CARD OF 'battledorelaw10.MachineErrs'. -/
def machineErrsUptoCard : Claim7 := { stood := { row := machineErrsUptoRow, standIns := [], harness := (true, "bfb89e0271b7f8a8ae90d72ba8c5443c6dd9629a2ca241f7d03148dded4be6c4"), looks := true }, kinds := [], alts := [], laidByText := true, laidKinds := [.data, .data, .data, .data, .data, .sentinel], laidTests := true, laidLooks := .later }
def MachineErrsUptoCardSaid : Prop := Claim7.holds Tryd.pinned (.plain (OpenSpec.upto machineErrsSpec)) machineErrsUptoCard
end Rows
end Go.Proofs.YtfoceofohlpafaaDoor
