/-
  DERIVED. GIVEN WITH THE SEED: THE CARDS: each row of YtacnonepegjooaaGreatDoorRows.lean that lists a variable, with what it lists TIED to the program's text (the seventh form; the later family's looks); each row that meets fmt, with fmt's text TOLD by the authors' own Lean function (tested against real Go, not proved from fmt's source: count such statements apart). THE CARD IS WHAT COUNTS. Prove the row's statement (the work); the ties are given (YtacnonepegjooaaGreatDoorTie.lean); close each card by the builder's one call (the guide's Derived/Test/ToyasCard.lean, 'card_holds'). Laid BY PROGRAM, IN A SANDBOX (cutbox-door.mjs). By AI agents, Wed Nov 11 2026. No macro, syntax, notation, axiom, sorry.
-/
import Derived.Test.YtacnonepegjooaaGreatDoorRows
import GoSem.ClaimSeven
namespace Go.Proofs.YtacnonepegjooaaGreatDoor
namespace Rows

/-- THE TIED CARD OF 'battledorelaw11.ImageNew'. -/
def imageNewCard : Claim7 := { stood := { row := imageNewRow, standIns := [], harness := (true, "51c80a02a3d154961f90fb9ebb2f0457059f3bb0f8f84be54ded91da69de518e"), looks := true }, kinds := [], alts := [], laidByText := true, laidKinds := [.data, .data, .data, .data, .data, .widerDeep, .data, .sentinel], laidTests := true, laidLooks := .later }
def ImageNewCardSaid : Prop := Claim7.holds Tryz.pinned (.plain (OpenSpec.ofChange imageNewSpec)) imageNewCard

/-- THE SECOND FORM's CARD OF 'battledorelaw11.ImageNew'. -/
def imageNewUptoCard : Claim7 := { stood := { row := imageNewUptoRow, standIns := [], harness := (true, "51c80a02a3d154961f90fb9ebb2f0457059f3bb0f8f84be54ded91da69de518e"), looks := true }, kinds := [], alts := [], laidByText := true, laidKinds := [.data, .data, .data, .data, .data, .widerDeep, .data, .sentinel], laidTests := true, laidLooks := .later }
def ImageNewUptoCardSaid : Prop := Claim7.holds Tryz.pinned (.plain (OpenSpec.upto imageNewSpec)) imageNewUptoCard
end Rows
end Go.Proofs.YtacnonepegjooaaGreatDoor
