/-
  DERIVED. GIVEN WITH THE SEED: THE CARDS: each row of YtfgihmgeplcfoaaGreatDoorRows.lean that lists a variable, with what it lists TIED to the program's text (the seventh form; the later family's looks); each row that meets fmt, with fmt's text TOLD by the authors' own Lean function (tested against real Go, not proved from fmt's source: count such statements apart). THE CARD IS WHAT COUNTS. Prove the row's statement (the work); the ties are given (YtfgihmgeplcfoaaGreatDoorTie.lean); close each card by the builder's one call (the guide's Derived/Test/ToyasCard.lean, 'card_holds'). Laid BY PROGRAM, IN A SANDBOX (cutbox-door.mjs). By AI agents, Wed Nov 11 2026. No macro, syntax, notation, axiom, sorry.
-/
import Derived.Test.YtfgihmgeplcfoaaGreatDoorRows
import GoSem.ClaimSeven
namespace Go.Proofs.YtfgihmgeplcfoaaGreatDoor
namespace Rows

/-- THE TIED CARD OF 'battledorelaw18.NotebookReplies'. -/
def notebookRepliesCard : Claim7 := { stood := { row := notebookRepliesRow, standIns := [], harness := (true, "a939e5825974d714d163d1051220b39ee906902a049649905d78a1d72c68abe2"), looks := true }, kinds := [], alts := [], laidByText := true, laidKinds := [.data, .data, .data, .data, .data, .widerDeep, .data, .sentinel, .sentinel, .sentinel, .data, .data, .data], laidTests := true, laidLooks := .later }
def NotebookRepliesCardSaid : Prop := Claim7.holds Tryz.pinned (.plain (OpenSpec.ofChange notebookRepliesSpec)) notebookRepliesCard

/-- THE TIED CARD OF 'battledorelaw18.NotebookReads'. -/
def notebookReadsCard : Claim7 := { stood := { row := notebookReadsRow, standIns := [], harness := (true, "a939e5825974d714d163d1051220b39ee906902a049649905d78a1d72c68abe2"), looks := true }, kinds := [], alts := [], laidByText := true, laidKinds := [.data, .data, .data, .data, .data, .widerDeep, .data, .sentinel, .sentinel, .sentinel, .data, .data, .data], laidTests := true, laidLooks := .later }
def NotebookReadsCardSaid : Prop := Claim7.holds Tryz.pinned (.plain (OpenSpec.ofChange notebookReadsSpec)) notebookReadsCard

/-- THE SECOND FORM's CARD OF 'battledorelaw18.NotebookReplies'. -/
def notebookRepliesUptoCard : Claim7 := { stood := { row := notebookRepliesUptoRow, standIns := [], harness := (true, "a939e5825974d714d163d1051220b39ee906902a049649905d78a1d72c68abe2"), looks := true }, kinds := [], alts := [], laidByText := true, laidKinds := [.data, .data, .data, .data, .data, .widerDeep, .data, .sentinel, .sentinel, .sentinel, .data, .data, .data], laidTests := true, laidLooks := .later }
def NotebookRepliesUptoCardSaid : Prop := Claim7.holds Tryz.pinned (.plain (OpenSpec.upto notebookRepliesSpec)) notebookRepliesUptoCard

/-- THE SECOND FORM's CARD OF 'battledorelaw18.NotebookReads'. -/
def notebookReadsUptoCard : Claim7 := { stood := { row := notebookReadsUptoRow, standIns := [], harness := (true, "a939e5825974d714d163d1051220b39ee906902a049649905d78a1d72c68abe2"), looks := true }, kinds := [], alts := [], laidByText := true, laidKinds := [.data, .data, .data, .data, .data, .widerDeep, .data, .sentinel, .sentinel, .sentinel, .data, .data, .data], laidTests := true, laidLooks := .later }
def NotebookReadsUptoCardSaid : Prop := Claim7.holds Tryz.pinned (.plain (OpenSpec.upto notebookReadsSpec)) notebookReadsUptoCard
end Rows
end Go.Proofs.YtfgihmgeplcfoaaGreatDoor
