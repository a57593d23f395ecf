/-
  No cell of these rows narrows 'for every input' (looked for: loops, veiled, ifaces, maps, wideKeys, modest, calm, conditions, laid).
  DERIVED. THE GIVEN ROWS OF THIS SEAT. 4 by the template 'for every input the law returns true; each argument reads behind the call as it read before'; 0 by the template 'total and deterministic' (their statements: YtfdfakapkhflcaaTotals.lean).
  GIVEN WITH THE SEED: the statements are not yours to turn. If you find one false, say at which input.
  Laid BY PROGRAM, IN A SANDBOX (cutbox-rows.mjs): the forced cells as the released guide's own fill.sh prints them over the translation 7c315f4a14367006… (all of the seat's roots in one cut). By AI agents, Wed Nov 11 2026. No macro, syntax, notation, axiom, sorry.
-/
import Derived.Test.YtfdfakapkhflcaaChecked
import GoSem.Claim
import GoSem.ClaimJoined
import GoSem.ClaimMapViews
import Derived.JoinedTies
import Derived.KernelRfl
namespace Go.Proofs.Ytfdfakapkhflcaa
/- THE CELL 'sum', in the pinned program and in every row, IS THE sha256 OF THE DUMP (.gsa) THAT YtfdfakapkhflcaaProg.lean LOADS. Nothing in Lean hashes anything: it is a label: what it is worth is what the hold of that sum in a sandbox is worth. -/
noncomputable def Try.pinned : Pinned := { name := "ytfdfakapkhflcaa", sum := "7c315f4a14367006c03ea28db87d735b8f26de20da084ec1a3b1f95bd06f032f", checked := Try.checked }
namespace Rows
def none {H : Type} : Left H := { results := [], args := [] }

/-- 'battledorelaw16.BallotAlone': WHATEVER THE INPUT: true; the input reads as it did. -/
def ballotAloneSpec : ChangeSpec := { name := "ballotAlone", fn := fun _ => fun
  | [d1, d2, d3] => { results := [.lit (.bool true)], args := [d1, d2, d3] }
  | _ => none }
def ballotAloneRow : OpenClaim := { program := "ytfdfakapkhflcaa", sum := "7c315f4a14367006c03ea28db87d735b8f26de20da084ec1a3b1f95bd06f032f", func := "battledore/battledorelaw16.BallotAlone", spec := "ballotAlone", unfollowed := true, recurses := true, apart := false }
def BallotAloneSaid : Prop := ballotAloneRow.holds Try.pinned (OpenSpec.ofChange ballotAloneSpec)

/-- ITS FALSE NEIGHBOUR: 'it returns false'. Refute it at one input. -/
def ballotAloneWrong : ChangeSpec := { name := "ballotAlone", fn := fun _ => fun
  | [d1, d2, d3] => { results := [.lit (.bool false)], args := [d1, d2, d3] }
  | _ => none }
def BallotAloneWrongFalsely : Prop := ballotAloneRow.holds Try.pinned (OpenSpec.ofChange ballotAloneWrong)

/-- 'battledorelaw16.BallotReads': WHATEVER THE INPUT: true; the input reads as it did. -/
def ballotReadsSpec : ChangeSpec := { name := "ballotReads", fn := fun _ => fun
  | [d] => { results := [.lit (.bool true)], args := [d] }
  | _ => none }
def ballotReadsRow : OpenClaim := { program := "ytfdfakapkhflcaa", sum := "7c315f4a14367006c03ea28db87d735b8f26de20da084ec1a3b1f95bd06f032f", func := "battledore/battledorelaw16.BallotReads", spec := "ballotReads", unfollowed := true, recurses := true, apart := false }
def BallotReadsSaid : Prop := ballotReadsRow.holds Try.pinned (OpenSpec.ofChange ballotReadsSpec)

/-- ITS FALSE NEIGHBOUR: 'it returns false'. Refute it at one input. -/
def ballotReadsWrong : ChangeSpec := { name := "ballotReads", fn := fun _ => fun
  | [d] => { results := [.lit (.bool false)], args := [d] }
  | _ => none }
def BallotReadsWrongFalsely : Prop := ballotReadsRow.holds Try.pinned (OpenSpec.ofChange ballotReadsWrong)

/-- 'battledorelaw16.BallotCodes': WHATEVER THE INPUT: true; the input reads as it did. -/
def ballotCodesSpec : ChangeSpec := { name := "ballotCodes", fn := fun _ => fun
  | [d] => { results := [.lit (.bool true)], args := [d] }
  | _ => none }
def ballotCodesRow : OpenClaim := { program := "ytfdfakapkhflcaa", sum := "7c315f4a14367006c03ea28db87d735b8f26de20da084ec1a3b1f95bd06f032f", func := "battledore/battledorelaw16.BallotCodes", spec := "ballotCodes", unfollowed := true, recurses := true, apart := false }
def BallotCodesSaid : Prop := ballotCodesRow.holds Try.pinned (OpenSpec.ofChange ballotCodesSpec)

/-- ITS FALSE NEIGHBOUR: 'it returns false'. Refute it at one input. -/
def ballotCodesWrong : ChangeSpec := { name := "ballotCodes", fn := fun _ => fun
  | [d] => { results := [.lit (.bool false)], args := [d] }
  | _ => none }
def BallotCodesWrongFalsely : Prop := ballotCodesRow.holds Try.pinned (OpenSpec.ofChange ballotCodesWrong)

/-- 'battledorelaw16.BallotKeeps': WHATEVER THE INPUT: true; the input reads as it did. -/
def ballotKeepsSpec : ChangeSpec := { name := "ballotKeeps", fn := fun _ => fun
  | [d1, d2] => { results := [.lit (.bool true)], args := [d1, d2] }
  | _ => none }
def ballotKeepsRow : OpenClaim := { program := "ytfdfakapkhflcaa", sum := "7c315f4a14367006c03ea28db87d735b8f26de20da084ec1a3b1f95bd06f032f", func := "battledore/battledorelaw16.BallotKeeps", spec := "ballotKeeps", unfollowed := true, recurses := true, apart := false }
def BallotKeepsSaid : Prop := ballotKeepsRow.holds Try.pinned (OpenSpec.ofChange ballotKeepsSpec)

/-- ITS FALSE NEIGHBOUR: 'it returns false'. Refute it at one input. -/
def ballotKeepsWrong : ChangeSpec := { name := "ballotKeeps", fn := fun _ => fun
  | [d1, d2] => { results := [.lit (.bool false)], args := [d1, d2] }
  | _ => none }
def BallotKeepsWrongFalsely : Prop := ballotKeepsRow.holds Try.pinned (OpenSpec.ofChange ballotKeepsWrong)

/- THE SECOND FORM. 'bulk': how many values and letters a reading holds, each counted each time it is reached (what is shared counts as often as it is met; a slice's spare places count too). A statement '..UptoSaid' is the law's where the arguments, and the package variables that the reading takes, are together of bulk at most 1048576: NARROWER than '..Said'. Prove '..Said' where nothing that the law and all that it calls make is longer than what came in: it says more and counts as full. Else prove '..UptoSaid'. A law counts once. -/
mutual
def uptoBulk {H : Type} : DataW H → Nat
  | .lit (.string bytes) => bytes.length + 1
  | .lit _ => 1
  | .nil => 1
  | .ptr d => uptoBulk d + 1
  | .slice elems spare => uptoBulkAll elems + uptoBulkAll spare + 1
  | .agg parts => uptoBulkAll parts + 1
  | .iface _ d => uptoBulk d + 1
  | .map entries => uptoBulkEntries entries + 1
  | .held _ => 1
def uptoBulkAll {H : Type} : List (DataW H) → Nat
  | [] => 0
  | d :: r => uptoBulk d + uptoBulkAll r
def uptoBulkEntries {H : Type} : List (Lit × DataW H) → Nat
  | [] => 0
  | x :: r => uptoBulkEntry x + uptoBulkEntries r
def uptoBulkEntry {H : Type} : Lit × DataW H → Nat
  | (.string bytes, d) => bytes.length + uptoBulk d + 1
  | (_, d) => uptoBulk d + 1
 end
def uptoSmall : (H : Type) → List (DataW H) → Bool := fun _ ds => decide (uptoBulkAll ds ≤ 1048576)
def OpenSpec.upto (s : _root_.Go.ChangeSpec) : _root_.Go.OpenSpec := { _root_.Go.OpenSpec.ofChange s with cond := some uptoSmall }

/-- 'battledorelaw16.BallotAlone', WHERE WHAT IT READS IS OF BULK AT MOST 1048576: true; the input reads as it did. -/
def ballotAloneUptoRow : OpenClaim := { program := "ytfdfakapkhflcaa", sum := "7c315f4a14367006c03ea28db87d735b8f26de20da084ec1a3b1f95bd06f032f", func := "battledore/battledorelaw16.BallotAlone", spec := "ballotAlone", unfollowed := true, recurses := true, apart := false, narrowed := true }
def BallotAloneUptoSaid : Prop := ballotAloneUptoRow.holds Try.pinned (OpenSpec.upto ballotAloneSpec)

/-- 'battledorelaw16.BallotReads', WHERE WHAT IT READS IS OF BULK AT MOST 1048576: true; the input reads as it did. -/
def ballotReadsUptoRow : OpenClaim := { program := "ytfdfakapkhflcaa", sum := "7c315f4a14367006c03ea28db87d735b8f26de20da084ec1a3b1f95bd06f032f", func := "battledore/battledorelaw16.BallotReads", spec := "ballotReads", unfollowed := true, recurses := true, apart := false, narrowed := true }
def BallotReadsUptoSaid : Prop := ballotReadsUptoRow.holds Try.pinned (OpenSpec.upto ballotReadsSpec)

/-- 'battledorelaw16.BallotCodes', WHERE WHAT IT READS IS OF BULK AT MOST 1048576: true; the input reads as it did. -/
def ballotCodesUptoRow : OpenClaim := { program := "ytfdfakapkhflcaa", sum := "7c315f4a14367006c03ea28db87d735b8f26de20da084ec1a3b1f95bd06f032f", func := "battledore/battledorelaw16.BallotCodes", spec := "ballotCodes", unfollowed := true, recurses := true, apart := false, narrowed := true }
def BallotCodesUptoSaid : Prop := ballotCodesUptoRow.holds Try.pinned (OpenSpec.upto ballotCodesSpec)

/-- 'battledorelaw16.BallotKeeps', WHERE WHAT IT READS IS OF BULK AT MOST 1048576: true; the input reads as it did. -/
def ballotKeepsUptoRow : OpenClaim := { program := "ytfdfakapkhflcaa", sum := "7c315f4a14367006c03ea28db87d735b8f26de20da084ec1a3b1f95bd06f032f", func := "battledore/battledorelaw16.BallotKeeps", spec := "ballotKeeps", unfollowed := true, recurses := true, apart := false, narrowed := true }
def BallotKeepsUptoSaid : Prop := ballotKeepsUptoRow.holds Try.pinned (OpenSpec.upto ballotKeepsSpec)

end Rows
end Go.Proofs.Ytfdfakapkhflcaa
