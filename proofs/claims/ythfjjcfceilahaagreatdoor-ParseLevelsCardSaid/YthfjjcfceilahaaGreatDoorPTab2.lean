/- Regions of the parser's seat in which a block is made at any time. -/
import Derived.Test.YthfjjcfceilahaaGreatDoorL4
import Derived.Test.YthfjjcfceilahaaGreatDoorPM1
namespace Go.Proofs.YthfjjcfceilahaaGreatDoor
open Go Go.Am Go.Ri
set_option maxRecDepth 1000000
def tab2Rows : List (Nat × List Nat × Go.Am.Tl) := [
  (16391, [0, 1, 2, 3, 4, 5, 6, 7, 8, 9, 10, 11], [(12, [], [13, 14, 15]), (16, [13, 14, 15], []), (17, [15], [18])]),
  (147466, [0, 1, 2], [(3, [0, 1], [4]), (5, [0, 1, 4], []), (6, [], [])])]
noncomputable def tabT2 : L (List Nat × Go.Am.Tl) := List.rec (motive := fun _ => L (List Nat × Go.Am.Tl)) .leaf (fun p _ ih => L.rec (motive := fun _ => L (List Nat × Go.Am.Tl)) (L.set p.2 .leaf p.1) (fun a b c _ _ => L.set p.2 (.node a b c) p.1) ih) tab2Rows
noncomputable def tab2 (f r : Nat) : Option (List Nat × Go.Am.Tl) := L.get tabT2 (f * 4096 + r)
def VB0 : VBs := fun _ => none
noncomputable def O0 : Caller → Caller := orcl chkP 10
end Go.Proofs.YthfjjcfceilahaaGreatDoor
