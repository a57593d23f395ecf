/- Printed by a program of the prover: what the Go functions of this seat do, in steps. -/
import Derived.Test.YthfjjcfceilahaaGreatDoorQTab
import Derived.Test.YthfjjcfceilahaaGreatDoorL5
set_option linter.unusedSectionVars false
set_option linter.unusedVariables false
set_option linter.unusedSimpArgs false
namespace Go.Proofs.YthfjjcfceilahaaGreatDoor
open Go Go.Am Go.Ri
set_option maxRecDepth 1000000
def strC (l : List (List UInt8)) : List Value := l.map fun s => .string ⟨⟨s⟩⟩
noncomputable def signsC : List Value := (dCells 5 (Rows.laid_battledore_lex_signs (H := Unit))).getD []
noncomputable def wordsC : List Value := (dCells 5 (Rows.laid_battledore_lex_words (H := Unit))).getD []
def levS : List (List (List UInt8)) := [[[58, 61]], [[124, 124]], [[38, 38]], [[61], [60, 62], [60, 61], [60]], [[58, 58], [94]], [[43], [45]], [[42], [47], [109, 111, 100]]]
def levC : List Value := [.slice (some ⟨9, 0, none⟩) 1 1, .slice (some ⟨10, 0, none⟩) 1 1, .slice (some ⟨11, 0, none⟩) 1 1, .slice (some ⟨12, 0, none⟩) 4 4, .slice (some ⟨13, 0, none⟩) 2 2, .slice (some ⟨14, 0, none⟩) 2 2, .slice (some ⟨15, 0, none⟩) 3 3]
def levB (t : Nat → TypeId) : Nat → List (List (List UInt8)) → List (Nat × List Value × TypeId × Nat)
  | _, [] => []
  | i, s :: r => (9 + i, strC s, t i, 1) :: levB t (i + 1) r
noncomputable def PL (t : Nat → TypeId) (u : Nat → TypeId) : List (Nat × List Value × TypeId × Nat) := [(0, signsC, u 0, 0), (1, wordsC, u 1, 0), (3, levC, u 3, 0)] ++ levB t 0 levS
noncomputable def PM (t : Nat → TypeId) (u : Nat → TypeId) : Mem := memR 16 (PL t u)
end Go.Proofs.YthfjjcfceilahaaGreatDoor
