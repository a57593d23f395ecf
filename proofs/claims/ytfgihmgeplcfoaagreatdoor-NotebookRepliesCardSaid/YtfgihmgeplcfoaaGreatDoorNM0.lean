/- The memory of the variables. -/
import Derived.Test.YtfgihmgeplcfoaaGreatDoorNTab
import Derived.Test.YtfgihmgeplcfoaaGreatDoorL5
set_option linter.unusedSectionVars false
set_option linter.unusedVariables false
set_option linter.unusedSimpArgs false
namespace Go.Proofs.YtfgihmgeplcfoaaGreatDoor
open Go Go.Am Go.Ri
set_option maxRecDepth 1000000
def strC (l : List (List UInt8)) : List Value := l.map fun s => .string ⟨⟨s⟩⟩
noncomputable def givenC : List Value := (dCells 5 (Rows.laid_battledore_infer_given (H := Unit))).getD []
noncomputable def primsC : List Value := (dCells 5 (Rows.laid_battledore_infer_Prims (H := Unit))).getD []
noncomputable def signsC : List Value := (dCells 5 (Rows.laid_battledore_lex_signs (H := Unit))).getD []
noncomputable def wordsC : List Value := (dCells 5 (Rows.laid_battledore_lex_words (H := Unit))).getD []
noncomputable def takesC : List Value := (dCells 5 (Rows.laid_battledore_code_takes (H := Unit))).getD []
noncomputable def leavesC : List Value := (dCells 5 (Rows.laid_battledore_code_leaves (H := Unit))).getD []
def levS : List (List (List UInt8)) := [[[58, 61]], [[124, 124]], [[38, 38]], [[61], [60, 62], [60, 61], [60]], [[58, 58], [94]], [[43], [45]], [[42], [47], [109, 111, 100]]]
def levC : List Value := [.slice (some ⟨14, 0, none⟩) 1 1, .slice (some ⟨15, 0, none⟩) 1 1, .slice (some ⟨16, 0, none⟩) 1 1, .slice (some ⟨17, 0, none⟩) 4 4, .slice (some ⟨18, 0, none⟩) 2 2, .slice (some ⟨19, 0, none⟩) 2 2, .slice (some ⟨20, 0, none⟩) 3 3]
def levB (t : Nat → TypeId) : Nat → List (List (List UInt8)) → List (Nat × List Value × TypeId × Nat)
  | _, [] => []
  | i, s :: r => (14 + i, strC s, t i, 1) :: levB t (i + 1) r
noncomputable def PL (t : Nat → TypeId) (u : Nat → TypeId) : List (Nat × List Value × TypeId × Nat) := [(0, givenC, u 0, 0), (1, primsC, u 1, 0), (2, signsC, u 2, 0), (3, wordsC, u 3, 0), (5, levC, u 5, 0), (6, takesC, u 6, 0), (7, leavesC, u 7, 0)] ++ levB t 0 levS
noncomputable def PM (t : Nat → TypeId) (u : Nat → TypeId) : Mem := memR 21 (PL t u)
end Go.Proofs.YtfgihmgeplcfoaaGreatDoor
