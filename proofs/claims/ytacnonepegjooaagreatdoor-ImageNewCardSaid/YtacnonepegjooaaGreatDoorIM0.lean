/- The memory of the variables. -/
import Derived.Test.YtacnonepegjooaaGreatDoorITab
import Derived.Test.YtacnonepegjooaaGreatDoorL5
import Derived.Test.YtacnonepegjooaaGreatDoorSd1
set_option linter.unusedSectionVars false
set_option linter.unusedVariables false
set_option linter.unusedSimpArgs false
namespace Go.Proofs.YtacnonepegjooaaGreatDoor
open Go Go.Am Go.Ri
set_option maxRecDepth 1000000
noncomputable def givenC : List Value := (dCells 5 (Rows.laid_battledore_infer_given (H := Unit))).getD []
noncomputable def primsC : List Value := (dCells 5 (Rows.laid_battledore_infer_Prims (H := Unit))).getD []
noncomputable def takesC : List Value := (dCells 5 (Rows.laid_battledore_code_takes (H := Unit))).getD []
noncomputable def leavesC : List Value := (dCells 5 (Rows.laid_battledore_code_leaves (H := Unit))).getD []
noncomputable def PL (u : Nat → TypeId) : List (Nat × List Value × TypeId × Nat) := [(0, givenC, u 0, 0), (1, primsC, u 1, 0), (2, takesC, u 2, 0), (3, leavesC, u 3, 0)]
noncomputable def PM (u : Nat → TypeId) : Mem := memR 8 (PL u)
noncomputable def O0 : Caller → Caller := orSum 64 [] 0
end Go.Proofs.YtacnonepegjooaaGreatDoor
