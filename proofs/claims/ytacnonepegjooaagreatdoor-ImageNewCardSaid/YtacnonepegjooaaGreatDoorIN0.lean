/- ImageNew: the law's run. -/
import Derived.Test.YtacnonepegjooaaGreatDoorIM1
set_option linter.unusedSectionVars false
set_option linter.unusedVariables false
set_option linter.unusedSimpArgs false
namespace Go.Proofs.YtacnonepegjooaaGreatDoor
open Go Go.Am Go.Ri
set_option maxRecDepth 1000000
noncomputable def chkI : Mem → Bool := standL PLs
noncomputable def O1 (LS : List Value) (c : Nat) : Caller → Caller := fun C => orcl chkI 4 (orSum 64 LS c C)
noncomputable def runI (F : Facts) (LS : List Value) (c : Nat) (v : Value) (u : Nat → TypeId) : Bool := retB (@callQ (ftOf F) Tryz.prog X0 RB0 (O1 LS c) tab tab2 60 60 3 [v] (PM u))
end Go.Proofs.YtacnonepegjooaaGreatDoor
