/- Printed by a program of the prover: what the Go functions of this seat do, in steps. -/
import Derived.Test.YtfdfakapkhflcaaBaF
import Derived.Test.YtfdfakapkhflcaaBaA
import Derived.Test.YtfdfakapkhflcaaBaB
set_option linter.unusedSectionVars false
set_option linter.unusedSimpArgs false
set_option linter.unusedVariables false
namespace Go.Proofs.Try
open Go Go.Am Go.RowKit
set_option maxHeartbeats 4000000
set_option maxRecDepth 100000
noncomputable section
variable [SymE]
end
end Go.Proofs.Try
