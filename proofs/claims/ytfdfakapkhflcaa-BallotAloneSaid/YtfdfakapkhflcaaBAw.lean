/- ballot: awake() is true. -/
import Derived.Test.YtfdfakapkhflcaaBTab
set_option linter.unusedSectionVars false
set_option linter.unusedSimpArgs false
namespace Go.Proofs.Ytfdfakapkhflcaa
open Go Go.Am Go.Ri
set_option linter.unusedVariables false
set_option maxRecDepth 1000000
theorem awB : retW (@callW ftW Try.prog X0 VB0 tab tab2 200 60 7 [] (memR Try.prog.globals.size [])) = true := by kernel_rfl
end Go.Proofs.Ytfdfakapkhflcaa
