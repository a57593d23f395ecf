/- MachineMoves: code.Check on its code, by runs. -/
import Derived.Test.YtfoceofohlpafaaDoorMy1
set_option linter.unusedSectionVars false
set_option linter.unusedSimpArgs false
set_option linter.unusedVariables false
set_option maxRecDepth 1000000
namespace Go.Proofs.YtfoceofohlpafaaDoor
open Go Go.Am Go.RowKit Go.Ri Go.Proofs.Tryd
theorem chkM11 (t1 t2 : TypeId) : chkRun t1 t2 11 = true := by kernel_rfl
theorem chkM12 (t1 t2 : TypeId) : chkRun t1 t2 12 = true := by kernel_rfl
end Go.Proofs.YtfoceofohlpafaaDoor
