/- MachineMoves: code.Check on its code, by runs. -/
import Derived.Test.YtfoceofohlpafaaDoorMy1
set_option linter.unusedSectionVars false
set_option linter.unusedSimpArgs false
set_option linter.unusedVariables false
set_option maxRecDepth 1000000
namespace Go.Proofs.YtfoceofohlpafaaDoor
open Go Go.Am Go.RowKit Go.Ri Go.Proofs.Tryd
theorem chkM0 (t1 t2 : TypeId) : chkRun t1 t2 0 = true := by kernel_rfl
theorem chkM1 (t1 t2 : TypeId) : chkRun t1 t2 1 = true := by kernel_rfl
theorem chkM2 (t1 t2 : TypeId) : chkRun t1 t2 2 = true := by kernel_rfl
theorem chkM3 (t1 t2 : TypeId) : chkRun t1 t2 3 = true := by kernel_rfl
theorem chkM4 (t1 t2 : TypeId) : chkRun t1 t2 4 = true := by kernel_rfl
theorem chkM5 (t1 t2 : TypeId) : chkRun t1 t2 5 = true := by kernel_rfl
theorem chkM6 (t1 t2 : TypeId) : chkRun t1 t2 6 = true := by kernel_rfl
theorem chkM7 (t1 t2 : TypeId) : chkRun t1 t2 7 = true := by kernel_rfl
end Go.Proofs.YtfoceofohlpafaaDoor
