/- The machine's laws: from the row's world to what is called, with the powers of ten in memory. -/
import Derived.Test.YtfoceofohlpafaaDoorMK2
import Derived.Test.YtfoceofohlpafaaDoorMv1
set_option linter.unusedVariables false
set_option linter.unusedSimpArgs false
set_option linter.unusedSectionVars false
set_option maxRecDepth 100000
namespace Go.Proofs.YtfoceofohlpafaaDoor
open Go.ChangeShapes Go.WideShapes Go.ChangeAt Go.RowKit Go.Am Go.Ri
theorem _root_.Go.Am.Hp.less [SymE] {aw0 aw : AW} {own : List Nat} {ro ro' l : List (Nat × Blk)} (M : Hp aw0 own ro aw l) (h : ∀ p ∈ ro', p ∈ ro) : Hp aw0 own ro' aw l := { M with ro_ := fun p hp => M.ro_ p (h p hp) }
end Go.Proofs.YtfoceofohlpafaaDoor
