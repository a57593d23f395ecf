/- code: how deep the stack is behind an instruction. -/
import Derived.Test.YtfoceofohlpafaaDoorMx17
set_option linter.unusedSectionVars false
set_option linter.unusedSimpArgs false
set_option linter.unusedVariables false
namespace Go.Proofs.Tryd
open Go Go.Am Go.RowKit
variable [SymE]
set_option maxHeartbeats 1000000
section
variable {aw0 aw : AW} {own : List Nat} {ro l : List (Nat × Blk)} {op : Nat} {E : List PanicEntry → AW → Prop} {n a d t tk lv : Int} {s : ByteArray} {TB LB : Blk}
end
end Go.Proofs.Tryd
set_option linter.unusedVariables false
namespace Go.Proofs.Tryd
open Go Go.Am Go.RowKit
variable [SymE]
set_option maxHeartbeats 1000000
section
variable {aw0 aw : AW} {own : List Nat} {ro l : List (Nat × Blk)} {E : List PanicEntry → AW → Prop} {n a d t tk lv caps globs : Int} {s : ByteArray} {TB LB : Blk} {cv all : Value}
end
end Go.Proofs.Tryd
