/- Numbers as decimal digits: the plain part. -/
import Derived.Test.YtfoceofohlpafaaDoorMt9
import Derived.Test.YtfoceofohlpafaaDoorMaH
import Derived.Test.YtfoceofohlpafaaDoorL3
import Derived.Test.YtfoceofohlpafaaDoorMaD
set_option linter.unusedVariables false
set_option linter.unusedSimpArgs false
set_option linter.unusedSectionVars false
set_option maxRecDepth 100000
namespace Go.Proofs.Tryd
open Go Go.Am Go.RowKit
variable [SymE]
set_option maxHeartbeats 1000000
section
variable {aw0 aw : AW} {own : List Nat} {ro l : List (Nat × Blk)} {b n c nd k : Nat} {E : List PanicEntry → AW → Prop} {xs ds : List UInt8}
end
end Go.Proofs.Tryd
set_option linter.unusedVariables false
set_option linter.unusedSimpArgs false
set_option linter.unusedSectionVars false
set_option maxRecDepth 100000
namespace Go.Proofs.Tryd
open Go Go.Am Go.RowKit
variable [SymE]
set_option maxHeartbeats 1000000
section
variable {aw0 aw : AW} {own : List Nat} {ro l : List (Nat × Blk)} {b n c nd k : Nat} {E : List PanicEntry → AW → Prop} {xs ds : List UInt8}
end
end Go.Proofs.Tryd
set_option linter.unusedVariables false
set_option linter.unusedSimpArgs false
set_option linter.unusedSectionVars false
set_option maxRecDepth 100000
namespace Go.Proofs.Tryd
open Go Go.Am Go.RowKit
def BL (x L : Nat) : Prop := (x = 0 ∧ L = 0) ∨ (1 ≤ L ∧ 2 ^ (L - 1) ≤ x ∧ x < 2 ^ L)
instance (x L : Nat) : Decidable (BL x L) := inferInstanceAs (Decidable (_ ∨ _))
variable [SymE]
set_option maxHeartbeats 1000000
section
variable {aw0 aw : AW} {own : List Nat} {ro l : List (Nat × Blk)} {E : List PanicEntry → AW → Prop}
end
end Go.Proofs.Tryd
set_option linter.unusedVariables false
set_option linter.unusedSimpArgs false
set_option linter.unusedSectionVars false
set_option maxRecDepth 100000
namespace Go.Proofs.Tryd
open Go Go.Am Go.RowKit
variable [SymE]
set_option maxHeartbeats 1000000
section
variable {aw0 aw : AW} {own : List Nat} {ro l : List (Nat × Blk)} {E : List PanicEntry → AW → Prop}
end
end Go.Proofs.Tryd
set_option linter.unusedVariables false
set_option linter.unusedSimpArgs false
set_option linter.unusedSectionVars false
set_option maxRecDepth 100000
namespace Go.Proofs.Tryd
open Go Go.Am Go.RowKit
variable [SymE]
theorem fd2 (x : Int) : Int.fdiv x (2 ^ (min (1 : Int).toNat IntKind.i64.bits)) = x / 2 := by
  show Int.fdiv x 2 = x / 2
  exact Int.fdiv_eq_ediv_of_nonneg _ (by decide)
theorem nw_eq (w : Int) : Nw w = IntKind.i64.wrap w / 2 := fd2 _
theorem cut_eq (n : Int) : Int.fdiv (IntKind.i64.wrap (n * 2 ^ (min (1 : Int).toNat IntKind.i64.bits))) (2 ^ (min (1 : Int).toNat IntKind.i64.bits)) = Nw ((WN n : Nat) : Int) := by
  rw [← Wn_nat, nw_eq, fd2, show (n * 2 ^ (min (1 : Int).toNat IntKind.i64.bits)) = n * 2 from rfl, wrap_i64, wrap_i64]
  unfold Wn
  omega
set_option maxHeartbeats 1000000
section
variable {aw0 aw : AW} {own : List Nat} {ro l : List (Nat × Blk)} {X : MC} {f pc base j mb b1 b2 b3 k qu : Nat} {fuel N : Int} {st ws : List Nat} {fs : List Fr} {E : List PanicEntry → AW → Prop} {n a : Int} {t : ByteArray} {Q : (Bool × Int × Int × ByteArray × ByteArray × Value × Int) → AW → Prop} {ty : TypeId} {e : Nat} {rw_ : Bool} {fz : Nat}
end
end Go.Proofs.Tryd
