/- machine: a closure is made; a function is called. -/
import Derived.Test.YtfoceofohlpafaaDoorMz2
set_option linter.unusedSectionVars false
set_option linter.unusedVariables false
set_option linter.unusedSimpArgs false
namespace Go.Proofs.Tryd
open Go Go.Am Go.RowKit
variable [SymE]
set_option maxHeartbeats 1000000
theorem wrap_i64 (n : Int) : IntKind.i64.wrap n = (n + 9223372036854775808) % 18446744073709551616 - 9223372036854775808 := by
  simp only [IntKind.wrap, IntKind.bits, IntKind.signed]
  simp
  split <;> omega
theorem Nw_WN {n : Int} (h1 : -4611686018427387904 ≤ n) (h2 : n < 4611686018427387904) : Nw ((WN n : Nat) : Int) = n := by
  rw [← Wn_nat]
  unfold Nw Wn
  rw [show min (1 : Int).toNat IntKind.i64.bits = 1 from rfl, wrap_i64, Int.fdiv_eq_ediv_of_nonneg _ (by decide)]
  omega
section
variable {aw0 aw : AW} {own : List Nat} {ro l Lm : List (Nat × Blk)} {m bs bf ib k f pc base w i j hb mb gb qu nf cf bu_ : Nat} {h fu gl sk fr tr ad bu mo v : Value} {fuel space most ct : Int} {E : List PanicEntry → AW → Prop} {sj fs js mj : List Value} {n ia : Int} {s : ByteArray} {st ws gs : List Nat} {BF : Blk} {Q : Unit → AW → Prop}
end
end Go.Proofs.Tryd
