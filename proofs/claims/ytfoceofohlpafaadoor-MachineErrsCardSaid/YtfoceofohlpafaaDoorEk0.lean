/- Halves and odd numbers. -/
import Derived.Test.YtfoceofohlpafaaDoorRk0
set_option linter.unusedVariables false
namespace Go.Ri
open Go Go.Am
theorem and_odd {w : Int} (h0 : 0 ≤ w) (h1 : w < 18446744073709551616) : bo .and .u64 w 1 = w.tmod 2 := by
  haveI : SymE := symOf []
  rw [bo_eq]
  have h := isnum_eq h0 h1
  rw [decide_eq_decide] at h
  rw [Int.tmod_eq_emod_of_nonneg h0]
  obtain ⟨m, rfl⟩ : ∃ m : Nat, w = m := ⟨w.toNat, by omega⟩
  have := and_nat (m := m) (n := 1) (by omega) (by omega)
  rw [show ((1 : Nat) : Int) = 1 from rfl] at this
  rw [this, Nat.and_one_is_mod]
  omega
theorem shr_half (w : Int) : shrI .u64 w 1 = w / 2 := by
  haveI : SymE := symOf []
  rw [shrI_eq]
  rw [show (2 : Int) ^ (min 1 IntKind.u64.bits) = 2 from rfl, Int.fdiv_eq_ediv_of_nonneg _ (by decide)]
end Go.Ri
