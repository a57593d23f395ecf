/- Words as numbers. -/
import Derived.Test.YtfoceofohlpafaaDoorL3
set_option linter.unusedSectionVars false
set_option linter.unusedSimpArgs false
set_option linter.unusedVariables false
namespace Go.Am
open Go
theorem wrap_u64 (n : Int) : IntKind.u64.wrap n = n % 18446744073709551616 := by
  simp [IntKind.wrap, IntKind.bits, IntKind.signed]
theorem wrap_u8 (n : Int) : IntKind.u8.wrap n = n % 256 := by
  simp [IntKind.wrap, IntKind.bits, IntKind.signed]
theorem or_nat {m n : Nat} (hm : m < 18446744073709551616) (hn : n < 18446744073709551616) : bitsOf .or .u64 (m : Int) (n : Int) = ((m ||| n : Nat) : Int) := by
  show IntKind.u64.wrap (((BitVec.ofInt 64 (m : Int) ||| BitVec.ofInt 64 (n : Int)).toNat : Nat) : Int) = _
  rw [wrap_u64, BitVec.toNat_or]
  simp only [BitVec.toNat_ofInt]
  have h : (m ||| n) < 2 ^ 64 := Nat.or_lt_two_pow (by omega) (by omega)
  have e1 : ((m : Int) % ((2 ^ 64 : Nat) : Int)).toNat = m := by omega
  have e2 : ((n : Int) % ((2 ^ 64 : Nat) : Int)).toNat = n := by omega
  rw [e1, e2]
  omega
theorem and_nat {m n : Nat} (hm : m < 18446744073709551616) (hn : n < 18446744073709551616) : bitsOf .and .u64 (m : Int) (n : Int) = ((m &&& n : Nat) : Int) := by
  show IntKind.u64.wrap (((BitVec.ofInt 64 (m : Int) &&& BitVec.ofInt 64 (n : Int)).toNat : Nat) : Int) = _
  rw [wrap_u64, BitVec.toNat_and]
  simp only [BitVec.toNat_ofInt]
  have h : (m &&& n) < 2 ^ 64 := Nat.lt_of_le_of_lt Nat.and_le_left (by omega)
  have e1 : ((m : Int) % ((2 ^ 64 : Nat) : Int)).toNat = m := by omega
  have e2 : ((n : Int) % ((2 ^ 64 : Nat) : Int)).toNat = n := by omega
  rw [e1, e2]
  omega
theorem or_shift {a b i : Nat} (hb : b < 2 ^ i) : a * 2 ^ i ||| b = a * 2 ^ i + b := by
  have := Nat.shiftLeft_add_eq_or_of_lt hb a
  rw [Nat.shiftLeft_eq] at this
  exact this.symm
def Wn (n : Int) : Int := (2 * n + 1) % 18446744073709551616
theorem num_eq (n : Int) : bitsOf .or .u64 (IntKind.u64.wrap ((IntKind.u64.wrap n) * 2 ^ (min (1 : Int).toNat IntKind.u64.bits))) 1 = Wn n := by
  have e : min (1 : Int).toNat IntKind.u64.bits = 1 := rfl
  rw [e, wrap_u64, wrap_u64]
  obtain ⟨a, ha⟩ : ∃ a : Nat, n % 18446744073709551616 * 2 ^ 1 % 18446744073709551616 = ((a * 2 ^ 1 : Nat) : Int) ∧ a * 2 ^ 1 < 18446744073709551616 := ⟨(n % 9223372036854775808).toNat, by omega⟩
  rw [ha.1]
  have := or_nat (m := a * 2 ^ 1) (n := 1) ha.2 (by omega)
  rw [show ((1 : Nat) : Int) = 1 from rfl] at this
  rw [this, or_shift (by decide)]
  unfold Wn
  omega
theorem isnum_eq {w : Int} (h0 : 0 ≤ w) (h1 : w < 18446744073709551616) : decide ((bitsOf .and .u64 w 1) = 1) = decide (w % 2 = 1) := by
  obtain ⟨m, rfl⟩ : ∃ m : Nat, w = m := ⟨w.toNat, by omega⟩
  have := and_nat (m := m) (n := 1) (by omega) (by omega)
  rw [show ((1 : Nat) : Int) = 1 from rfl] at this
  rw [this, Nat.and_one_is_mod]
  rw [decide_eq_decide]
  omega
def Nw (w : Int) : Int := Int.fdiv (IntKind.i64.wrap w) (2 ^ (min (1 : Int).toNat IntKind.i64.bits))
def Hd (kind n : Nat) : Int := ((n * 2 ^ 8 + kind : Nat) : Int)
theorem head_eq {kind n : Nat} (hk : kind < 256) (hn : n < 36028797018963968) : bitsOf .or .u64 (IntKind.u64.wrap ((IntKind.u64.wrap (n : Int)) * 2 ^ (min (8 : Int).toNat IntKind.u64.bits))) (IntKind.u64.wrap (kind : Int)) = Hd kind n := by
  have e : min (8 : Int).toNat IntKind.u64.bits = 8 := rfl
  rw [e, wrap_u64, wrap_u64, wrap_u64]
  rw [show (n : Int) % 18446744073709551616 * 2 ^ 8 % 18446744073709551616 = ((n * 2 ^ 8 : Nat) : Int) by omega, show (kind : Int) % 18446744073709551616 = ((kind : Nat) : Int) by omega,
    or_nat (by omega) (by omega), or_shift (by omega)]
  rfl
end Go.Am
