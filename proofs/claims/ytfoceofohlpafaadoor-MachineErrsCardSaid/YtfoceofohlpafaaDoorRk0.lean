/- Numbers of 63 bits, as the machine keeps them. -/
import Derived.Test.YtfoceofohlpafaaDoorRj3
import Derived.Test.YtfoceofohlpafaaDoorMxN
set_option linter.unusedVariables false
namespace Go.Ri
open Go Go.Am
@[reducible] def symOf (l : List (IntKind × Int)) : SymE := ⟨fun i => .int (l.getD i (.i64, 0)).1 (l.getD i (.i64, 0)).2, fun i => .inl ⟨_, _, rfl⟩⟩
def cutI (a : Int) : Int := shrI .i64 (shlI .i64 a 1) 1
def numI (x : Int) : Int := bo .or .u64 (shlI .u64 (fw .u64 x) 1) 1
def unI (w : Int) : Int := shrI .i64 (fw .i64 w) 1
theorem numI_eq (x : Int) : numI x = Wn x := by
  haveI : SymE := symOf []
  unfold numI
  rw [bo_eq, shlI_eq, fw_eq]
  exact num_eq x
theorem wrap_i64 (n : Int) : IntKind.i64.wrap n = (n + 9223372036854775808) % 18446744073709551616 - 9223372036854775808 := by
  simp only [IntKind.wrap, IntKind.bits, IntKind.signed]
  simp
  split <;> omega
theorem unI_eq (w : Int) : unI w = (IntKind.i64.wrap w) / 2 := by
  haveI : SymE := symOf []
  unfold unI
  rw [shrI_eq, fw_eq]
  rw [show (2 : Int) ^ (min 1 IntKind.i64.bits) = 2 from rfl, Int.fdiv_eq_ediv_of_nonneg _ (by decide)]
theorem cutI_eq (a : Int) : cutI a = (IntKind.i64.wrap (a * 2)) / 2 := by
  haveI : SymE := symOf []
  unfold cutI
  rw [shrI_eq, shlI_eq]
  rw [show (2 : Int) ^ (min 1 IntKind.i64.bits) = 2 from rfl, Int.fdiv_eq_ediv_of_nonneg _ (by decide)]
theorem cutI_lo (a : Int) : -4611686018427387904 ≤ cutI a := by rw [cutI_eq, wrap_i64]; omega
theorem cutI_hi (a : Int) : cutI a < 4611686018427387904 := by rw [cutI_eq, wrap_i64]; omega
theorem un_num {x : Int} (h1 : -4611686018427387904 ≤ x) (h2 : x < 4611686018427387904) : unI (numI x) = x := by
  rw [unI_eq, numI_eq, wrap_i64]
  unfold Wn
  omega
theorem unc (a : Int) : unI (numI (cutI a)) = cutI a := un_num (cutI_lo a) (cutI_hi a)
theorem num_inj (a b : Int) : numI (cutI a) = numI (cutI b) ↔ cutI a = cutI b := ⟨fun h => by rw [← unc a, ← unc b, h], fun h => by rw [h]⟩
theorem num_and (x : Int) : bo .and .u64 (numI x) 1 = 1 := by
  haveI : SymE := symOf []
  rw [bo_eq, numI_eq]
  have h0 : 0 ≤ Wn x := by unfold Wn; omega
  have h1 : Wn x < 18446744073709551616 := by unfold Wn; omega
  have := isnum_eq h0 h1
  rw [decide_eq_decide] at this
  exact this.2 (by unfold Wn; omega)
section
variable {k : IntKind} {m n : Int}
theorem eqT (h : m = n) : bin0 .eql (.int k m) (.int k n) = some (.bool true) := by simp [bin0, binI, ar, h]
theorem eqF (h : ¬ m = n) : bin0 .eql (.int k m) (.int k n) = some (.bool false) := by simp [bin0, binI, ar, h]
theorem neT (h : ¬ m = n) : bin0 .neq (.int k m) (.int k n) = some (.bool true) := by simp [bin0, binI, ar, h]
theorem neF (h : m = n) : bin0 .neq (.int k m) (.int k n) = some (.bool false) := by simp [bin0, binI, ar, h]
theorem ltT (h : m < n) : bin0 .lss (.int k m) (.int k n) = some (.bool true) := by simp [bin0, binI, ar, h]
theorem ltF (h : ¬ m < n) : bin0 .lss (.int k m) (.int k n) = some (.bool false) := by simp only [bin0, binI, ar, decide_eq_false h]; simp
theorem leT (h : m ≤ n) : bin0 .leq (.int k m) (.int k n) = some (.bool true) := by simp [bin0, binI, ar, h]
theorem leF (h : ¬ m ≤ n) : bin0 .leq (.int k m) (.int k n) = some (.bool false) := by simp only [bin0, binI, ar, decide_eq_false h]; simp
theorem gtT (h : n < m) : bin0 .gtr (.int k m) (.int k n) = some (.bool true) := by simp [bin0, binI, ar, h]
theorem gtF (h : ¬ n < m) : bin0 .gtr (.int k m) (.int k n) = some (.bool false) := by simp only [bin0, binI, ar, decide_eq_false h]; simp
theorem geT (h : n ≤ m) : bin0 .geq (.int k m) (.int k n) = some (.bool true) := by simp [bin0, binI, ar, h]
theorem geF (h : ¬ n ≤ m) : bin0 .geq (.int k m) (.int k n) = some (.bool false) := by simp only [bin0, binI, ar, decide_eq_false h]; simp
theorem divT (h : n ≠ 0) : bin0 .quo (.int k m) (.int k n) = some (.int k (fw k (m.tdiv n))) := by simp [bin0, binI, ar, h]
theorem remT (h : n ≠ 0) : bin0 .rem (.int k m) (.int k n) = some (.int k (m.tmod n)) := by simp [bin0, binI, ar, h]
theorem remT9 {s : Int} (h : m.tmod 9 = s) : bin0 .rem (.int k m) (.int k 9) = some (.int k s) := by simp [bin0, binI, ar, h]
end
end Go.Ri
