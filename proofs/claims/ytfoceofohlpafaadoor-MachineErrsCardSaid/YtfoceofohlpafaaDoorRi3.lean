/- The interpreter: operations that give a value. -/
import Derived.Test.YtfoceofohlpafaaDoorRi2
set_option linter.unusedSimpArgs false
set_option linter.unusedVariables false
set_option linter.unusedSectionVars false
namespace Go.Ri
open Go Go.Am Go.RowKit
variable [SymE]

theorem cond_some {α : Type} {c : Bool} {x : Option α} {b : α} : (bif c then x else none) = some b ↔ c = true ∧ x = some b := by
  cases c <;> simp

/-! numbers -/
def hn : IntKind → Nat
  | .i8 => 127
  | .i16 => 32767
  | .i32 => 2147483647
  | .i64 => 9223372036854775807
  | .u8 => 255
  | .u16 => 65535
  | .u32 => 4294967295
  | .u64 => 18446744073709551615
def sgn : IntKind → Bool
  | .i8 | .i16 | .i32 | .i64 => true
  | _ => false
def inR (k : IntKind) : Int → Bool
  | .ofNat m => Nat.ble m (hn k)
  | .negSucc m => sgn k && Nat.ble m (hn k)
/-- a number of a kind -/
def fw (k : IntKind) (n : Int) : Int := bif inR k n then n else (match sgn k, n with
  | false, .ofNat m => .ofNat (Nat.mod m (Nat.succ (hn k)))
  | _, n => k.wrap n)
theorem inR_spec {k : IntKind} {n : Int} (h : inR k n = true) : k.wrap n = n := by
  cases n with
  | ofNat m =>
    have hb : m ≤ hn k := Nat.le_of_ble_eq_true h
    rw [Int.ofNat_eq_natCast]
    cases k <;> simp only [hn, IntKind.wrap, IntKind.signed, IntKind.bits] at hb ⊢ <;> simp <;> (try split) <;> omega
  | negSucc m =>
    simp only [inR, Bool.and_eq_true] at h
    obtain ⟨h1, h2⟩ := h
    have hb : m ≤ hn k := Nat.le_of_ble_eq_true h2
    rw [Int.negSucc_eq]
    cases k <;> simp only [hn, sgn, IntKind.wrap, IntKind.signed, IntKind.bits] at h1 hb ⊢ <;> first | (exact absurd h1 (by decide)) | (simp <;> (try split) <;> omega)
theorem fw_eq (k : IntKind) (n : Int) : fw k n = k.wrap n := by
  unfold fw
  cases h : inR k n with
  | true => simp only [cond_true]; exact (inR_spec h).symm
  | false =>
    simp only [cond_false]
    cases n with
    | ofNat m =>
      cases k <;> simp only [sgn] <;> (rw [Int.ofNat_eq_natCast, Int.ofNat_eq_natCast]; simp only [show ∀ a b, Nat.mod a b = a % b from fun _ _ => rfl, hn, IntKind.wrap, IntKind.signed, IntKind.bits]; simp <;> omega)
    | negSucc m => cases k <;> simp only [sgn]

theorem hn_bits (k : IntKind) {a : Nat} (h : Nat.ble a (hn k) = true) : a < 2 ^ k.bits := by
  have := Nat.le_of_ble_eq_true h
  cases k <;> simp only [hn, IntKind.bits] at this ⊢ <;> omega
/-- bits of two numbers -/
def bo (op : BinOp) (k : IntKind) (m n : Int) : Int := match m, n with
  | .ofNat a, .ofNat b => bif Nat.ble a (hn k) && Nat.ble b (hn k) then (match op with
      | .and => fw k (.ofNat (Nat.land a b))
      | .or => fw k (.ofNat (Nat.lor a b))
      | .xor => fw k (.ofNat (Nat.xor a b))
      | op => bitsOf op k (.ofNat a) (.ofNat b)) else bitsOf op k (.ofNat a) (.ofNat b)
  | m, n => bitsOf op k m n
theorem bo_eq (op : BinOp) (k : IntKind) (m n : Int) : bo op k m n = bitsOf op k m n := by
  unfold bo
  split
  · rename_i a b
    cases h : Nat.ble a (hn k) && Nat.ble b (hn k) with
    | false => simp only [cond_false]
    | true =>
      simp only [cond_true]
      simp only [Bool.and_eq_true] at h
      have ha := hn_bits k h.1
      have hb := hn_bits k h.2
      have e1 : ∀ c : Nat, c < 2 ^ k.bits → (BitVec.ofInt k.bits (Int.ofNat c)).toNat = c := fun c hc => by
        rw [Int.ofNat_eq_natCast, BitVec.ofInt_natCast, BitVec.toNat_ofNat, Nat.mod_eq_of_lt hc]
      cases op <;> first
        | rfl
        | (simp only []; rw [fw_eq]; simp only [bitsOf, BitVec.toNat_and, e1 a ha, e1 b hb]; rfl)
        | (simp only []; rw [fw_eq]; simp only [bitsOf, BitVec.toNat_or, e1 a ha, e1 b hb]; rfl)
        | (simp only []; rw [fw_eq]; simp only [bitsOf, BitVec.toNat_xor, e1 a ha, e1 b hb]; rfl)
  · rfl
def shlI (k : IntKind) (m : Int) (j : Nat) : Int := match m with
  | .ofNat a => fw k (.ofNat (Nat.mul a (Nat.pow 2 (min j k.bits))))
  | m => k.wrap (m * 2 ^ (min j k.bits))
theorem shlI_eq (k : IntKind) (m : Int) (j : Nat) : shlI k m j = k.wrap (m * 2 ^ (min j k.bits)) := by
  unfold shlI
  split
  · rename_i a
    rw [fw_eq]
    have : Int.ofNat (Nat.mul a (Nat.pow 2 (min j k.bits))) = Int.ofNat a * 2 ^ (min j k.bits) := by
      show ((a * 2 ^ (min j k.bits) : Nat) : Int) = (a : Int) * 2 ^ (min j k.bits)
      simp
    rw [this]
  · rfl
def shrI (k : IntKind) (m : Int) (j : Nat) : Int := match m with
  | .ofNat a => .ofNat (Nat.div a (Nat.pow 2 (min j k.bits)))
  | m => m.fdiv (2 ^ (min j k.bits))
theorem shrI_eq (k : IntKind) (m : Int) (j : Nat) : shrI k m j = m.fdiv (2 ^ (min j k.bits)) := by
  unfold shrI
  split
  · rename_i a
    rw [Int.ofNat_eq_natCast, Int.ofNat_eq_natCast, show Nat.div a (Nat.pow 2 (min j k.bits)) = a / 2 ^ (min j k.bits) from rfl]
    have : ((2 : Int) ^ (min j k.bits)) = ((2 ^ (min j k.bits) : Nat) : Int) := by simp
    rw [this]
    rw [Int.fdiv_eq_ediv_of_nonneg _ (Int.natCast_nonneg _)]
    rfl
  · rfl
/-- two numbers of one kind -/
def ar (op : BinOp) (k : IntKind) (m n : Int) : Option Value := match op with
  | .add => some (.int k (fw k (m + n)))
  | .sub => some (.int k (fw k (m - n)))
  | .mul => some (.int k (fw k (m * n)))
  | .quo => bif decide (n = 0) then none else some (.int k (fw k (m.tdiv n)))
  | .rem => bif decide (n = 0) then none else some (.int k (m.tmod n))
  | .and => some (.int k (bo .and k m n))
  | .or => some (.int k (bo .or k m n))
  | .xor => some (.int k (bo .xor k m n))
  | .andNot => some (.int k (bitsOf .andNot k m n))
  | .eql => some (.bool (decide (m = n)))
  | .neq => some (.bool (!decide (m = n)))
  | .lss => some (.bool (decide (m < n)))
  | .leq => some (.bool (decide (m ≤ n)))
  | .gtr => some (.bool (decide (n < m)))
  | .geq => some (.bool (decide (n ≤ m)))
  | _ => none
section
variable {P : Program} {ρ : T Value} {M M' : Mem} {o : Oper} {v : Value} {xt yt t : TypeId} {x y : Operand}
theorem ar_spec {op : BinOp} {k : IntKind} {m n : Int} (hop : o.op = .binOp op xt x y yt) (hx : okOpd P.globals.size x = true) (hy : okOpd P.globals.size y = true) {ρf : Env} {aw : AW} (h1 : ρf.eval x = .int k m) (h2 : ρf.eval y = .int k n)
    (h : ar op k m n = some v) : OpV P o ρf aw v aw := by
  unfold ar at h
  split at h <;> first | (simp only [Option.some.injEq] at h; subst h) | skip
  · rw [fw_eq]; exact opv_add hop hx hy h1 h2
  · rw [fw_eq]; exact opv_sub hop hx hy h1 h2
  · rw [fw_eq]; exact opv_mul hop hx hy h1 h2
  · cases hn : decide (n = 0) with
    | true => rw [hn] at h; cases h
    | false =>
      rw [hn] at h
      simp only [cond_false, Option.some.injEq] at h; subst h
      rw [fw_eq]; exact opv_quo hop hx hy h1 h2 (of_decide_eq_false hn)
  · cases hn : decide (n = 0) with
    | true => rw [hn] at h; cases h
    | false =>
      rw [hn] at h
      simp only [cond_false, Option.some.injEq] at h; subst h
      exact opv_rem hop hx hy h1 h2 (of_decide_eq_false hn)
  · rw [bo_eq]; exact opv_and hop hx hy h1 h2
  · rw [bo_eq]; exact opv_or hop hx hy h1 h2
  · rw [bo_eq]; exact opv_xor hop hx hy h1 h2
  · exact opv_andNot hop hx hy h1 h2
  · exact opv_eqI hop hx hy h1 h2
  · exact opv_neI hop hx hy h1 h2
  · exact opv_lt hop hx hy h1 h2
  · exact opv_le hop hx hy h1 h2
  · exact opv_gt hop hx hy h1 h2
  · exact opv_ge hop hx hy h1 h2
  · cases h
end
end Go.Ri
