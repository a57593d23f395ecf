/- Numbers as decimal digits: the plain part. -/
import Derived.Test.YtfoceofohlpafaaDoorMt9
import Derived.Test.YtfoceofohlpafaaDoorMaH
import Derived.Test.YtfoceofohlpafaaDoorL3
import Derived.Test.YtfoceofohlpafaaDoorMaD
set_option linter.unusedVariables false
set_option linter.unusedSimpArgs false
set_option linter.unusedSectionVars false
set_option maxRecDepth 100000
namespace Go.Proofs.Tryd
open Go Go.Am Go.RowKit
def dc (d : Nat) : UInt8 := UInt8.ofNat (48 + d % 10)
def dg : Nat → Nat → List UInt8
  | 0, _ => []
  | n + 1, u => dg n (u / 10) ++ [dc u]
def dig (u : Nat) : List UInt8 := if h : 9 < u then dig (u / 10) ++ [dc u] else [dc u]
termination_by u
decreasing_by omega
theorem dc_mod {a b : Nat} (h : a % 10 = b % 10) : dc a = dc b := by unfold dc; rw [h]
theorem dg_len : ∀ n u, (dg n u).length = n
  | 0, _ => rfl
  | n + 1, u => by simp [dg, dg_len n]
theorem dg_2 (n u : Nat) : dg (n + 2) u = dg n (u / 100) ++ [dc (u / 10), dc u] := by
  show (dg n (u / 10 / 10) ++ [dc (u / 10)]) ++ [dc u] = _
  rw [Nat.div_div_eq_div_mul]; simp
theorem dg_dig : ∀ n u, u < 10 ^ (n + 1) → (n = 0 ∨ 10 ^ n ≤ u) → dg (n + 1) u = dig u
  | 0, u, h1, h2 => by
    rw [dig, dif_neg (by omega)]; rfl
  | n + 1, u, h1, h2 => by
    have hp : 10 ^ (n + 1) = 10 ^ n * 10 := Nat.pow_succ ..
    have hp2 : 10 ^ (n + 1 + 1) = 10 ^ (n + 1) * 10 := Nat.pow_succ ..
    have h0 : 0 < 10 ^ n := Nat.pow_pos (by decide)
    have h3 : 10 ^ (n + 1) ≤ u := by rcases h2 with h2 | h2; · cases h2
                                     · exact h2
    rw [dig, dif_pos (by omega)]
    show dg (n + 1) (u / 10) ++ [dc u] = _
    rw [dg_dig n (u / 10) (by omega) (by by_cases hn : n = 0; · exact .inl hn
                                         · exact .inr (by omega))]
abbrev SMALLS : ByteArray := ⟨#[48, 48, 48, 49, 48, 50, 48, 51, 48, 52, 48, 53, 48, 54, 48, 55, 48, 56, 48, 57, 49, 48, 49, 49, 49, 50, 49, 51, 49, 52, 49, 53, 49, 54, 49, 55, 49, 56, 49, 57, 50, 48, 50, 49, 50, 50, 50, 51, 50, 52, 50, 53, 50, 54, 50, 55, 50, 56, 50, 57, 51, 48, 51, 49, 51, 50, 51, 51, 51, 52, 51, 53, 51, 54, 51, 55, 51, 56, 51, 57, 52, 48, 52, 49, 52, 50, 52, 51, 52, 52, 52, 53, 52, 54, 52, 55, 52, 56, 52, 57, 53, 48, 53, 49, 53, 50, 53, 51, 53, 52, 53, 53, 53, 54, 53, 55, 53, 56, 53, 57, 54, 48, 54, 49, 54, 50, 54, 51, 54, 52, 54, 53, 54, 54, 54, 55, 54, 56, 54, 57, 55, 48, 55, 49, 55, 50, 55, 51, 55, 52, 55, 53, 55, 54, 55, 55, 55, 56, 55, 57, 56, 48, 56, 49, 56, 50, 56, 51, 56, 52, 56, 53, 56, 54, 56, 55, 56, 56, 56, 57, 57, 48, 57, 49, 57, 50, 57, 51, 57, 52, 57, 53, 57, 54, 57, 55, 57, 56, 57, 57]⟩
theorem smalls_ok : ∀ k, k < 100 → bt SMALLS ((2 * k : Nat) : Int) = ((dc (k / 10)).toNat : Int) ∧ bt SMALLS ((2 * k + 1 : Nat) : Int) = ((dc k).toNat : Int) := by decide +kernel
theorem u32w (x : Int) : IntKind.u32.wrap x = x % 4294967296 := rfl
theorem u64w (x : Int) : IntKind.u64.wrap x = x % 18446744073709551616 := rfl
theorem u8w (x : Int) : IntKind.u8.wrap x = x % 256 := rfl
theorem dc_nat (d : Nat) : (dc d).toNat = 48 + d % 10 := by
  show (48 + d % 10) % 256 = _
  omega
theorem dg_k {n u k : Nat} (hk : k = u % 100) : dg (n + 2) u = dg n (u / 100) ++ [dc (k / 10), dc k] := by
  rw [dg_2, dc_mod (a := u / 10) (b := k / 10) (by omega), dc_mod (a := u) (b := k) (by omega)]
variable [SymE]
set_option maxHeartbeats 1000000
section
variable {aw0 aw : AW} {own : List Nat} {ro l : List (Nat × Blk)} {b n c nd k : Nat} {E : List PanicEntry → AW → Prop} {xs ds : List UInt8}
abbrev AB (xs : List UInt8) : Blk := ⟨bytesV xs, 154, 0, true, 0⟩
theorem bytesV_app (x y : List UInt8) : bytesV (x ++ y) = bytesV x ++ bytesV y := by simp [bytesV]
theorem put_byte {x y : List UInt8} {p v : UInt8} {i : Nat} (hi : i = x.length) : Put (bytesV (x ++ p :: y)) i [.int .u8 (v.toNat : Int)] (bytesV (x ++ v :: y)) := by
  have := put_app (Put.cons (c := .int .u8 (p.toNat : Int)) (v := .int .u8 (v.toNat : Int)) (Put.nil (r := bytesV y))) (bytesV x)
  rw [show (bytesV x).length + 0 = i by simp [bytesV, hi]] at this
  rw [bytesV_app, bytesV_app]; exact this
theorem last2 : ∀ {n : Nat} {xs : List UInt8}, xs.length = n + 2 → ∃ ys p q, xs = ys ++ [p, q] ∧ ys.length = n
  | 0, [p, q], _ => ⟨[], p, q, rfl, rfl⟩
  | n + 1, x :: xs, h => by
    obtain ⟨ys, p, q, rfl, h2⟩ := last2 (n := n) (xs := xs) (by simpa using h)
    exact ⟨x :: ys, p, q, rfl, by simp [h2]⟩
theorem pair_x {K : AW → Prop} {e1 e2 n1 n2 : Int} (M : Hp aw0 own ro aw ((b, AB (xs ++ ds)) :: l)) (hx : xs.length = 1 + (nd + 2)) (hn : nd + 2 ≤ n) (hk : k < 100) (h1 : e1 = ((2 * k + 1 : Nat) : Int)) (h2 : e2 = ((2 * k : Nat) : Int)) (h3 : n1 = ((nd + 1 : Nat) : Int)) (h4 : n2 = (nd : Int))
    (hK : ∀ ys aw', ys.length = 1 + nd → Hp aw0 own ro aw' ((b, AB (ys ++ ([dc (k / 10), dc k] ++ ds))) :: l) → K aw') :
    chr SMALLS e1 fun c1 => chr SMALLS e2 fun c2 => ixS (.slice (some ⟨b, 1, none⟩) n c) n1 1 fun p1 => st aw p1 [.int .u8 c1] fun aw1 => ixS (.slice (some ⟨b, 1, none⟩) n c) n2 1 fun p2 => st aw1 p2 [.int .u8 c2] fun aw2 => K aw2 := by
  subst h1; subst h2; subst h3; subst h4
  obtain ⟨ys, p, q, rfl, hy⟩ := last2 (n := 1 + nd) (by omega)
  have hs := smalls_ok k hk
  have sz : SMALLS.size = 200 := rfl
  refine ⟨_, by omega, by rw [sz]; omega, rfl, _, by omega, by rw [sz]; omega, rfl, ?_⟩
  rw [hs.1, hs.2]
  refine ixS_x (by omega) (by omega) ?_
  have M1 : Hp aw0 own ro aw ((b, AB ((ys ++ [p]) ++ q :: ds)) :: l) := by simpa using M
  refine st_x M1 .here (put_byte (v := dc k) (by simp; omega)) rfl rfl rfl fun aw1 M2 => ?_
  have M3 : Hp aw0 own ro aw1 ((b, AB (ys ++ p :: (dc k :: ds))) :: l) := by simpa using M2
  refine ixS_x (by omega) (by omega) ?_
  refine st_x M3 .here (put_byte (v := dc (k / 10)) (by omega)) rfl rfl rfl fun aw2 M4 => ?_
  exact hK ys aw2 hy M4
end
end Go.Proofs.Tryd
set_option linter.unusedVariables false
set_option linter.unusedSimpArgs false
set_option linter.unusedSectionVars false
set_option maxRecDepth 100000
namespace Go.Proofs.Tryd
open Go Go.Am Go.RowKit
variable [SymE]
set_option maxHeartbeats 1000000
section
variable {aw0 aw : AW} {own : List Nat} {ro l : List (Nat × Blk)} {b n c nd k : Nat} {E : List PanicEntry → AW → Prop} {xs ds : List UInt8}
theorem fmt_3 {Q : Unit → AW → Prop} {m x : Nat} (M : Hp aw0 own ro aw ((b, AB (xs ++ ds)) :: l)) (hx : xs.length = 1 + m) (hm : m < 2) (hmn : m ≤ n) (hxx : x < 10 ^ m)
    (hQ : ∀ p aw', Hp aw0 own ro aw' ((b, AB (p :: (dg m x ++ ds))) :: l) → Q () aw') : S95_3 Q E (.slice (some ⟨b, 1, none⟩) n c) (m : Int) (x : Int) aw := by
  unfold S95_3
  match m, xs, hm, hx with
  | 0, [p], _, _ => exact cnd_0x rfl (hQ p aw M)
  | 1, [p, q], _, _ =>
    refine cnd_1x rfl (ixS_x (by decide) (by omega) ?_)
    have e : IntKind.u8.wrap (IntKind.u32.wrap (48 + (x : Int))) = ((dc x).toNat : Int) := by rw [dc_nat, u8w, u32w]; simp at hxx; omega
    rw [e]
    have M1 : Hp aw0 own ro aw ((b, AB ([p] ++ q :: ds)) :: l) := M
    refine st_x M1 .here (put_byte (v := dc x) rfl) rfl rfl rfl fun aw1 M2 => ?_
    exact hQ p aw1 M2
theorem fmt_2 {Q : Unit → AW → Prop} {x : Nat} (M : Hp aw0 own ro aw ((b, AB (xs ++ ds)) :: l)) (hx : xs.length = 1 + nd) (hnd : nd < 4) (hn : nd ≤ n) (hxx : x < 10 ^ nd)
    (hQ : ∀ p aw', Hp aw0 own ro aw' ((b, AB (p :: (dg nd x ++ ds))) :: l) → Q () aw') : S95_2 Q E (.slice (some ⟨b, 1, none⟩) n c) (nd : Int) (x : Int) aw := by
  unfold S95_2
  by_cases h : 2 ≤ nd
  · obtain ⟨m, rfl⟩ : ∃ m, nd = m + 2 := ⟨nd - 2, by omega⟩
    have hx2 : x < 2 ^ 30 := Nat.lt_of_lt_of_le hxx (Nat.le_trans (Nat.pow_le_pow_right (by decide) (show m + 2 ≤ 3 by omega)) (by decide))
    have hp : 10 ^ (m + 2) = 10 ^ m * 100 := by rw [Nat.pow_add]
    refine cnd_1x (decide_eq_true (by omega)) ?_
    refine pair_x (k := x % 100) M hx hn (Nat.mod_lt _ (by decide)) ?_ ?_ ?_ ?_ fun ys aw1 hy M1 => ?_
    · simp (disch := omega) only [Int.tmod_eq_emod_of_nonneg, Int.tdiv_eq_ediv_of_nonneg, u32w]; omega
    · simp (disch := omega) only [Int.tmod_eq_emod_of_nonneg, Int.tdiv_eq_ediv_of_nonneg, u32w]; omega
    · rw [i64_in (by omega) (by omega)]; omega
    · rw [i64_in (by omega) (by omega)]; omega
    have e1 : IntKind.i64.wrap (((m + 2 : Nat) : Int) - 2) = (m : Int) := by rw [i64_in (by omega) (by omega)]; omega
    have e2 : IntKind.u32.wrap (Int.tdiv (x : Int) 100) = ((x / 100 : Nat) : Int) := by simp (disch := omega) only [Int.tdiv_eq_ediv_of_nonneg, u32w]; omega
    rw [e1, e2]
    refine fmt_3 M1 hy (by omega) (by omega) (by omega) fun p aw2 M2 => hQ p aw2 ?_
    rw [dg_k (n := m) (u := x) rfl, List.append_assoc]
    exact M2
  · refine cnd_0x (decide_eq_false (by omega)) ?_
    exact fmt_3 M hx (by omega) hn hxx hQ
theorem fmt_0 {Q : Unit → AW → Prop} {nx : Value → Int → Int → AW → Prop} {u : Nat} (M : Hp aw0 own ro aw ((b, AB (xs ++ ds)) :: l)) (hnd : nd < 8) (hx : xs.length = 1 + nd) (hn : nd ≤ n) (hu : u < 10 ^ nd)
    (hQ : ∀ p aw', Hp aw0 own ro aw' ((b, AB (p :: (dg nd u ++ ds))) :: l) → Q () aw') : S95_1s Q E nx (.slice (some ⟨b, 1, none⟩) n c) (u : Int) (nd : Int) aw := by
  unfold S95_1s
  refine cnd_0x (decide_eq_false (by omega)) ?_
  by_cases h : 4 ≤ nd
  · obtain ⟨m, rfl⟩ : ∃ m, nd = m + 4 := ⟨nd - 4, by omega⟩
    have hx2 : u < 2 ^ 24 := Nat.lt_of_lt_of_le hu (Nat.le_trans (Nat.pow_le_pow_right (by decide) (show m + 4 ≤ 7 by omega)) (by decide))
    have hp : 10 ^ (m + 4) = 10 ^ m * 10000 := by rw [Nat.pow_add]
    refine cnd_1x (decide_eq_true (by omega)) ?_
    refine pair_x (nd := m + 2) (k := u % 100) M (by omega) (by omega) (Nat.mod_lt _ (by decide)) ?_ ?_ ?_ ?_ fun ys aw1 hy M1 => ?_
    · simp (disch := omega) only [Int.tmod_eq_emod_of_nonneg, Int.tdiv_eq_ediv_of_nonneg, u32w]; omega
    · simp (disch := omega) only [Int.tmod_eq_emod_of_nonneg, Int.tdiv_eq_ediv_of_nonneg, u32w]; omega
    · rw [i64_in (by omega) (by omega)]; omega
    · rw [i64_in (by omega) (by omega)]; omega
    refine pair_x (nd := m) (k := u / 100 % 100) M1 hy (by omega) (Nat.mod_lt _ (by decide)) ?_ ?_ ?_ ?_ fun zs aw2 hz M2 => ?_
    · simp (disch := omega) only [Int.tmod_eq_emod_of_nonneg, Int.tdiv_eq_ediv_of_nonneg, u32w]; omega
    · simp (disch := omega) only [Int.tmod_eq_emod_of_nonneg, Int.tdiv_eq_ediv_of_nonneg, u32w]; omega
    · rw [i64_in (by omega) (by omega)]; omega
    · rw [i64_in (by omega) (by omega)]; omega
    have e1 : IntKind.i64.wrap (((m + 4 : Nat) : Int) - 4) = (m : Int) := by rw [i64_in (by omega) (by omega)]; omega
    have e2 : IntKind.u32.wrap (Int.tdiv (IntKind.u32.wrap (u : Int)) 10000) = ((u / 100 / 100 : Nat) : Int) := by simp (disch := omega) only [Int.tdiv_eq_ediv_of_nonneg, u32w]; omega
    rw [e1, e2]
    refine fmt_2 M2 hz (by omega) (by omega) (by omega) fun p aw3 M3 => hQ p aw3 ?_
    rw [dg_k (n := m + 2) (u := u) rfl, dg_k (n := m) (u := u / 100) rfl]
    simpa using M3
  · refine cnd_0x (decide_eq_false (by omega)) ?_
    have hx2 : u < 2 ^ 24 := Nat.lt_of_lt_of_le hu (Nat.le_trans (Nat.pow_le_pow_right (by decide) (show nd ≤ 7 by omega)) (by decide))
    have e2 : IntKind.u32.wrap (u : Int) = (u : Int) := by rw [u32w]; omega
    rw [e2]
    exact fmt_2 M hx (by omega) hn hu hQ
theorem fmt_1 {Q : Unit → AW → Prop} : ∀ (r nd : Nat) (u : Nat) (xs ds : List UInt8) (aw : AW), nd < 8 * r + 8 → nd < 100 → xs.length = 1 + nd → nd ≤ n → u < 10 ^ nd → u < 2 ^ 64 → Hp aw0 own ro aw ((b, AB (xs ++ ds)) :: l) →
    (∀ p aw', Hp aw0 own ro aw' ((b, AB (p :: (dg nd u ++ ds))) :: l) → Q () aw') → S95_1 Q E (r + 1) (.slice (some ⟨b, 1, none⟩) n c) (u : Int) (nd : Int) aw := by
  intro r
  induction r with
  | zero =>
    intro nd u xs ds aw h1 hnd hx hn hu hu2 M hQ
    exact fmt_0 (nx := S95_1 Q E 0) M (by omega) hx hn hu hQ
  | succ r ih =>
    intro nd u xs ds aw h1 hnd hx hn hu hu2 M hQ
    by_cases h : 8 ≤ nd
    · obtain ⟨m, rfl⟩ : ∃ m, nd = m + 8 := ⟨nd - 8, by omega⟩
      have hp : 10 ^ (m + 8) = 10 ^ m * 100000000 := by rw [Nat.pow_add]
      show S95_1s Q E _ _ _ _ aw
      unfold S95_1s
      refine cnd_1x (decide_eq_true (by omega)) ?_
      refine pair_x (nd := m + 6) (k := u % 100) M (by omega) (by omega) (Nat.mod_lt _ (by decide)) ?_ ?_ ?_ ?_ fun ys aw1 hy M1 => ?_
      · simp (disch := omega) only [Int.tmod_eq_emod_of_nonneg, Int.tdiv_eq_ediv_of_nonneg, u32w]; omega
      · simp (disch := omega) only [Int.tmod_eq_emod_of_nonneg, Int.tdiv_eq_ediv_of_nonneg, u32w]; omega
      · rw [i64_in (by omega) (by omega)]; omega
      · rw [i64_in (by omega) (by omega)]; omega
      refine pair_x (nd := m + 4) (k := u / 100 % 100) M1 hy (by omega) (Nat.mod_lt _ (by decide)) ?_ ?_ ?_ ?_ fun zs aw2 hz M2 => ?_
      · simp (disch := omega) only [Int.tmod_eq_emod_of_nonneg, Int.tdiv_eq_ediv_of_nonneg, u32w]; omega
      · simp (disch := omega) only [Int.tmod_eq_emod_of_nonneg, Int.tdiv_eq_ediv_of_nonneg, u32w]; omega
      · rw [i64_in (by omega) (by omega)]; omega
      · rw [i64_in (by omega) (by omega)]; omega
      refine pair_x (nd := m + 2) (k := u / 100 / 100 % 100) M2 hz (by omega) (Nat.mod_lt _ (by decide)) ?_ ?_ ?_ ?_ fun zs aw3 hz M3 => ?_
      · simp (disch := omega) only [Int.tmod_eq_emod_of_nonneg, Int.tdiv_eq_ediv_of_nonneg, u32w]; omega
      · simp (disch := omega) only [Int.tmod_eq_emod_of_nonneg, Int.tdiv_eq_ediv_of_nonneg, u32w]; omega
      · rw [i64_in (by omega) (by omega)]; omega
      · rw [i64_in (by omega) (by omega)]; omega
      refine pair_x (nd := m) (k := u / 100 / 100 / 100 % 100) M3 hz (by omega) (Nat.mod_lt _ (by decide)) ?_ ?_ ?_ ?_ fun zs aw4 hz M4 => ?_
      · simp (disch := omega) only [Int.tmod_eq_emod_of_nonneg, Int.tdiv_eq_ediv_of_nonneg, u32w]; omega
      · simp (disch := omega) only [Int.tmod_eq_emod_of_nonneg, Int.tdiv_eq_ediv_of_nonneg, u32w]; omega
      · rw [i64_in (by omega) (by omega)]; omega
      · rw [i64_in (by omega) (by omega)]; omega
      have e1 : IntKind.i64.wrap (((m + 8 : Nat) : Int) - 8) = (m : Int) := by rw [i64_in (by omega) (by omega)]; omega
      have e2 : IntKind.u64.wrap (Int.tdiv (u : Int) 100000000) = ((u / 100 / 100 / 100 / 100 : Nat) : Int) := by simp (disch := omega) only [Int.tdiv_eq_ediv_of_nonneg, u64w]; omega
      rw [e1, e2]
      refine ih m _ _ _ aw4 (by omega) (by omega) hz (by omega) (by omega) (by omega) M4 fun p aw5 M5 => hQ p aw5 ?_
      rw [dg_k (n := m + 6) (u := u) rfl, dg_k (n := m + 4) (u := u / 100) rfl, dg_k (n := m + 2) (u := u / 100 / 100) rfl, dg_k (n := m) (u := u / 100 / 100 / 100) rfl]
      simpa using M5
    · exact fmt_0 (nx := S95_1 Q E (r + 1)) M (by omega) hx hn hu hQ
theorem fmt_x {Q : Unit → AW → Prop} {u : Nat} (M : Hp aw0 own ro aw ((b, AB (xs ++ ds)) :: l)) (hnd : nd < 24) (hx : xs.length = 1 + nd) (hu : u < 10 ^ nd) (hu2 : u < 2 ^ 64)
    (hQ : ∀ p aw', Hp aw0 own ro aw' ((b, AB (p :: (dg nd u ++ ds))) :: l) → Q () aw') : CallP prog 95 [.slice (some ⟨b, 1, none⟩) nd c, .int .u64 (u : Int)] aw sh95 Q E := by
  refine F95_ok _ _ aw ?_
  unfold S95_0
  refine slen_x ⟨2 + 1, ?_⟩
  exact fmt_1 2 nd u xs ds aw (by omega) (by omega) hx (Nat.le_refl _) hu hu2 M hQ
end
end Go.Proofs.Tryd
set_option linter.unusedVariables false
set_option linter.unusedSimpArgs false
set_option linter.unusedSectionVars false
set_option maxRecDepth 100000
namespace Go.Proofs.Tryd
open Go Go.Am Go.RowKit
def BL (x L : Nat) : Prop := (x = 0 ∧ L = 0) ∨ (1 ≤ L ∧ 2 ^ (L - 1) ≤ x ∧ x < 2 ^ L)
theorem BL.up {x L : Nat} (j : Nat) (h : BL (x / 2 ^ j) L) (hx : 2 ^ j ≤ x) : BL x (L + j) := by
  have hp : 0 < 2 ^ j := Nat.pow_pos (by decide)
  rcases h with ⟨h, _⟩ | ⟨h1, h2, h3⟩
  · have := Nat.div_pos hx hp; omega
  · refine .inr ⟨by omega, ?_, ?_⟩
    · rw [show L + j - 1 = (L - 1) + j by omega, Nat.pow_add]
      exact (Nat.le_div_iff_mul_le hp).1 h2
    · rw [Nat.pow_add]; exact (Nat.div_lt_iff_lt_mul hp).1 h3
abbrev LENS : ByteArray := ⟨#[0, 1, 2, 2, 3, 3, 3, 3, 4, 4, 4, 4, 4, 4, 4, 4, 5, 5, 5, 5, 5, 5, 5, 5, 5, 5, 5, 5, 5, 5, 5, 5, 6, 6, 6, 6, 6, 6, 6, 6, 6, 6, 6, 6, 6, 6, 6, 6, 6, 6, 6, 6, 6, 6, 6, 6, 6, 6, 6, 6, 6, 6, 6, 6, 7, 7, 7, 7, 7, 7, 7, 7, 7, 7, 7, 7, 7, 7, 7, 7, 7, 7, 7, 7, 7, 7, 7, 7, 7, 7, 7, 7, 7, 7, 7, 7, 7, 7, 7, 7, 7, 7, 7, 7, 7, 7, 7, 7, 7, 7, 7, 7, 7, 7, 7, 7, 7, 7, 7, 7, 7, 7, 7, 7, 7, 7, 7, 7, 8, 8, 8, 8, 8, 8, 8, 8, 8, 8, 8, 8, 8, 8, 8, 8, 8, 8, 8, 8, 8, 8, 8, 8, 8, 8, 8, 8, 8, 8, 8, 8, 8, 8, 8, 8, 8, 8, 8, 8, 8, 8, 8, 8, 8, 8, 8, 8, 8, 8, 8, 8, 8, 8, 8, 8, 8, 8, 8, 8, 8, 8, 8, 8, 8, 8, 8, 8, 8, 8, 8, 8, 8, 8, 8, 8, 8, 8, 8, 8, 8, 8, 8, 8, 8, 8, 8, 8, 8, 8, 8, 8, 8, 8, 8, 8, 8, 8, 8, 8, 8, 8, 8, 8, 8, 8, 8, 8, 8, 8, 8, 8, 8, 8, 8, 8, 8, 8, 8, 8, 8, 8, 8, 8, 8, 8, 8, 8]⟩
instance (x L : Nat) : Decidable (BL x L) := inferInstanceAs (Decidable (_ ∨ _))
theorem lens_ok : ∀ k : Nat, k < 256 → 0 ≤ bt LENS (k : Int) ∧ bt LENS (k : Int) < 9 ∧ BL k (bt LENS (k : Int)).toNat := by decide +kernel
theorem digs_ok : ∀ L, L < 65 → 1 ≤ L → L * 78913 / 262144 ≤ 19 ∧ (L * 78913 / 262144 = 0 ∨ 10 ^ (L * 78913 / 262144 - 1) ≤ 2 ^ (L - 1)) ∧ 2 ^ L ≤ 10 ^ (L * 78913 / 262144 + 1) := by decide +kernel
abbrev powC : List Value := [.int .u64 1, .int .u64 10, .int .u64 100, .int .u64 1000, .int .u64 10000, .int .u64 100000, .int .u64 1000000, .int .u64 10000000, .int .u64 100000000, .int .u64 1000000000, .int .u64 10000000000, .int .u64 100000000000, .int .u64 1000000000000, .int .u64 10000000000000, .int .u64 100000000000000, .int .u64 1000000000000000, .int .u64 10000000000000000, .int .u64 100000000000000000, .int .u64 1000000000000000000, .int .u64 10000000000000000000]
theorem pow_ok : ∀ r, r ≤ 19 → powC[r]? = some (.int .u64 ((10 ^ r : Nat) : Int)) := by
  intro r h
  match r, h with
  | 0, _ | 1, _ | 2, _ | 3, _ | 4, _ | 5, _ | 6, _ | 7, _ | 8, _ | 9, _ | 10, _ | 11, _ | 12, _ | 13, _ | 14, _ | 15, _ | 16, _ | 17, _ | 18, _ | 19, _ => rfl
  | n + 20, h => exact absurd h (by omega)
theorem fdiv_nat (x j : Nat) : Int.fdiv (x : Int) (2 ^ j) = ((x / 2 ^ j : Nat) : Int) := by
  rw [Int.fdiv_eq_ediv_of_nonneg _ (Int.pow_nonneg (by decide))]
  simp
theorem dig_len : ∀ n u, u < 10 ^ (n + 1) → (dig u).length ≤ n + 1
  | 0, u, h => by rw [dig, dif_neg (by omega)]; simp
  | n + 1, u, h => by
    have hp : 10 ^ (n + 1 + 1) = 10 ^ (n + 1) * 10 := Nat.pow_succ ..
    rw [dig]
    split
    · simp; exact dig_len n (u / 10) (by omega)
    · simp
variable [SymE]
set_option maxHeartbeats 1000000
section
variable {aw0 aw : AW} {own : List Nat} {ro l : List (Nat × Blk)} {E : List PanicEntry → AW → Prop}
theorem len3 {Q : Int → AW → Prop} {x n : Nat} (hx : x < 256) (hn : n < 100) (hQ : ∀ L, BL x L → L ≤ 8 → Q ((n + L : Nat) : Int) aw) : S99_3 Q E (x : Int) (n : Int) aw := by
  unfold S99_3
  have h := lens_ok x hx
  have e : IntKind.u8.wrap (x : Int) = (x : Int) := by rw [u8w]; omega
  rw [e]
  refine ⟨_, by omega, by show (x : Int) < ((256 : Nat) : Int); omega, rfl, ?_⟩
  obtain ⟨L, hL⟩ : ∃ L : Nat, bt LENS (x : Int) = (L : Int) := ⟨_, (Int.toNat_of_nonneg h.1).symm⟩
  rw [hL] at h ⊢
  rw [i64_nat (n := L) (by omega), show (n : Int) + (L : Int) = ((n + L : Nat) : Int) by omega, i64_nat (by omega)]
  exact hQ L h.2.2 (by omega)
theorem len2 {Q : Int → AW → Prop} {x n : Nat} (hx : x < 2 ^ 16) (hn : n < 50) (hQ : ∀ L, BL x L → L ≤ 16 → Q ((n + L : Nat) : Int) aw) : S99_2 Q E (x : Int) (n : Int) aw := by
  unfold S99_2
  by_cases h : 256 ≤ x
  · refine cnd_1x (decide_eq_true (by omega)) ?_
    have e : Int.fdiv (x : Int) (2 ^ (min (8 : Int).toNat IntKind.u64.bits)) = ((x / 2 ^ 8 : Nat) : Int) := fdiv_nat x 8
    rw [e, show (n : Int) + 8 = ((n + 8 : Nat) : Int) by omega, i64_nat (by omega)]
    refine len3 (by omega) (by omega) fun L hL hL2 => ?_
    rw [show n + 8 + L = n + (L + 8) by omega]
    exact hQ _ (hL.up 8 h) (by omega)
  · exact cnd_0x (decide_eq_false (by omega)) (len3 (by omega) (by omega) fun L hL hL2 => hQ L hL (by omega))
theorem len1 {Q : Int → AW → Prop} {x n : Nat} (hx : x < 2 ^ 32) (hn : n < 34) (hQ : ∀ L, BL x L → L ≤ 32 → Q ((n + L : Nat) : Int) aw) : S99_1 Q E (x : Int) (n : Int) aw := by
  unfold S99_1
  by_cases h : 65536 ≤ x
  · refine cnd_1x (decide_eq_true (by omega)) ?_
    have e : Int.fdiv (x : Int) (2 ^ (min (16 : Int).toNat IntKind.u64.bits)) = ((x / 2 ^ 16 : Nat) : Int) := fdiv_nat x 16
    rw [e, show (n : Int) + 16 = ((n + 16 : Nat) : Int) by omega, i64_nat (by omega)]
    refine len2 (by omega) (by omega) fun L hL hL2 => ?_
    rw [show n + 16 + L = n + (L + 16) by omega]
    exact hQ _ (hL.up 16 h) (by omega)
  · exact cnd_0x (decide_eq_false (by omega)) (len2 (by omega) (by omega) fun L hL hL2 => hQ L hL (by omega))
theorem len_x' {Q : Int → AW → Prop} {x : Nat} (hx : x < 2 ^ 64) (hQ : ∀ L, BL x L → L ≤ 64 → Q (L : Int) aw) : CallP prog 99 [.int .u64 (x : Int)] aw sh99 Q E := by
  refine F99_ok _ aw ?_
  unfold S99_0
  by_cases h : 4294967296 ≤ x
  · refine cnd_1x (decide_eq_true (by omega)) ?_
    have e : Int.fdiv (x : Int) (2 ^ (min (32 : Int).toNat IntKind.u64.bits)) = ((x / 2 ^ 32 : Nat) : Int) := fdiv_nat x 32
    rw [e]
    refine len1 (n := 32) (by omega) (by omega) fun L hL hL2 => ?_
    rw [show 32 + L = L + 32 by omega]
    exact hQ _ (hL.up 32 h) (by omega)
  · exact cnd_0x (decide_eq_false (by omega)) (len1 (n := 0) (by omega) (by omega) fun L hL hL2 => by rw [Nat.zero_add]; exact hQ L hL (by omega))
theorem count_x {Q : Int → AW → Prop} {x : Nat} {t : TypeId} {e : Nat} {rw_ : Bool} {fz : Nat} (hx : x < 2 ^ 64) (h1 : 1 ≤ x) (hP : In aw 3 ⟨powC, t, e, rw_, fz⟩) (hQ : ∀ nd : Nat, 1 ≤ nd → nd ≤ 20 → 10 ^ (nd - 1) ≤ x → x < 10 ^ nd → Q (nd : Int) aw) : CallP prog 94 [.int .u64 (x : Int)] aw sh94 Q E := by
  refine F94_ok _ aw ?_
  unfold S94_0
  refine len_x' hx fun L hL hL2 => ?_
  refine F98_ok _ aw ?_
  unfold S98_0
  obtain ⟨h3, h4, h5⟩ : 1 ≤ L ∧ 2 ^ (L - 1) ≤ x ∧ x < 2 ^ L := by
    rcases hL with ⟨h, _⟩ | h
    · omega
    · exact h
  obtain ⟨d1, d2, d3⟩ := digs_ok L (by omega) h3
  have e1 : Int.fdiv (IntKind.i64.wrap ((L : Int) * 78913)) (2 ^ (min (18 : Int).toNat IntKind.i64.bits)) = ((L * 78913 / 262144 : Nat) : Int) := by
    rw [show (L : Int) * 78913 = ((L * 78913 : Nat) : Int) by omega, i64_nat (by omega)]
    exact fdiv_nat (L * 78913) 18
  rw [e1]
  generalize L * 78913 / 262144 = r at d1 d2 d3
  refine ⟨3, 0, _, rfl, by omega, by omega, rfl, ?_⟩
  refine ldI_x hP (Cell.of (by rw [show 0 + ((r : Nat) : Int).toNat * 1 = r by omega]; exact pow_ok r d1)) ?_
  refine F100_ok _ aw ?_
  unfold S100_0
  by_cases h : 10 ^ r ≤ x
  · refine cnd_1x (decide_eq_true (by omega)) ?_
    show Q (IntKind.i64.wrap ((r : Int) + 1)) aw
    rw [show (r : Int) + 1 = ((r + 1 : Nat) : Int) by omega, i64_nat (by omega)]
    exact hQ (r + 1) (by omega) (by omega) (by simpa using h) (by omega)
  · refine cnd_0x (decide_eq_false (by omega)) ?_
    show Q (IntKind.i64.wrap ((r : Int) + 0)) aw
    rw [Int.add_zero, i64_nat (by omega)]
    have hr : 1 ≤ r := by
      rcases Nat.eq_zero_or_pos r with h0 | h0
      · subst h0; omega
      · exact h0
    exact hQ r hr (by omega) (by rcases d2 with d2 | d2 <;> omega) (by omega)
end
end Go.Proofs.Tryd
set_option linter.unusedVariables false
set_option linter.unusedSimpArgs false
set_option linter.unusedSectionVars false
set_option maxRecDepth 100000
namespace Go.Proofs.Tryd
open Go Go.Am Go.RowKit
def numB (i : Int) : List UInt8 := if i < 0 then 45 :: dig i.natAbs else dig i.natAbs
theorem small1 : ∀ k : Nat, k < 10 → (⟨#[48, 49, 50, 51, 52, 53, 54, 55, 56, 57, 97, 98, 99, 100, 101, 102, 103, 104, 105, 106, 107, 108, 109, 110, 111, 112, 113, 114, 115, 116, 117, 118, 119, 120, 121, 122]⟩ : ByteArray).extract k (k + 1) = ⟨(dg 1 k).toArray⟩ := by decide +kernel
theorem small2 : ∀ k : Nat, k < 100 → SMALLS.extract (2 * k) (2 * k + 2) = ⟨(dg 2 k).toArray⟩ := by decide +kernel
variable [SymE]
set_option maxHeartbeats 1000000
section
variable {aw0 aw : AW} {own : List Nat} {ro l : List (Nat × Blk)} {E : List PanicEntry → AW → Prop}
theorem small_x {Q : ByteArray → AW → Prop} {i : Nat} (hi : i < 100) (hQ : Q (mkB (dig i)) aw) : CallP prog 93 [.int .i64 (i : Int)] aw sh93 Q E := by
  refine F93_ok _ aw ?_
  unfold S93_0
  by_cases h : i < 10
  · refine cnd_1x (decide_eq_true (by omega)) ?_
    rw [show (i : Int) + 1 = ((i + 1 : Nat) : Int) by omega, i64_nat (by omega)]
    refine ⟨_, by omega, by omega, by show ((i + 1 : Nat) : Int) ≤ ((36 : Nat) : Int); omega, rfl, ?_⟩
    have := small1 i h
    rw [dg_dig 0 i (by omega) (.inl rfl)] at this
    simp only [Int.toNat_natCast]
    rw [this]; exact hQ
  · refine cnd_0x (decide_eq_false (by omega)) ?_
    rw [show (i : Int) * 2 = ((2 * i : Nat) : Int) by omega, i64_nat (by omega), show ((2 * i : Nat) : Int) + 2 = ((2 * i + 2 : Nat) : Int) by omega, i64_nat (by omega)]
    refine ⟨_, by omega, by omega, by show ((2 * i + 2 : Nat) : Int) ≤ ((200 : Nat) : Int); omega, rfl, ?_⟩
    have := small2 i hi
    rw [dg_dig 1 i (by omega) (.inr (by omega))] at this
    simp only [Int.toNat_natCast]
    rw [this]; exact hQ
theorem toS_x {K : ByteArray → Prop} {b i n c : Nat} {B : Blk} {ls : List UInt8} (hi : In aw b B) (hl : i + n * 1 ≤ B.cells.length) (hc : (B.cells.drop i).take (n * 1) = bytesV ls) (h : K (mkB ls)) : toS aw (.slice (some ⟨b, i, none⟩) n c) K :=
  ⟨ls, n, _, src_x hi hl hc, ⟨_, _, _, rfl⟩, rfl, h⟩
theorem bytesV_len (x : List UInt8) : (bytesV x).length = x.length := by simp [bytesV]
theorem long_x {Q : ByteArray → AW → Prop} {i : Int} {u b : Nat} {t : TypeId} {e : Nat} {rw_ : Bool} {fz : Nat} (hu : u = i.natAbs) (h1 : 1 ≤ u) (hu2 : u < 2 ^ 64) (hP : At ro 3 ⟨powC, t, e, rw_, fz⟩)
    (M : Hp aw0 own ro aw ((b, AB (List.replicate 24 0)) :: l)) (hQ : ∀ aw', Hp aw0 own ro aw' l → Q (mkB (numB i)) aw') : S91_1 Q E i (Pt b) (u : Int) aw := by
  unfold S91_1
  refine count_x hu2 h1 (M.ir hP) fun nd n1 n2 n3 n4 => ?_
  have e1 : IntKind.i64.wrap (1 + (nd : Int)) = ((nd + 1 : Nat) : Int) := by rw [show 1 + (nd : Int) = ((nd + 1 : Nat) : Int) by omega, i64_nat (by omega)]
  rw [e1]
  refine ⟨b, 0, _, rfl, by decide, by omega, by omega, rfl, ?_⟩
  rw [show ((nd + 1 : Nat) : Int).toNat - (1 : Int).toNat = nd by omega, show 0 + (1 : Int).toNat * 1 = 1 from rfl]
  have M1 : Hp aw0 own ro aw ((b, AB (List.replicate (1 + nd) 0 ++ List.replicate (23 - nd) 0)) :: l) := by
    rw [List.replicate_append_replicate, show 1 + nd + (23 - nd) = 24 by omega]; exact M
  refine fmt_x M1 (by omega) (by simp) n4 hu2 fun p aw1 M2 => ?_
  obtain ⟨m, rfl⟩ : ∃ m, nd = m + 1 := ⟨nd - 1, by omega⟩
  have hd : dg (m + 1) u = dig u := dg_dig m u n4 (.inr (by simpa using n3))
  have hdl : (dig u).length = m + 1 := by rw [← hd, dg_len]
  rw [hd] at M2
  by_cases h : i < 0
  · refine cnd_1x (decide_eq_true h) (⟨b, 0, _, rfl, by decide, by decide, rfl, ?_⟩)
    have M3 : Hp aw0 own ro aw1 ((b, AB ([] ++ p :: (dig u ++ List.replicate (23 - (m + 1)) 0))) :: l) := M2
    refine st_x M3 .here (put_byte (v := 45) rfl) rfl rfl rfl fun aw2 M4 => ?_
    refine ⟨b, 0, _, rfl, by decide, by omega, by omega, rfl, ?_⟩
    refine toS_x (ls := numB i) (M4.im .here) ?_ ?_ ?_
    · show 0 + (0 : Int).toNat * 1 + _ ≤ _
      rw [bytesV_len]; simp [hdl]; omega
    · show ((bytesV ([] ++ 45 :: (dig u ++ List.replicate (23 - (m + 1)) 0))).drop (0 + (0 : Int).toNat * 1)).take _ = _
      rw [show 0 + (0 : Int).toNat * 1 = 0 from rfl, List.drop_zero, List.nil_append, ← List.cons_append, bytesV_app, List.take_append_of_le_length (by rw [bytesV_len]; simp [hdl] <;> omega), List.take_of_length_le (by rw [bytesV_len]; simp [hdl] <;> omega)]
      unfold numB; rw [if_pos h, hu]
    · exact hQ aw2 (M4.drop .here)
  · refine cnd_0x (decide_eq_false h) (⟨b, 0, _, rfl, by decide, by omega, by omega, rfl, ?_⟩)
    refine toS_x (ls := numB i) (M2.im .here) ?_ ?_ ?_
    · show 0 + (1 : Int).toNat * 1 + _ ≤ _
      rw [bytesV_len]; simp [hdl]; omega
    · show ((bytesV (p :: (dig u ++ List.replicate (23 - (m + 1)) 0))).drop (0 + (1 : Int).toNat * 1)).take _ = _
      rw [show 0 + (1 : Int).toNat * 1 = 1 from rfl]
      show (bytesV (dig u ++ List.replicate (23 - (m + 1)) 0)).take _ = _
      rw [bytesV_app, List.take_append_of_le_length (by rw [bytesV_len]; simp [hdl] <;> omega), List.take_of_length_le (by rw [bytesV_len]; simp [hdl] <;> omega)]
      unfold numB; rw [if_neg h, hu]
    · exact hQ aw1 (M2.drop .here)
theorem formatInt_x {Q : ByteArray → AW → Prop} {i : Int} {t : TypeId} {e : Nat} {rw_ : Bool} {fz : Nat} (h1 : -4611686018427387904 ≤ i) (h2 : i < 4611686018427387904) (hP : At ro 3 ⟨powC, t, e, rw_, fz⟩)
    (M : Hp aw0 own ro aw l) (hQ : ∀ aw', Hp aw0 own ro aw' l → Q (mkB (numB i)) aw') : CallP prog 87 [.int .i64 i, .int .i64 10] aw sh87 Q E := by
  refine F87_ok _ _ aw ?_
  unfold S87_0
  refine F91_ok _ _ aw ?_
  unfold S91_0
  refine cnd_1x rfl ?_
  by_cases h0 : 0 ≤ i
  · obtain ⟨u, rfl⟩ : ∃ u : Nat, i = (u : Int) := ⟨i.toNat, by omega⟩
    refine cnd_1x (decide_eq_true h0) ?_
    by_cases h3 : u < 100
    · refine cnd_1x (decide_eq_true (by omega)) (small_x h3 ?_)
      have := hQ aw M
      unfold numB at this
      rwa [if_neg (by omega)] at this
    · refine cnd_0x (decide_eq_false (by omega)) (alc_x M fun b aw1 M1 => cnd_0x (decide_eq_false (by omega)) ?_)
      rw [show IntKind.u64.wrap (u : Int) = (u : Int) by rw [u64w]; omega]
      exact long_x (i := (u : Int)) rfl (by omega) (by omega) hP M1 hQ
  · refine cnd_0x (decide_eq_false h0) (alc_x M fun b aw1 M1 => cnd_1x (decide_eq_true (by omega)) ?_)
    rw [show IntKind.u64.wrap (-(IntKind.u64.wrap i)) = ((i.natAbs : Nat) : Int) by rw [u64w, u64w]; omega]
    exact long_x rfl (by omega) (by omega) hP M1 hQ
theorem digits_x {Q : ByteArray → AW → Prop} : ∀ (k u : Nat) (aw : AW) (l : List (Nat × Blk)) (Q : ByteArray → AW → Prop), u < 10 ^ (k + 1) → k < 20 → u < 2 ^ 64 → Hp aw0 own ro aw l → (∀ aw', Hp aw0 own ro aw' l → Q (mkB (dig u)) aw') → CallP prog 43 [.int .u64 (u : Int)] aw sh43 Q E := by
  have last : ∀ (u : Nat) (s : List UInt8) (aw : AW) (l : List (Nat × Blk)) (Q : ByteArray → AW → Prop), s.length < 100 → Hp aw0 own ro aw l → (∀ aw', Hp aw0 own ro aw' l → Q (mkB (s ++ [dc u])) aw') → S43_1 Q E (u : Int) (mkB s) aw := fun u s aw l Q hs M hQ => by
    unfold S43_1
    have e : IntKind.u8.wrap (IntKind.u64.wrap (48 + Int.tmod (u : Int) 10)) = ((dc u).toNat : Int) := by
      rw [dc_nat, u8w, u64w, Int.tmod_eq_emod_of_nonneg (by omega)]; omega
    rw [e]
    refine alcS_x M fun b aw1 M1 => ?_
    refine toS_x (ls := [dc u]) (M1.im .here) (Nat.le_refl _) rfl ⟨by simp; omega, ?_⟩
    rw [mkB_append]
    exact hQ aw1 (M1.drop .here)
  intro k
  induction k with
  | zero =>
    intro u aw l Q hu _ hu2 M hQ
    refine F43_ok _ aw ?_
    unfold S43_0
    refine cnd_0x (decide_eq_false (by omega)) ?_
    refine last u [] aw l Q (by decide) M fun aw' M' => ?_
    have := hQ aw' M'
    rw [dig, dif_neg (by omega)] at this
    exact this
  | succ k ih =>
    intro u aw l Q hu hk hu2 M hQ
    have hp : 10 ^ (k + 1 + 1) = 10 ^ (k + 1) * 10 := Nat.pow_succ ..
    refine F43_ok _ aw ?_
    unfold S43_0
    by_cases h : 9 < u
    · refine cnd_1x (decide_eq_true (by omega)) ?_
      rw [show IntKind.u64.wrap (Int.tdiv (u : Int) 10) = ((u / 10 : Nat) : Int) by rw [u64w, Int.tdiv_eq_ediv_of_nonneg (by omega)]; omega]
      refine ih (u / 10) aw l _ (by omega) (by omega) (by omega) M fun aw1 M1 => ?_
      refine last u (dig (u / 10)) aw1 l Q (by have := dig_len k (u / 10) (by omega); omega) M1 fun aw' M' => ?_
      have := hQ aw' M'
      rw [dig, dif_pos h] at this
      exact this
    · refine cnd_0x (decide_eq_false (by omega)) ?_
      refine last u [] aw l Q (by decide) M fun aw' M' => ?_
      have := hQ aw' M'
      rw [dig, dif_neg h] at this
      exact this
theorem num_ref {Q : ByteArray → AW → Prop} {i : Int} (h1 : -4611686018427387904 ≤ i) (h2 : i < 4611686018427387904) (M : Hp aw0 own ro aw l) (hQ : ∀ aw', Hp aw0 own ro aw' l → Q (mkB (numB i)) aw') : CallP prog 20 [.int .i64 i] aw sh20 Q E := by
  refine F20_ok _ aw ?_
  unfold S20_0
  by_cases h : i < 0
  · refine cnd_1x (decide_eq_true h) ?_
    have e : IntKind.u64.wrap ((IntKind.u64.wrap (IntKind.i64.wrap (-(IntKind.i64.wrap (i + 1))))) + 1) = ((i.natAbs : Nat) : Int) := by
      rw [i64_in (n := i + 1) (by omega) (by omega), i64_in (by omega) (by omega), u64w, u64w]; omega
    rw [e]
    have hb : i.natAbs < 10 ^ (18 + 1) := by omega
    refine digits_x (Q := Q) 18 _ aw l _ hb (by decide) (by omega) M fun aw1 M1 => ?_
    have hl := dig_len 18 i.natAbs hb
    have e45 : (⟨#[45]⟩ : ByteArray) = mkB [45] := rfl
    refine ⟨by rw [mkB_size]; show 1 + _ ≤ _; omega, ?_⟩
    have := hQ aw1 M1
    unfold numB at this
    rw [if_pos h] at this
    rw [e45, mkB_append]
    exact this
  · refine cnd_0x (decide_eq_false h) ?_
    rw [show IntKind.u64.wrap i = ((i.natAbs : Nat) : Int) by rw [u64w]; omega]
    refine digits_x (Q := Q) 18 _ aw l _ (by omega) (by decide) (by omega) M fun aw1 M1 => ?_
    have := hQ aw1 M1
    unfold numB at this
    rw [if_neg h] at this
    exact this
end
end Go.Proofs.Tryd
set_option linter.unusedVariables false
set_option linter.unusedSimpArgs false
set_option linter.unusedSectionVars false
set_option maxRecDepth 100000
namespace Go.Proofs.Tryd
open Go Go.Am Go.RowKit
variable [SymE]
theorem fd2 (x : Int) : Int.fdiv x (2 ^ (min (1 : Int).toNat IntKind.i64.bits)) = x / 2 := by
  show Int.fdiv x 2 = x / 2
  exact Int.fdiv_eq_ediv_of_nonneg _ (by decide)
theorem nw_eq (w : Int) : Nw w = IntKind.i64.wrap w / 2 := fd2 _
theorem nw_lo (w : Int) : -4611686018427387904 ≤ Nw w := by rw [nw_eq, wrap_i64]; omega
theorem nw_hi (w : Int) : Nw w < 4611686018427387904 := by rw [nw_eq, wrap_i64]; omega
theorem cut_eq (n : Int) : Int.fdiv (IntKind.i64.wrap (n * 2 ^ (min (1 : Int).toNat IntKind.i64.bits))) (2 ^ (min (1 : Int).toNat IntKind.i64.bits)) = Nw ((WN n : Nat) : Int) := by
  rw [← Wn_nat, nw_eq, fd2, show (n * 2 ^ (min (1 : Int).toNat IntKind.i64.bits)) = n * 2 from rfl, wrap_i64, wrap_i64]
  unfold Wn
  omega
set_option maxHeartbeats 1000000
section
variable {aw0 aw : AW} {own : List Nat} {ro l : List (Nat × Blk)} {X : MC} {f pc base j mb b1 b2 b3 k qu : Nat} {fuel N : Int} {st ws : List Nat} {fs : List Fr} {E : List PanicEntry → AW → Prop} {n a : Int} {t : ByteArray} {Q : (Bool × Int × Int × ByteArray × ByteArray × Value × Int) → AW → Prop} {ty : TypeId} {e : Nat} {rw_ : Bool} {fz : Nat}
theorem numB_len {i : Int} (h1 : -4611686018427387904 ≤ i) (h2 : i < 4611686018427387904) : (numB i).length ≤ 20 := by
  have := dig_len 18 i.natAbs (by omega)
  unfold numB
  split <;> simp <;> omega
theorem mm_digits (H : MM aw0 own ro X (st ++ [2 * j] ++ [WN N]) (fs ++ [(f, pc, base)]) fuel (HL X.hb mb ws qu l) aw) (hI : InsAt ro (HL X.hb mb ws qu l) X.fu f pc 7 n a t) (hS : At (HL X.hb mb ws qu l) b1 (SB X.m)) (hfl : fs.length < 2 ^ 39) (hst : st.length < 2 ^ 38)
    (h0 : 0 < fuel) (h1 : fuel < 2 ^ 60) (hj : ws[j]? = some (256 + 6)) (hy : ws[j + 1]? = some (WN 1)) (hws : ws.length < 2 ^ 50) (hq : qu < 2 ^ 30) (hroom : ws.length + 4 ≤ qu) (hP : At ro 3 ⟨powC, ty, e, rw_, fz⟩)
    (hK : ∀ mb' aw', MM aw0 own ro X (st ++ [2 * ws.length]) (fs ++ [(f, pc + 1, base)]) (fuel - 1) (HL X.hb mb' (ws ++ txt (mkB (numB (Nw ((WN N : Nat) : Int))))) qu l) aw' → S35_1 Q E k (Pt b1) (Pt b2) (Pt b3) aw') : S35_1 Q E (k + 1) (Pt b1) (Pt b2) (Pt b3) aw := by
  refine mm_fetch H hI hS (by omega) fun ib bs bf sj fj aw1 M => ?_
  have hl2 : (st ++ [2 * j] ++ [WN N]).length = st.length + 2 := by simp
  simp only [MCB] at M
  rw [hl2] at M
  have hnl := numB_len (nw_lo ((WN N : Nat) : Int)) (nw_hi _)
  refine ins_prim (i := 1) M hst h0 h1 .here (.there .here) hws hj hy (by decide) fun aw2 M2 => ?_
  refine F82_ok _ _ _ aw2 ?_
  unfold S82_0
  refine cnd_0x rfl (cnd_1x rfl (n_x _ ?_))
  refine formatInt_x (nw_lo _) (nw_hi _) hP M2 fun aw3 M3 => ?_
  rw [← hl2] at M3
  have M4 : Hp aw0 own ro aw3 ((X.m, MB (Pt X.hb) X.fu X.gl (Sl bs (st ++ [2 * j] ++ [WN N]).length) (Sl bf (fs.length + 1)) X.tr (fuel - 1) X.space X.most X.ad X.bu X.mo) :: (bs, WB (st ++ [2 * j] ++ [WN N]) sj) :: (X.hb, HB (Sl mb ws.length) (qu : Int) 0) :: ([(mb, WB ws [])] ++ ((bf, FB (frC fs) f (pc + 1) base fj) :: l))) := M3.perm (by
    classical exact List.perm_iff_count.2 fun a => by simp only [List.count_cons, List.count_append, List.count_nil, MCB, HL]; omega)
  refine text_x slP_W (by omega) (by rw [mkB_size]; omega) hq (by rw [mkB_size]; omega) M4 fun bs' mb' aw4 M5 => ?_
  have M6 : Hp aw0 own ro aw4 ((X.m, MB (Pt X.hb) X.fu X.gl (Sl bs' (st.length + 3)) (Sl bf (fs.length + 1)) X.tr (fuel - 1) X.space X.most X.ad X.bu X.mo) :: (bs', WB (st ++ [2 * j] ++ [WN N] ++ [2 * ws.length]) []) :: (bf, FB (frC fs) f (pc + 1) base fj) :: HL X.hb mb' (ws ++ txt (mkB (numB (Nw ((WN N : Nat) : Int))))) qu l) := by
    rw [show (st ++ [2 * j] ++ [WN N] ++ [2 * ws.length]).length = st.length + 3 by simp] at M5
    exact M5.perm (by
      classical exact List.perm_iff_count.2 fun a => by simp only [List.count_cons, List.count_append, List.count_nil, MCB, HL]; omega)
  refine ⟨bs', 2 * ws.length, HL X.hb mb' (ws ++ txt (mkB (numB (Nw ((WN N : Nat) : Int))))) qu l, _, _, _, _, _, _, _, _, _, _, M6, fun aw5 jj M7 => hK mb' aw5 ⟨bs', bf, jj, fj, ?_⟩⟩
  rw [FRB_snoc, show (fs ++ [(f, pc + 1, base)]).length = fs.length + 1 by simp]
  exact M7
end
end Go.Proofs.Tryd
