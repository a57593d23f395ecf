/- What a run of Cell gives, in any memory where the variables stand. -/
import Derived.Test.YthfjjcfceilahaaGreatDoorPn2
set_option linter.unusedSimpArgs false
set_option linter.unusedVariables false
set_option linter.unusedSectionVars false
set_option maxRecDepth 100000
namespace Go.Proofs.YthfjjcfceilahaaGreatDoor
open Go Go.Am Go.Ri
section
variable [SymE]
theorem wholeK_spec {M : Mem} {b : Nat} {l : List Value} (h : wholeK M b = some l) : ∃ B, M.abs.m b = some B ∧ B.rw = true ∧ (16 ≤ b ∧ b < M.abs.next) ∧ B.cells = l ∧ l.all (okK 16) = true := by
  unfold wholeK at h
  split at h; rotate_left; · cases h
  rename_i B hB
  split at h; rotate_left; · cases h
  rename_i l' hl
  rw [cond_some] at h
  obtain ⟨h1, h⟩ := h
  obtain rfl := Option.some.inj h
  simp only [Bool.and_eq_true, Nat.ble_eq, Nat.blt_eq] at h1
  obtain ⟨⟨h1, h2⟩, h3⟩ := h1
  have hw := getN_whole (M.abs_m hB)
  rw [B.abs_len, Mem.getN_spec hl] at hw
  exact ⟨B.abs, M.abs_m hB, h1, h2, (Option.some.inj hw).symm, h3⟩
structure Tree (n : Nat) (aw : AW) (b1 b2 b3 : Nat) (L1 L2 L3 : List Value) : Prop where
  m1 : ∃ B, aw.m b1 = some B ∧ B.rw = true ∧ B.cells = L1
  m2 : ∃ B, aw.m b2 = some B ∧ B.rw = true ∧ B.cells = L2
  m3 : ∃ B, aw.m b3 = some B ∧ B.rw = true ∧ B.cells = L3
  l1 : (16 ≤ b1 ∧ b1 < aw.next) ∧ L1.all (okK 16) = true
  l2 : (16 ≤ b2 ∧ b2 < aw.next) ∧ L2.all (okK 16) = true
  l3 : (16 ≤ b3 ∧ b3 < aw.next) ∧ L3.all (okK 16) = true
  c1 : L1.length = 11 ∧ ∃ k2 c2, 0 < k2 ∧ L1[7]? = some (.slice (some ⟨b2, 0, none⟩) k2 c2)
  c2 : ∃ k s j c3, (k : Nat) ≠ 2 ∧ L2[0]? = some (.int .u8 (.ofNat k)) ∧ L2[1]? = some (.string s) ∧ L2[2]? = some (.int .i64 j) ∧ L2[3]? = some (.slice (some ⟨b3, 0, none⟩) n c3)
  c3 : L3 = kidsL (List.range n)
theorem chkK_spec {n : Nat} {x : Option (AEnd × Mem)} (h : chkK n x = true) : ∃ M b1 c1 b2 b3 L1 L2 L3, x = some (.returned (.tuple ⟨[.slice (some ⟨b1, 0, none⟩) 1 c1, .int .i64 0, .int .i64 0]⟩), M) ∧ Tree n M.abs b1 b2 b3 L1 L2 L3 := by
  unfold chkK at h
  split at h; rotate_left; · cases h
  rename_i b1 k1 c1 a e M
  simp only [Bool.and_eq_true, Nat.beq_eq] at h
  obtain ⟨⟨rfl, rfl, rfl⟩, h⟩ := h
  split at h; rotate_left; · cases h
  rename_i L1 w1
  unfold chkK2 at h
  split at h; rotate_left; · cases h
  rename_i b2 k2 c2 _ _ _
  simp only [Bool.and_eq_true, Nat.blt_eq] at h
  obtain ⟨hk2, h⟩ := h
  split at h; rotate_left; · cases h
  rename_i L2 w2
  unfold chkK3 at h
  split at h; rotate_left; · cases h
  rename_i k s j b3 n3 c3 r
  simp only [Bool.and_eq_true, Bool.not_eq_true', Nat.beq_eq] at h
  obtain ⟨⟨rfl, hk⟩, h⟩ := h
  split at h; rotate_left; · cases h
  rename_i L3 w3
  have e3 := lEq_spec (vEq_spec 2) h
  obtain ⟨B1, p1, p2, p3, p4, p5⟩ := wholeK_spec w1
  obtain ⟨B2, q1, q2, q3, q4, q5⟩ := wholeK_spec w2
  obtain ⟨B3, r1, r2, r3, r4, r5⟩ := wholeK_spec w3
  exact ⟨M, b1, c1, b2, b3, _, _, _, rfl, ⟨B1, p1, p2, p4⟩, ⟨B2, q1, q2, q4⟩, ⟨B3, r1, r2, r4⟩, ⟨p3, p5⟩, ⟨q3, q5⟩, ⟨r3, r5⟩, ⟨rfl, _, _, hk2, rfl⟩, ⟨k, s, j, c3, fun e => by subst e; simp at hk, rfl, rfl, rfl, rfl⟩, e3⟩
theorem chkTw_spec {x : Option (AEnd × Mem)} (h : chkTw x = true) : ∃ M, x = some (.returned (.tuple ⟨[.slice none 0 0, .int .i64 13, .int .i64 7]⟩), M) := by
  unfold chkTw at h
  split at h; rotate_left; · cases h
  rename_i a e M
  simp only [Bool.and_eq_true, Nat.beq_eq] at h
  obtain ⟨rfl, rfl⟩ := h
  exact ⟨M, rfl⟩
end
end Go.Proofs.YthfjjcfceilahaaGreatDoor
