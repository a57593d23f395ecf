/- heap.Text. -/
import Derived.Test.YtfoceofohlpafaaDoorMt2
set_option linter.unusedVariables false
set_option linter.unusedSimpArgs false
set_option linter.unusedSectionVars false
namespace Go.Proofs.Tryd
open Go Go.Am Go.RowKit
variable [SymE]
set_option maxHeartbeats 1000000
theorem wAt_byte (s : ByteArray) (a : Nat) : ∀ (n k : Nat), k < n → wAt s a n / 2 ^ (8 * k) % 256 = byteAt s (a + k)
  | 0, k, h => by omega
  | n + 1, k, h => by
    show (wAt s a n + byteAt s (a + n) * 2 ^ (8 * n)) / 2 ^ (8 * k) % 256 = _
    by_cases hk : k = n
    · subst hk
      rw [Nat.add_mul_div_right _ _ (Nat.two_pow_pos _), Nat.div_eq_of_lt (wAt_lt s a k), Nat.zero_add, Nat.mod_eq_of_lt (byteAt_lt s _)]
    · have hlt : k < n := by omega
      have e : 2 ^ (8 * n) = 2 ^ (8 * (n - k)) * 2 ^ (8 * k) := by rw [← Nat.pow_add]; congr 1; omega
      rw [e, ← Nat.mul_assoc, Nat.add_mul_div_right _ _ (Nat.two_pow_pos _)]
      have e2 : 2 ^ (8 * (n - k)) = 2 ^ (8 * (n - k - 1)) * 256 := by
        rw [show (256 : Nat) = 2 ^ 8 from rfl, ← Nat.pow_add]; congr 1; omega
      rw [e2, ← Nat.mul_assoc, Nat.add_mul_mod_self_right]
      exact wAt_byte s a n k hlt
structure TxtAt (ws : List Nat) (j : Nat) (s : ByteArray) : Prop where
  hd : ws[j]? = some (s.size * 2 ^ 8 + 3)
  wd : ∀ i, i < (s.size + 7) / 8 → ws[j + 1 + i]? = some (wAt s (8 * i) 8)
  sz : s.size < 2 ^ 40
theorem tws_get (s : ByteArray) : ∀ (n i a : Nat), i < n → (tws s a n)[i]? = some (wAt s (a + 8 * i) 8)
  | 0, i, a, h => by omega
  | n + 1, 0, a, h => by simp [tws]
  | n + 1, i + 1, a, h => by
    simp only [tws, List.getElem?_cons_succ]
    rw [tws_get s n i (a + 8) (by omega)]
    congr 2; omega
theorem TxtAt.new {ws : List Nat} {s : ByteArray} {r : List Nat} (h : s.size < 2 ^ 40) : TxtAt (ws ++ txt s ++ r) ws.length s := by
  refine ⟨?_, fun i hi => ?_, h⟩
  · rw [List.append_assoc, List.getElem?_append_right (Nat.le_refl _), Nat.sub_self]; rfl
  · rw [List.append_assoc, List.getElem?_append_right (by omega), List.getElem?_append_left (by simp [txt, tws_len]; omega), show ws.length + 1 + i - ws.length = i + 1 by omega]
    simp only [txt, List.getElem?_cons_succ]
    rw [tws_get s _ i 0 hi, Nat.zero_add]
theorem TxtAt.more {ws r : List Nat} {j : Nat} {s : ByteArray} (h : TxtAt ws j s) : TxtAt (ws ++ r) j s :=
  ⟨by rw [List.getElem?_append_left (List.getElem?_eq_some_iff.1 h.hd).1]; exact h.hd, fun i hi => by rw [List.getElem?_append_left (List.getElem?_eq_some_iff.1 (h.wd i hi)).1]; exact h.wd i hi, h.sz⟩
theorem ba_list (s : ByteArray) : (⟨s.data.toList.toArray⟩ : ByteArray) = s := by cases s; simp
section
variable {aw0 : AW} {own : List Nat} {ro l : List (Nat × Blk)} {hb mb j : Nat} {E : List PanicEntry → AW → Prop} {ws : List Nat} {mj : List Value} {s : ByteArray} {qu ct : Int}
theorem text_loop {Q : ByteArray → AW → Prop} {bb : Nat} (hT : TxtAt ws j s) (hH : At l hb (HB (Sl mb ws.length) qu ct)) (hM : At l mb (WB ws mj)) (hn : ws.length < 2 ^ 50) (hQ : ∀ aw', Hp aw0 own ro aw' l → Q s aw') :
    ∀ (r i : Nat) (L : List (Nat × Blk)) (aw : AW), i + r = s.size → Buf bb (s.data.toList.take i) L → Hp aw0 own ro aw (L ++ l) → S19_1 Q E (r + 1) (Pt hb) ((2 * j : Nat) : Int) (Pt bb) (s.size : Int) (i : Int) aw
  | 0, i, L, aw, hi, hB, M => by
    show S19_1s Q E (S19_1 Q E 0) _ _ _ _ _ aw
    unfold S19_1s
    have hsz := hT.sz
    refine cnd_0x (decide_eq_false (by omega)) ?_
    have e : s.data.toList.take i = s.data.toList := List.take_of_length_le (by rw [Array.length_toList]; show s.size ≤ i; omega)
    rw [e] at hB
    refine bufString_x hB M ?_
    rw [ba_list]
    exact hQ aw M.dropL
  | r + 1, i, L, aw, hi, hB, M => by
    show S19_1s Q E (S19_1 Q E (r + 1)) _ _ _ _ _ aw
    unfold S19_1s
    have hsz := hT.sz
    have hlt : j < ws.length := (List.getElem?_eq_some_iff.1 hT.hd).1
    have hw := hT.wd (i / 8) (by omega)
    have hlt2 := (List.getElem?_eq_some_iff.1 hw).1
    have iH := M.im (At.app (L := L) hH)
    have iM := M.im (At.app (L := L) hM)
    refine cnd_1x (decide_eq_true (by omega)) (nck_x (fldA_x (ldV_x iH (by constructor) (at_x iH hlt (by omega) (again_x iH (by constructor) ?_)))))
    have e1 : IntKind.i64.wrap (Int.tdiv (i : Int) 8) = ((i / 8 : Nat) : Int) := by
      rw [Int.tdiv_eq_ediv_of_nonneg (by omega), show (i : Int) / 8 = ((i / 8 : Nat) : Int) by omega, i64_nat (by omega)]
    rw [e1, show (j : Int) + 1 = ((j + 1 : Nat) : Int) by omega, i64_nat (by omega), show ((j + 1 : Nat) : Int) + ((i / 8 : Nat) : Int) = ((j + 1 + i / 8 : Nat) : Int) by omega, i64_nat (by omega)]
    refine ixS_x (by omega) (by omega) (ldI_x iM (cellW hw) ?_)
    have e2 : IntKind.i64.wrap (8 * Int.tmod (i : Int) 8) = ((8 * (i % 8) : Nat) : Int) := by
      rw [Int.tmod_eq_emod_of_nonneg (by omega), show 8 * ((i : Int) % 8) = ((8 * (i % 8) : Nat) : Int) by omega, i64_nat (by omega)]
    have e3 : min ((8 * (i % 8) : Nat) : Int).toNat IntKind.u64.bits = 8 * (i % 8) := by
      show min ((8 * (i % 8) : Nat) : Int).toNat 64 = _; omega
    rw [e2, e3]
    have hil : i < s.data.toList.length := by rw [Array.length_toList]; show i < s.size; omega
    generalize hx : s.data.toList[i] = x
    have hxi : s.data.toList[i]? = some x := by rw [List.getElem?_eq_getElem hil, hx]
    have e4 : IntKind.u8.wrap (Int.fdiv ((wAt s (8 * (i / 8)) 8 : Nat) : Int) (2 ^ (8 * (i % 8)))) = (x.toNat : Int) := by
      rw [Int.fdiv_eq_ediv_of_nonneg _ (Int.le_of_lt (Int.pow_pos (by decide))), wrap_u8]
      have h1 := wAt_byte s (8 * (i / 8)) 8 (i % 8) (by omega)
      rw [show 8 * (i / 8) + i % 8 = i by omega] at h1
      have h2 : byteAt s i = x.toNat := by
        unfold byteAt
        rw [List.getD_eq_getElem?_getD, hxi]; rfl
      rw [← h2, ← h1]
      generalize wAt s (8 * (i / 8)) 8 = A
      generalize 8 * (i % 8) = k
      simp only [Int.natCast_emod, Int.natCast_ediv, Int.natCast_pow]
      rfl
    rw [e4]
    refine ⟨by omega, wbyte_x hB (by rw [List.length_take]; omega) M fun L' aw1 hB' M1 => ?_⟩
    rw [show (i : Int) + 1 = ((i + 1 : Nat) : Int) by omega, i64_nat (by omega)]
    refine text_loop hT hH hM hn hQ r (i + 1) L' aw1 (by omega) ?_ M1
    rw [List.take_add_one, hxi]
    exact hB'
theorem hText_x {Q : ByteArray → AW → Prop} {aw : AW} (hT : TxtAt ws j s) (hH : At l hb (HB (Sl mb ws.length) qu ct)) (hM : At l mb (WB ws mj)) (hn : ws.length < 2 ^ 50) (M : Hp aw0 own ro aw l) (hQ : ∀ aw', Hp aw0 own ro aw' l → Q s aw') :
    CallP prog 19 [Pt hb, .int .u64 ((2 * j : Nat) : Int)] aw sh19 Q E := by
  have hsz := hT.sz
  refine F19_ok _ _ aw ?_
  unfold S19_0
  refine kind_x (M.im hH) (M.im hM) (by omega) rfl hT.hd (cnd_0x ?_ (alc_x M fun bb aw1 M1 => ?_))
  · rw [show (s.size * 2 ^ 8 + 3) % 256 = 3 by omega]; rfl
  refine len_x (M1.im (.there hH)) (M1.im (.there hM)) (by omega) rfl hT.hd (by omega) ⟨s.size + 1, ?_⟩
  rw [show (s.size * 2 ^ 8 + 3) / 256 = s.size by omega]
  exact text_loop hT hH hM hn hQ s.size 0 [(bb, BB nil3)] aw1 (by omega) .nil M1
end
end Go.Proofs.Tryd
