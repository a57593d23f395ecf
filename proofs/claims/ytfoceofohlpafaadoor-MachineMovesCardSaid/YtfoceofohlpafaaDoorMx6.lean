/- machine: a text is laid in the heap. -/
import Derived.Test.YtfoceofohlpafaaDoorMx5
set_option linter.unusedSectionVars false
set_option linter.unusedSimpArgs false
set_option linter.unusedVariables false
namespace Go.Proofs.Tryd
open Go Go.Am Go.RowKit
variable [SymE]
set_option maxHeartbeats 1000000
def byteAt (s : ByteArray) (j : Nat) : Nat := (s.data.toList.getD j 0).toNat
def wAt (s : ByteArray) (i : Nat) : Nat → Nat
  | 0 => 0
  | k + 1 => wAt s i k + byteAt s (i + k) * 2 ^ (8 * k)
theorem byteAt_lt (s : ByteArray) (j : Nat) : byteAt s j < 256 := by
  unfold byteAt
  exact UInt8.toNat_lt _
theorem byteAt_end {s : ByteArray} {j : Nat} (h : s.size ≤ j) : byteAt s j = 0 := by
  unfold byteAt
  rw [List.getD_eq_getElem?_getD, List.getElem?_eq_none (by simpa using h)]
  rfl
theorem wAt_lt (s : ByteArray) (i k : Nat) : wAt s i k < 2 ^ (8 * k) := by
  induction k with
  | zero => simp [wAt]
  | succ k ih =>
    have h := byteAt_lt s (i + k)
    have e : 2 ^ (8 * (k + 1)) = 256 * 2 ^ (8 * k) := by rw [Nat.mul_add, Nat.pow_add]; omega
    have : byteAt s (i + k) * 2 ^ (8 * k) ≤ 255 * 2 ^ (8 * k) := Nat.mul_le_mul_right _ (by omega)
    simp only [wAt]
    omega
theorem wAt_end {s : ByteArray} {i : Nat} : ∀ {k d : Nat}, s.size ≤ i + k → wAt s i (k + d) = wAt s i k
  | k, 0, _ => rfl
  | k, d + 1, h => by
    show wAt s i (k + d) + byteAt s (i + (k + d)) * 2 ^ (8 * (k + d)) = _
    rw [byteAt_end (by omega), wAt_end h]; omega
theorem or_byte {w c k : Nat} (hw : w < 2 ^ (8 * k)) (hc : c < 256) (hk : k < 8) :
    bitsOf .or .u64 (w : Int) (IntKind.u64.wrap ((IntKind.u64.wrap (c : Int)) * 2 ^ (min (IntKind.i64.wrap (8 * (k : Int))).toNat IntKind.u64.bits))) = ((w + c * 2 ^ (8 * k) : Nat) : Int) := by
  have e8 : IntKind.i64.wrap (8 * (k : Int)) = ((8 * k : Nat) : Int) := by rw [show 8 * (k : Int) = ((8 * k : Nat) : Int) by omega, i64_nat (by omega)]
  have em : min ((8 * k : Nat) : Int).toNat IntKind.u64.bits = 8 * k := by
    show min ((8 * k : Nat) : Int).toNat 64 = 8 * k
    omega
  rw [e8, em, wrap_u64, wrap_u64]
  have hp : 2 ^ (8 * k) ≤ 2 ^ 56 := Nat.pow_le_pow_right (by decide) (by omega)
  have hcp : c * 2 ^ (8 * k) < 2 ^ 64 := by
    have : c * 2 ^ (8 * k) ≤ 255 * 2 ^ (8 * k) := Nat.mul_le_mul_right _ (by omega)
    omega
  have ep : (2 : Int) ^ (8 * k) = ((2 ^ (8 * k) : Nat) : Int) := by simp
  rw [ep, show (c : Int) % 18446744073709551616 = (c : Int) by omega, ← Int.natCast_mul, show (((c * 2 ^ (8 * k) : Nat) : Int)) % 18446744073709551616 = ((c * 2 ^ (8 * k) : Nat) : Int) by omega]
  rw [or_nat (by omega) (by omega), Nat.or_comm, or_shift hw]
  congr 1
  omega
section
variable {aw0 aw : AW} {own : List Nat} {ro l : List (Nat × Blk)} {hb : Nat} {E : List PanicEntry → AW → Prop}
theorem text_word {Q : (Int × Int) → AW → Prop} {nx1 : Value → ByteArray → Int → Int → AW → Prop} {h : Value} {s : ByteArray} {at_ : Int} {i : Nat} (hs : s.size < 2 ^ 40) (hi : i < 2 ^ 41)
    (K : nck h (fldA h 0 fun p8 => ldV aw p8 fun x16 => alcS aw [W (wAt s i 8)] 26 1 1 fun p18 aw19 => app aw19 26 1 8 x16 p18 fun v22 aw23 => nck h (fldA h 0 fun p26 => st aw23 p26 [v22] fun aw31 => nx1 h s at_ (IntKind.i64.wrap ((i : Int) + 8)) aw31))) :
    ∀ (r k : Nat), k + r = 8 → S68_2 Q E nx1 (r + 1) h s at_ (i : Int) ((wAt s i k : Nat) : Int) (k : Int) aw := by
  intro r
  induction r with
  | zero =>
    intro k hk
    have : k = 8 := by omega
    subst this
    show S68_2s Q E nx1 _ h s at_ _ _ _ aw
    unfold S68_2s
    refine cnd_0x (by decide) ?_
    unfold S68_3
    exact cnd_0x rfl K
  | succ r ih =>
    intro k hk
    show S68_2s Q E nx1 (S68_2 Q E nx1 (r + 1)) h s at_ _ _ _ aw
    unfold S68_2s
    refine cnd_1x (by simp; omega) ?_
    unfold S68_3
    have e1 : IntKind.i64.wrap ((i : Int) + (k : Int)) = ((i + k : Nat) : Int) := by rw [show (i : Int) + (k : Int) = ((i + k : Nat) : Int) by omega, i64_nat (by omega)]
    rw [e1]
    by_cases hlt : i + k < s.size
    · refine cnd_1x (by simp; omega) ⟨_, by omega, by omega, rfl, ?_, ?_⟩
      · rw [show 8 * (k : Int) = ((8 * k : Nat) : Int) by omega, i64_nat (by omega)]; omega
      · have eb : bt s ((i + k : Nat) : Int) = ((byteAt s (i + k) : Nat) : Int) := by
          show ((s.data.toList.getD (((i + k : Nat) : Int)).toNat 0).toNat : Int) = _
          rw [Int.toNat_natCast]; rfl
        rw [eb, or_byte (wAt_lt s i k) (byteAt_lt _ _) (by omega), show (k : Int) + 1 = ((k + 1 : Nat) : Int) by omega, i64_nat (by omega)]
        exact ih (k + 1) (by omega)
    · refine cnd_0x (by simp; omega) ?_
      have := wAt_end (s := s) (i := i) (k := k) (d := 8 - k) (by omega)
      rw [show k + (8 - k) = 8 by omega] at this
      rw [← this]
      exact K
def tws (s : ByteArray) : Nat → Nat → List Nat
  | _, 0 => []
  | i, n + 1 => wAt s i 8 :: tws s (i + 8) n
theorem put_words {Q : (Int × Int) → AW → Prop} {s : ByteArray} {at_ : Nat} {qu ct : Int} (hs : s.size < 2 ^ 40) :
    ∀ (r i : Nat) (mb : Nat) (ws : List Nat) (aw : AW), i = 8 * ((s.size + 7) / 8 - r) → r ≤ (s.size + 7) / 8 → ws.length + r < 2 ^ 40 → Hp aw0 own ro aw ((mb, WB ws []) :: (hb, HB (Sl mb ws.length) qu ct) :: l) →
      (∀ mb aw', Hp aw0 own ro aw' ((mb, WB (ws ++ tws s i r) []) :: (hb, HB (Sl mb (ws ++ tws s i r).length) qu ct) :: l) → Q (IntKind.u64.wrap (IntKind.u64.wrap (at_ : Int) * 2 ^ min (1 : Int).toNat IntKind.u64.bits), 0) aw') →
      S68_1 Q E (r + 1) (Pt hb) s (at_ : Int) (i : Int) aw := by
  intro r
  induction r with
  | zero =>
    intro i mb ws aw hi hr hw M hQ
    show S68_1s Q E _ (Pt hb) s _ _ aw
    unfold S68_1s
    refine cnd_0x (by simp; omega) (hQ mb aw ?_)
    simp only [tws, List.append_nil]
    exact M
  | succ r ih =>
    intro i mb ws aw hi hr hw M hQ
    show S68_1s Q E (S68_1 Q E (r + 1)) (Pt hb) s _ _ aw
    unfold S68_1s
    refine cnd_1x (by simp; omega) ⟨9, ?_⟩
    refine text_word hs (by omega) ?_ 8 0 rfl
    refine nck_x (fldA_x (ldV_x (M.im (.there .here)) (by constructor) ?_))
    refine alcS_x M fun b aw1 M1 => ?_
    refine app_mv M1 (by repeat constructor) (by simp) (src_s (M1.im .here) rfl (.take .nil)) rfl (by omega) fun mb2 aw2 M2 => ?_
    have M2 := M2.drop (.there .here)
    refine nck_x (fldA_x ?_)
    refine st_x M2 (by repeat constructor) (by repeat constructor) rfl rfl rfl fun aw3 M3 => ?_
    rw [show (i : Int) + 8 = ((i + 8 : Nat) : Int) by omega, i64_nat (by omega)]
    rw [Nat.mul_one, take_W] at M3
    have e1 : ws ++ tws s i (r + 1) = (ws ++ [wAt s i 8]) ++ tws s (i + 8) r := by simp [tws]
    refine ih (i + 8) mb2 (ws ++ [wAt s i 8]) aw3 (by omega) (by omega) (by simp; omega) ?_ (by rw [← e1]; exact hQ)
    rw [WB_snoc, List.length_append]
    exact M3
theorem puttext_x {Q : (Int × Int) → AW → Prop} {qu : Nat} {ct : Int} {v roots : Value} {ws : List Nat} {js : List Value} {Lm : List (Nat × Blk)} {s : ByteArray} (hv : SlP 26 1 v ws.length (ws.map W ++ js) Lm)
    (M : Hp aw0 own ro aw (Lm ++ (hb, HB v (qu : Int) ct) :: l)) (hs : s.size < 2 ^ 30) (hq : qu < 2 ^ 30) (hroom : ws.length + (1 + (s.size + 7) / 8) ≤ qu)
    (hQ : ∀ mb aw', Hp aw0 own ro aw' ((mb, WB (ws ++ [s.size * 2 ^ 8 + 3] ++ tws s 0 ((s.size + 7) / 8)) []) :: (hb, HB (Sl mb (ws ++ [s.size * 2 ^ 8 + 3] ++ tws s 0 ((s.size + 7) / 8)).length) (qu : Int) ct) :: l) → Q (((2 * ws.length : Nat) : Int), 0) aw') :
    CallP prog 68 [Pt hb, .string s, roots] aw sh68 Q E := by
  have hi : In aw hb (HB v (qu : Int) ct) := In.ofL M
  obtain ⟨q, cv, hvv⟩ := hv.val
  refine F68_ok _ _ _ aw ?_
  unfold S68_0
  refine nilB_x rfl rfl (cnd_0x rfl (need_x (kind := 3) (k := s.size) (by omega) (by omega) ?_))
  rw [if_pos rfl]
  refine hroom_x (q := q) (c := cv) (n := ws.length) (by rw [← hvv]; exact hi) (by omega) (by omega) (cnd_0x rfl (nck_x (fldA_x (ldV_x hi (by constructor) ?_))))
  rw [show slen v = slen (.slice q ws.length cv) from by rw [← hvv]]
  refine slen_x (nck_x (fldA_x (ldV_x hi (by constructor) (head_x (kind := 3) (by omega) (by omega) (again_x hi (by constructor) ?_)))))
  refine alcS_x M fun b aw1 M1 => ?_
  have hi1 : In aw1 hb (HB v (qu : Int) ct) := In.ofL (L := (b, _) :: Lm) M1
  refine again_x hi1 (by constructor) ?_
  have M2 := M1.perm List.perm_middle.symm
  refine app_p hv M2 (src_s (M1.im .here) rfl (.take .nil)) (by omega) rfl (by omega) fun mb aw2 M3 => ?_
  have M3 := M3.drop (.there .here)
  refine nck_x (fldA_x ?_)
  refine st_x M3 (by repeat constructor) (by repeat constructor) rfl rfl rfl fun aw4 M5 => ?_
  refine ⟨(s.size + 7) / 8 + 1, ?_⟩
  rw [Nat.mul_one, take_W] at M5
  refine put_words (aw0 := aw0) (own := own) (ro := ro) (l := l) (qu := (qu : Int)) (ct := ct) (by omega) ((s.size + 7) / 8) 0 mb (ws ++ [s.size * 2 ^ 8 + 3]) aw4 (by omega) (by omega) (by simp; omega) ?_ fun mb2 aw5 M6 => ?_
  · rw [WB_snoc, List.length_append]
    exact M5
  · rw [show min (1 : Int).toNat IntKind.u64.bits = 1 from rfl, wrap_u64, wrap_u64, show ((ws.length : Nat) : Int) % 18446744073709551616 * 2 ^ 1 % 18446744073709551616 = ((2 * ws.length : Nat) : Int) by omega]
    exact hQ mb2 aw5 M6
end
end Go.Proofs.Tryd
