/- octet: the writer; sums. -/
import Derived.Test.YtfdfakapkhflcaaBaS1
set_option linter.unusedSimpArgs false
set_option linter.unusedVariables false
set_option linter.unusedSectionVars false
namespace Go.Proofs.Try
open Go Go.Am Go.RowKit Go.Oc
variable [SymE]
theorem ob_one {el : Nat} {v : Value} {bs : List UInt8} {L : List (Nat × Blk)} (h : Ob el v bs L) : one v = true := by
  cases h <;> rfl
section
variable {aw0 aw : AW} {own : List Nat} {ro l L S : List (Nat × Blk)} {E : List PanicEntry → AW → Prop} {v pv : Value} {bs cs : List UInt8}
theorem push_b {X : Value → AW → Prop} {c : UInt8} {x : Int} {A : List (Nat × Blk)} (hx : x = (c.toNat : Int)) (ho : Ob 5 pv bs L) (hl : bs.length < 2 ^ 43) (M : Hp aw0 own ro aw (A ++ (L ++ l))) {R : Value → AW → Prop}
    (hR : ∀ b aw1, Hp aw0 own ro aw1 (A ++ ((b, ⟨[.int .u8 x], 5, 1, true, 0⟩) :: (L ++ l))) → ∀ {Y : Prop}, Y → (R (.slice (some ⟨b, 0, none⟩) 1 1) aw1) ∧ Y)
    (h : ∀ v' L' aw', Ob 5 v' (bs ++ [c]) L' → Hp aw0 own ro aw' (A ++ (L' ++ l)) → X v' aw') : alcS aw [.int .u8 x] 5 1 1 fun p aw1 => R p aw1 ∧ app aw1 5 1 1 pv p X := by
  subst hx
  refine alcS_x M fun b aw1 M1 => ?_
  have M2 : Hp aw0 own ro aw1 (A ++ ((b, ⟨[.int .u8 (c.toNat : Int)], 5, 1, true, 0⟩) :: (L ++ l))) := M1.perm List.perm_middle.symm
  refine hR b aw1 M2 ?_
  have M3 : Hp aw0 own ro aw1 (L ++ ((b, ⟨[.int .u8 (c.toNat : Int)], 5, 1, true, 0⟩) :: (A ++ l))) := M1.perm (by
    classical exact List.perm_iff_count.2 fun a => by simp only [List.count_append, List.count_cons]; ac_rfl)
  have hsrc : Src aw1 1 (.slice (some ⟨b, 0, none⟩) 1 1) [c].length (bytesV [c]) := src_x (M1.im .here) (by simp) (by simp [bytesV])
  refine app_ob (cs := [c]) ho M3 hsrc (by simp; omega) fun v' L' aw' h1 _ M4 => ?_
  refine h v' L' aw' h1 ?_
  have M5 : Hp aw0 own ro aw' ((b, ⟨[.int .u8 (c.toNat : Int)], 5, 1, true, 0⟩) :: (L' ++ (A ++ l))) := M4.perm List.perm_middle
  exact (M5.drop .here).perm (by
    classical exact List.perm_iff_count.2 fun a => by simp only [List.count_append, List.count_cons]; ac_rfl)
theorem push_b0 {X : Value → AW → Prop} {c : UInt8} {x : Int} {A : List (Nat × Blk)} (hx : x = (c.toNat : Int)) (ho : Ob 5 pv bs L) (hl : bs.length < 2 ^ 43) (M : Hp aw0 own ro aw (A ++ (L ++ l)))
    (h : ∀ v' L' aw', Ob 5 v' (bs ++ [c]) L' → Hp aw0 own ro aw' (A ++ (L' ++ l)) → X v' aw') : alcS aw [.int .u8 x] 5 1 1 fun p aw1 => app aw1 5 1 1 pv p X := by
  have := push_b (R := fun _ _ => True) hx ho hl M (fun b aw1 M1 Y hY => ⟨trivial, hY⟩) h
  obtain ⟨p, aw1, h1, h2, h3⟩ := this
  exact ⟨p, aw1, h1, h2, h3.2⟩
theorem w8 {k : Nat} (h : k ≤ 8) : IntKind.i64.wrap (8 * (k : Int)) = ((8 * k : Nat) : Int) := by
  rw [show 8 * (k : Int) = ((8 * k : Nat) : Int) by omega, i64_nat (by omega)]
theorem shr_n {n k : Nat} (hk : k ≤ 8) : Int.fdiv (n : Int) (2 ^ (min (IntKind.i64.wrap (8 * (k : Int))).toNat IntKind.u64.bits)) = ((n / 256 ^ k : Nat) : Int) := by
  rw [w8 hk]
  have : min ((8 * k : Nat) : Int).toNat IntKind.u64.bits = 8 * k := by
    show min ((8 * k : Nat) : Int).toNat 64 = 8 * k
    omega
  rw [this, fdiv_nat, pow8]
theorem sum_bits {Q : Int → AW → Prop} {nx1 : Int → Value → Int → Int → AW → Prop} {v : Value} {n i : Int} : ∀ (k c : Nat), k ≤ 8 → c < 2 ^ 32 → nx1 ((crcN k c : Nat) : Int) v n (IntKind.i64.wrap (i + 1)) aw → S65_2 Q E nx1 (k + 1) (c : Int) v n i ((8 - k : Nat) : Int) aw
  | 0, c, _, hc, h => by
    show S65_2s Q E nx1 (S65_2 Q E nx1 0) _ _ _ _ _ aw
    unfold S65_2s
    exact cnd_0x (by decide) h
  | k + 1, c, hk, hc, h => by
    show S65_2s Q E nx1 (S65_2 Q E nx1 (k + 1)) _ _ _ _ _ aw
    unfold S65_2s
    refine cnd_1x (decide_eq_true (by omega)) ?_
    rw [crc_step hc, show ((8 - (k + 1) : Nat) : Int) + 1 = ((8 - k : Nat) : Int) by omega, i64_nat (by omega)]
    exact sum_bits k (crcS c) (by omega) (crcS_lt hc) h
theorem sum_loop {Q : Int → AW → Prop} (hb : Rb aw v bs) (hl : bs.length < 2 ^ 44) (hQ : Q ((Oc.sum bs : Nat) : Int) aw) :
    ∀ (n i c : Nat), i + n = bs.length → c < 2 ^ 32 → crcL c (bs.drop i) = crcL 4294967295 bs → S65_1 Q E (n + 1) (c : Int) v (bs.length : Int) (i : Int) aw
  | 0, i, c, hi, hc, h => by
    show S65_1s Q E (S65_1 Q E 0) _ _ _ _ aw
    unfold S65_1s
    refine cnd_0x (decide_eq_false (by omega)) ?_
    rw [not32 hc]
    rw [List.drop_of_length_le (by omega)] at h
    have h : c = crcL 4294967295 bs := h
    unfold Oc.sum at hQ
    rw [← h] at hQ
    exact hQ
  | n + 1, i, c, hi, hc, h => by
    show S65_1s Q E (S65_1 Q E (n + 1)) _ _ _ _ aw
    unfold S65_1s
    have hlt : i < bs.length := by omega
    refine cnd_1x (decide_eq_true (by omega)) (ix_b hb rfl (List.getElem?_eq_getElem hlt) (fun p h => h) ⟨9, ?_⟩)
    have hx : bs[i].toNat < 256 := bs[i].toNat_lt
    rw [u32_nat (by omega), xor_n32 (by omega) (by omega)]
    refine sum_bits 8 _ (Nat.le_refl _) (Nat.xor_lt_two_pow hc (by omega)) ?_
    rw [show (i : Int) + 1 = ((i + 1 : Nat) : Int) by omega, i64_nat (by omega)]
    refine sum_loop hb hl hQ n (i + 1) (crcB c bs[i]) (by omega) (crcB_lt hc) ?_
    rw [← h, List.drop_eq_getElem_cons hlt]
    rfl
theorem sum_x {Q : Int → AW → Prop} (hb : Rb aw v bs) (hl : bs.length < 2 ^ 44) (hQ : Q ((Oc.sum bs : Nat) : Int) aw) : CallP prog 65 [v] aw sh65 Q E := by
  refine F65_ok _ aw ?_
  unfold S65_0
  refine slen_b hb ⟨bs.length + 1, ?_⟩
  exact sum_loop hb hl hQ bs.length 0 4294967295 (by omega) (by decide) (by simp)
theorem sum_byte (n k : Nat) : IntKind.u8.wrap (Int.fdiv (n : Int) (2 ^ k)) = ((UInt8.ofNat (n / 2 ^ k)).toNat : Int) := by
  rw [fdiv_nat, u8_nat]; simp
theorem seal_x {Q : Value → AW → Prop} (M : Hp aw0 own ro aw l) (hR : Rs aw0 own ro S v bs) (hS : ∀ p ∈ S, p ∈ l) (hl : bs.length < 2 ^ 43)
    (hQ : ∀ v' L aw', Ob 5 v' (sealB bs) L → Hp aw0 own ro aw' (L ++ l) → Q v' aw') : CallP prog 49 [v] aw sh49 Q E := by
  refine F49_ok _ aw ?_
  unfold S49_0
  refine sum_x (hR aw l M hS) (by omega) ?_
  refine clone_x M hR hS (by omega) fun v1 L1 aw1 h1 _ M1 => ?_
  have e0 : IntKind.u8.wrap ((Oc.sum bs : Nat) : Int) = ((UInt8.ofNat (Oc.sum bs)).toNat : Int) := by rw [u8_nat]; simp
  have m8 : min (8 : Int).toNat IntKind.u32.bits = 8 := rfl
  have m16 : min (16 : Int).toNat IntKind.u32.bits = 16 := rfl
  have m24 : min (24 : Int).toNat IntKind.u32.bits = 24 := rfl
  rw [m8, m16, m24, sum_byte, sum_byte, sum_byte, e0]
  refine alcS_x M1 fun b aw2 M2 => ?_
  let cs : List UInt8 := [UInt8.ofNat (Oc.sum bs), UInt8.ofNat (Oc.sum bs / 256), UInt8.ofNat (Oc.sum bs / 65536), UInt8.ofNat (Oc.sum bs / 16777216)]
  have hsrc : Src aw2 1 (.slice (some ⟨b, 0, none⟩) 4 4) cs.length (bytesV cs) := src_x (M2.im .here) (by simp) (by simp [cs, bytesV])
  have M3 : Hp aw0 own ro aw2 (L1 ++ ((b, _) :: l)) := M2.perm List.perm_middle.symm
  refine app_ob (cs := cs) h1 M3 hsrc (by simp [cs]; omega) fun v' L' aw3 h2 _ M4 => ?_
  exact hQ v' L' aw3 h2 ((M4.perm List.perm_middle).drop .here)
theorem open_x {Q : (Value × Int) → AW → Prop} (M : Hp aw0 own ro aw l) (hv : ∃ q c, v = .slice q bs.length c) (hR : 4 ≤ bs.length → Rs aw0 own ro S v bs) (hS : ∀ p ∈ S, p ∈ l) (hl : bs.length < 2 ^ 43)
    (hbad : openN bs ≠ 0 → ∀ aw' L, Hp aw0 own ro aw' (L ++ l) → Q ((.slice none 0 0), (openN bs : Nat)) aw')
    (hok : openN bs = 0 → ∀ v' L L2 aw', Ob 5 v' (bs.take (bs.length - 4)) L → Hp aw0 own ro aw' (L ++ (L2 ++ l)) → Q (v', 0) aw') : CallP prog 32 [v] aw sh32 Q E := by
  refine F32_ok _ aw ?_
  unfold S32_0
  refine (by obtain ⟨q, c, rfl⟩ := hv; exact fun h => slen_x h : ∀ {X : Int → Prop}, X (bs.length : Int) → slen v X) ?_
  rw [i64_in (n := (bs.length : Int) - 4) (by omega) (by omega)]
  by_cases h4 : bs.length < 4
  · refine cnd_1x (decide_eq_true (by omega)) ?_
    have e : openN bs = 3 := by unfold openN; rw [if_pos h4]
    have := hbad (by rw [e]; decide) aw [] M
    rw [e] at this
    exact this
  · have hR := hR (by omega)
    refine cnd_0x (decide_eq_false (by omega)) ?_
    refine cut_rs hR M hS (lo := 0) (hi := bs.length - 4) rfl (by omega) (Nat.zero_le _) (by omega) fun v1 hR1 => ?_
    simp only [List.drop_zero, Nat.sub_zero] at hR1
    refine seal_x M hR1 hS (by rw [List.length_take]; omega) fun v2 L2 aw2 h2 M2 => ?_
    have hS2 : ∀ p ∈ S, p ∈ L2 ++ l := fun p hp => List.mem_append.2 (.inr (hS p hp))
    refine equal_x (h2.rs aw2 _ M2 fun p hp => List.mem_append.2 (.inl hp)) (hR aw2 _ M2 hS2) (by rw [seal_len, List.length_take]; omega) ?_
    by_cases he : sealB (bs.take (bs.length - 4)) = bs
    · refine cnd_0x (by rw [decide_eq_true he]; rfl) ?_
      refine cut_rs hR M2 hS2 (lo := 0) (hi := bs.length - 4) rfl (by omega) (Nat.zero_le _) (by omega) fun v3 hR3 => ?_
      simp only [List.drop_zero, Nat.sub_zero] at hR3
      refine clone_x M2 hR3 hS2 (by rw [List.length_take]; omega) fun v4 L4 aw4 h4' _ M4 => ?_
      exact hok (by unfold openN; rw [if_neg h4, if_pos he]) v4 L4 L2 aw4 h4' M4
    · refine cnd_1x (by rw [decide_eq_false he]; rfl) ?_
      have e : openN bs = 14 := by unfold openN; rw [if_neg h4, if_neg he]
      have := hbad (by rw [e]; decide) aw2 L2 M2
      rw [e] at this
      exact this
end
end Go.Proofs.Try
