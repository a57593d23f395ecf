/- The document's octet: what its functions do. -/
import Derived.Test.YtfdfakapkhflcaaBaS2
import Derived.Test.YtfdfakapkhflcaaL3
import Derived.Test.YtfdfakapkhflcaaBaB
set_option linter.unusedSimpArgs false
set_option linter.unusedVariables false
set_option linter.unusedSectionVars false
namespace Go.Proofs.Try
open Go Go.Am Go.RowKit Go.Oc
variable [SymE]
theorem tmod_n (n k : Nat) : Int.tmod (n : Int) (k : Int) = ((n % k : Nat) : Int) := rfl
theorem tdiv_n (n k : Nat) : Int.tdiv (n : Int) (k : Int) = ((n / k : Nat) : Int) := rfl
section
variable {aw0 aw : AW} {own : List Nat} {ro l L S : List (Nat × Blk)} {E : List PanicEntry → AW → Prop} {v pv : Value} {bs cs : List UInt8} {rb : Nat}
theorem toS_b {X : ByteArray → Prop} (h : Rb aw v bs) (hX : X ⟨bs.toArray⟩) : toS aw v X := by
  obtain ⟨q, c, e⟩ := h.len
  exact ⟨bs, bs.length, _, h.src, ⟨q, _, c, e⟩, rfl, hX⟩
theorem againS_b {K : Prop} (h : Rb aw v bs) (hK : K) : againS aw v ⟨bs.toArray⟩ ∧ K := by
  refine ⟨fun l n hl _ hs => ?_, hK⟩
  have e : bs = l := by
    injection hs with hs
    exact congrArg Array.toList hs
  subst e
  rw [← hl]
  exact h.src
theorem arr_eq {a b : List UInt8} : decide ((⟨a.toArray⟩ : ByteArray) = ⟨b.toArray⟩) = decide (a = b) := by
  rw [decide_eq_decide]
  constructor
  · intro h; injection h with h; exact congrArg Array.toList h
  · intro h; rw [h]
theorem cut_uniq {aw aw' : AW} {s : Nat} {v v1 v2 : Value} {a b : Int} (h1 : Cut aw s v a b v1) (h2 : Cut aw' s v a b v2) : v1 = v2 := by
  cases h1 with
  | nil => cases h2; rfl
  | some k1 k2 k3 =>
    rename_i b i l c lo hi
    generalize hlo : ((lo : Nat) : Int) = lo' at h2
    generalize hhi : ((hi : Nat) : Int) = hi' at h2
    cases h2
    simp only [Int.ofNat_inj, Int.natCast_inj] at hlo hhi
    subst hlo; subst hhi
    rfl
theorem cut_rs2 {X : Value → Prop} {a b : Int} {lo hi : Nat} (hR : Rs aw0 own ro S v bs) (M : Hp aw0 own ro aw L) (hS : ∀ p ∈ S, p ∈ L) (ha : a = (lo : Int)) (hb : b = (hi : Int)) (h1 : lo ≤ hi) (h2 : hi ≤ bs.length)
    (hX : ∀ v', Rs aw0 own ro S v' ((bs.drop lo).take (hi - lo)) → (∀ aw2 L2, Hp aw0 own ro aw2 L2 → (∀ p ∈ S, p ∈ L2) → Cut aw2 1 v a b v') → X v') : cutV aw 1 v a b X := by
  subst ha; subst hb
  obtain ⟨v', k1, k2⟩ := (hR aw L M hS).cut h1 h2
  refine ⟨v', k1, hX v' (fun aw2 L2 M2 hs2 => ?_) (fun aw2 L2 M2 hs2 => ?_)⟩
  · obtain ⟨v2, j1, j2⟩ := (hR aw2 L2 M2 hs2).cut h1 h2
    rw [cut_uniq k1 j1]; exact j2
  · obtain ⟨v2, j1, j2⟩ := (hR aw2 L2 M2 hs2).cut h1 h2
    rw [cut_uniq k1 j1]; exact j1
theorem r_low {Q : Value → AW → Prop} {n0 : Nat} (hn0 : n0 < 2 ^ 64)
    (hQ : ∀ v' L' aw', Ob 5 v' (encU n0) L' → Hp aw0 own ro aw' (L' ++ l) → Q v' aw') : ∀ (low : Value) (L : List (Nat × Blk)) (aw : AW), Ob 5 low (lowB n0) L → Hp aw0 own ro aw (L ++ l) →
      ∀ (k : Nat) (p : Value) (L2 : List (Nat × Blk)) (aw : AW), k ≤ (lowB n0).length → Ob 5 p (UInt8.ofNat (lowB n0).length :: ((lowB n0).drop k).reverse) L2 → Hp aw0 own ro aw (L ++ (L2 ++ l)) → S51_2 Q E (k + 1) low p ((k : Int) - 1) aw
  | low, L, _, ho, _, 0, p, L2, aw, hk, h2, M => by
    show S51_2s Q E (S51_2 Q E 0) _ _ _ aw
    unfold S51_2s
    refine cnd_0x (by decide) (hQ p L2 aw (by simpa [encU] using h2) (M.dropL))
  | low, L, aw00, ho, M00, k + 1, p, L2, aw, hk, h2, M => by
    show S51_2s Q E (S51_2 Q E (k + 1)) _ _ _ aw
    unfold S51_2s
    have h8 := low8 hn0
    rw [show ((k + 1 : Nat) : Int) - 1 = (k : Int) by omega]
    have hlt : k < (lowB n0).length := by omega
    refine cnd_1x (decide_eq_true (by omega)) (ix_b (ho.rs aw _ M fun p hp => List.mem_append.2 (.inl hp)) rfl (List.getElem?_eq_getElem hlt) (fun p h => h) ?_)
    refine push_b0 (A := L) rfl h2 (by simp; omega) M fun v' L' aw' h1 M' => ?_
    rw [i64_in (n := (k : Int) - 1) (by omega) (by omega)]
    refine r_low hn0 hQ low L aw00 ho M00 k v' L' aw' (by omega) ?_ M'
    have e : (lowB n0).drop k = (lowB n0)[k] :: (lowB n0).drop (k + 1) := List.drop_eq_getElem_cons hlt
    rw [e, List.reverse_cons]
    simpa using h1
theorem r_uint {Q : Value → AW → Prop} {n0 : Nat} (hn0 : n0 < 2 ^ 64) (M : Hp aw0 own ro aw l) (hQ : ∀ v' L' aw', Ob 5 v' (encU n0) L' → Hp aw0 own ro aw' (L' ++ l) → Q v' aw') : CallP prog 51 [.int .u64 (n0 : Int)] aw sh51 Q E := by
  refine F51_ok _ aw ?_
  unfold S51_0
  have h8 := low8 hn0
  refine ⟨(lowB n0).length + 1, ?_⟩
  have key : ∀ (m n : Nat) (low : Value) (pre : List UInt8) (L : List (Nat × Blk)) (aw : AW), (lowB n).length = m → pre ++ lowB n = lowB n0 → n < 2 ^ 64 → Ob 5 low pre L → Hp aw0 own ro aw (L ++ l) → S51_1 Q E (m + 1) (n : Int) low aw := by
    intro m
    induction m with
    | zero =>
      intro n low pre L aw hm hp hn ho M
      have hn0' : n = 0 := by
        cases n with
        | zero => rfl
        | succ n => rw [lowB_pos (by omega)] at hm; simp at hm
      subst hn0'
      rw [lowB_zero, List.append_nil] at hp
      subst hp
      show S51_1s Q E (S51_1 Q E 0) _ _ aw
      unfold S51_1s
      refine cnd_0x (by decide) (slen_b (ho.rs aw _ M fun p hp => List.mem_append.2 (.inl hp)) ?_)
      rw [u8_nat]
      refine alcS_x M fun b aw2 M2 => ?_
      refine slen_b (ho.rs aw2 _ M2 fun p hp => List.mem_cons_of_mem _ (List.mem_append.2 (.inl hp))) ?_
      rw [i64_in (n := ((lowB n0).length : Int) - 1) (by omega) (by omega)]
      refine ⟨(lowB n0).length + 1, ?_⟩
      have hc : (((lowB n0).length % 256 : Nat) : Int) = ((UInt8.ofNat (lowB n0).length).toNat : Int) := by simp
      rw [hc] at M2
      have ho2 : Ob 5 (.slice (some ⟨b, 0, none⟩) 1 1) (UInt8.ofNat (lowB n0).length :: ((lowB n0).drop (lowB n0).length).reverse) [(b, ⟨[.int .u8 ((UInt8.ofNat (lowB n0).length).toNat : Int)], 5, 1, true, 0⟩)] := by
        rw [List.drop_length]
        exact .blk rfl (.inl rfl)
      exact r_low hn0 hQ low L aw ho M (lowB n0).length _ _ aw2 (Nat.le_refl _) ho2 (M2.perm List.perm_middle.symm)
    | succ m ih =>
      intro n low pre L aw hm hp hn ho M
      have hpos : 0 < n := by
        cases n with
        | zero => rw [lowB_zero] at hm; cases hm
        | succ n => omega
      show S51_1s Q E (S51_1 Q E (m + 1)) _ _ aw
      unfold S51_1s
      have e1 : IntKind.u8.wrap (Int.tmod (n : Int) 256) = ((UInt8.ofNat (n % 256)).toNat : Int) := by
        have := tmod_n n 256
        rw [show ((256 : Nat) : Int) = 256 from rfl] at this
        rw [this, u8_nat]; simp
      have e2 : IntKind.u64.wrap (Int.tdiv (n : Int) 256) = ((n / 256 : Nat) : Int) := by
        have := tdiv_n n 256
        rw [show ((256 : Nat) : Int) = 256 from rfl] at this
        rw [this, u64_nat (by omega)]
      rw [e1, e2]
      have hl := lowB_pos hpos
      have hpl : pre.length < 2 ^ 43 := by
        have := congrArg List.length hp
        simp at this
        omega
      refine cnd_1x (decide_eq_true (by omega)) (push_b0 (A := []) rfl ho hpl M fun v' L' aw' h1 M' => ?_)
      refine ih (n / 256) v' (pre ++ [UInt8.ofNat (n % 256)]) L' aw' (by rw [hl] at hm; simpa using hm) (by rw [← hp, hl]; simp) (by omega) h1 M'
  exact key (lowB n0).length n0 _ [] [] aw rfl rfl hn0 .nil M
theorem r_bit {c b k : Nat} (hc : c < 2 ^ 32) (hb : b < 256) (hk : k < 8) :
    decide (bitsOf .xor .u32 (bitsOf .and .u32 (c : Int) 1) (bitsOf .and .u32 (IntKind.u32.wrap (Int.fdiv (b : Int) (2 ^ (min ((k : Nat) : Int).toNat IntKind.u8.bits)))) 1) = 1) = decide ((c + b / 2 ^ k) % 2 = 1) := by
  have e : min ((k : Nat) : Int).toNat IntKind.u8.bits = k := by
    show min ((k : Nat) : Int).toNat 8 = k
    omega
  have hd : b / 2 ^ k < 256 := Nat.lt_of_le_of_lt (Nat.div_le_self _ _) hb
  rw [e, fdiv_nat, u32_nat (by omega), and1_32 hc, and1_32 (by omega), xor_n32 (by omega) (by omega), decide_eq_decide]
  rcases Nat.mod_two_eq_zero_or_one c with h1 | h1 <;> rcases Nat.mod_two_eq_zero_or_one (b / 2 ^ k) with h2 | h2 <;> rw [h1, h2] <;> simp <;> omega
theorem crcR_lt {c b : Nat} (hc : c < 2 ^ 32) : ∀ k, crcR c b k < 2 ^ 32
  | 0 => hc
  | k + 1 => by
    have := crcR_lt (b := b) hc k
    unfold crcR
    refine Nat.xor_lt_two_pow (by omega) ?_
    split <;> decide
theorem r_bits {Q : Int → AW → Prop} {nx1 : Value → Int → Int → AW → Prop} {i c0 : Nat} {x : UInt8} (hb : Rb aw v bs) (hx : bs[i]? = some x) (hc : c0 < 2 ^ 32) (h : nx1 v ((crcR c0 x.toNat 8 : Nat) : Int) (IntKind.i64.wrap ((i : Int) + 1)) aw) :
    ∀ (m k : Nat), k + m = 8 → S66_2 Q E nx1 (m + 1) v ((crcR c0 x.toNat k : Nat) : Int) (i : Int) (k : Int) aw
  | 0, k, hk => by
    show S66_2s Q E nx1 (S66_2 Q E nx1 0) _ _ _ _ aw
    unfold S66_2s
    obtain rfl : k = 8 := by omega
    exact cnd_0x (by decide) h
  | m + 1, k, hk => by
    show S66_2s Q E nx1 (S66_2 Q E nx1 (m + 1)) _ _ _ _ aw
    unfold S66_2s
    have hlt := crcR_lt (b := x.toNat) hc k
    have hxb : x.toNat < 256 := x.toNat_lt
    refine cnd_1x (decide_eq_true (by omega)) (ix_b hb rfl hx (fun p h => h) ⟨by omega, ?_⟩)
    rw [r_bit hlt hxb (by omega)]
    have e1 : min (1 : Int).toNat IntKind.u32.bits = 1 := rfl
    have hnext : ∀ d : Nat, d = crcR c0 x.toNat (k + 1) → S66_3 Q E nx1 (S66_2 Q E nx1 (m + 1)) v (d : Int) (i : Int) (k : Int) aw := fun d hd => by
      subst hd
      unfold S66_3
      rw [show (k : Int) + 1 = ((k + 1 : Nat) : Int) by omega, i64_nat (by omega)]
      exact r_bits hb hx hc h m (k + 1) (by omega)
    have hstep : crcR c0 x.toNat (k + 1) = (crcR c0 x.toNat k / 2) ^^^ (if (crcR c0 x.toNat k + x.toNat / 2 ^ k) % 2 = 1 then poly else 0) := rfl
    by_cases hq : (crcR c0 x.toNat k + x.toNat / 2 ^ k) % 2 = 1
    · refine cnd_1x (decide_eq_true hq) ?_
      rw [e1, fdiv_nat, show (2197175160 : Int) = ((2197175160 : Nat) : Int) from rfl, xor_n32 (by omega) (by decide)]
      exact hnext _ (by rw [hstep, if_pos hq, Nat.pow_one]; rfl)
    · refine cnd_0x (decide_eq_false hq) ?_
      rw [e1, fdiv_nat]
      exact hnext _ (by rw [hstep, if_neg hq, Nat.xor_zero, Nat.pow_one])
theorem r_sum_loop {Q : Int → AW → Prop} (hb : Rb aw v bs) (hl : bs.length < 2 ^ 44) (hQ : Q ((Oc.sum bs : Nat) : Int) aw) :
    ∀ (n i c : Nat), i + n = bs.length → c < 2 ^ 32 → crcL c (bs.drop i) = crcL 4294967295 bs → S66_1 Q E (n + 1) v (c : Int) (i : Int) aw
  | 0, i, c, hi, hc, h => by
    show S66_1s Q E (S66_1 Q E 0) _ _ _ aw
    unfold S66_1s
    refine slen_b hb (cnd_0x (decide_eq_false (by omega)) ?_)
    rw [List.drop_of_length_le (by omega)] at h
    have h : c = crcL 4294967295 bs := h
    have e : IntKind.u32.wrap (4294967295 - (c : Int)) = ((Oc.sum bs : Nat) : Int) := by
      unfold Oc.sum
      rw [← h, wrap_u32]
      omega
    rw [e]; exact hQ
  | n + 1, i, c, hi, hc, h => by
    show S66_1s Q E (S66_1 Q E (n + 1)) _ _ _ aw
    unfold S66_1s
    have hlt : i < bs.length := by omega
    refine slen_b hb (cnd_1x (decide_eq_true (by omega)) ⟨9, ?_⟩)
    refine r_bits (c0 := c) (x := bs[i]) hb (List.getElem?_eq_getElem hlt) hc ?_ 8 0 rfl
    rw [← crcB_R, show (i : Int) + 1 = ((i + 1 : Nat) : Int) by omega, i64_nat (by omega)]
    refine r_sum_loop hb hl hQ n (i + 1) (crcB c bs[i]) (by omega) (crcB_lt hc) ?_
    rw [← h, List.drop_eq_getElem_cons hlt]
    rfl
theorem r_sum {Q : Int → AW → Prop} (hb : Rb aw v bs) (hl : bs.length < 2 ^ 44) (hQ : Q ((Oc.sum bs : Nat) : Int) aw) : CallP prog 66 [v] aw sh66 Q E := by
  refine F66_ok _ aw ?_
  unfold S66_0
  exact ⟨bs.length + 1, r_sum_loop hb hl hQ bs.length 0 4294967295 (by omega) (by decide) (by simp)⟩
theorem r_seal_loop {Q : Value → AW → Prop} {s : Nat} (hs : s < 2 ^ 32) (hl : bs.length < 2 ^ 42)
    (hQ : ∀ v' L aw', Ob 5 v' (bs ++ [UInt8.ofNat s, UInt8.ofNat (s / 256), UInt8.ofNat (s / 65536), UInt8.ofNat (s / 16777216)]) L → Hp aw0 own ro aw' (L ++ l) → Q v' aw') :
    ∀ (m i : Nat) (pv : Value) (L : List (Nat × Blk)) (aw : AW), i + m = 4 → Ob 5 pv (bs ++ (([UInt8.ofNat s, UInt8.ofNat (s / 256), UInt8.ofNat (s / 65536), UInt8.ofNat (s / 16777216)] : List UInt8).take i)) L → Hp aw0 own ro aw (L ++ l) → S54_1 Q E (m + 1) pv (s : Int) (i : Int) aw
  | 0, i, pv, L, aw, hi, ho, M => by
    show S54_1s Q E (S54_1 Q E 0) _ _ _ aw
    unfold S54_1s
    obtain rfl : i = 4 := by omega
    exact cnd_0x (by decide) (hQ pv L aw ho M)
  | m + 1, i, pv, L, aw, hi, ho, M => by
    show S54_1s Q E (S54_1 Q E (m + 1)) _ _ _ aw
    unfold S54_1s
    refine cnd_1x (decide_eq_true (by omega)) ⟨by rw [w8 (by omega)]; omega, ?_⟩
    have e : IntKind.u8.wrap (Int.fdiv (s : Int) (2 ^ (min (IntKind.i64.wrap (8 * (i : Int))).toNat IntKind.u32.bits))) = ((UInt8.ofNat (s / 2 ^ (8 * i))).toNat : Int) := by
      rw [w8 (by omega)]
      have : min ((8 * i : Nat) : Int).toNat IntKind.u32.bits = 8 * i := by
        show min ((8 * i : Nat) : Int).toNat 32 = 8 * i
        omega
      rw [this, sum_byte]
    rw [e]
    refine push_b0 (A := []) rfl ho (by simp; omega) M fun v' L' aw' h1 M' => ?_
    rw [show (i : Int) + 1 = ((i + 1 : Nat) : Int) by omega, i64_nat (by omega)]
    refine r_seal_loop hs hl hQ m (i + 1) v' L' aw' (by omega) ?_ M'
    have : i = 0 ∨ i = 1 ∨ i = 2 ∨ i = 3 := by omega
    rcases this with rfl | rfl | rfl | rfl <;> simpa using h1
theorem r_seal {Q : Value → AW → Prop} (M : Hp aw0 own ro aw l) (hR : Rs aw0 own ro S v bs) (hS : ∀ p ∈ S, p ∈ l) (hl : bs.length < 2 ^ 42)
    (hQ : ∀ v' L aw', Ob 5 v' (sealB bs) L → Hp aw0 own ro aw' (L ++ l) → Q v' aw') : CallP prog 54 [v] aw sh54 Q E := by
  refine F54_ok _ aw ?_
  unfold S54_0
  refine app_ob (cs := bs) (bs := []) (L := []) .nil M (hR aw _ M hS).src (by simp; omega) fun v1 L1 aw1 h1 _ M1 => ?_
  refine r_sum (hR aw1 _ M1 fun p hp => List.mem_append.2 (.inr (hS p hp))) (by omega) ⟨5, ?_⟩
  exact r_seal_loop (bs := bs) (sum_lt bs) (by omega) (fun v' L aw' h M' => hQ v' L aw' h M') 4 0 v1 L1 aw1 rfl (by simpa using h1) M1
theorem r_open {Q : (Value × Int) → AW → Prop} (M : Hp aw0 own ro aw l) (hv : ∃ q c, v = .slice q bs.length c) (hR : 4 ≤ bs.length → Rs aw0 own ro S v bs) (hS : ∀ p ∈ S, p ∈ l) (hl : bs.length < 2 ^ 42)
    (hbad : openN bs ≠ 0 → ∀ aw' L, Hp aw0 own ro aw' (L ++ l) → Q ((.slice none 0 0), (openN bs : Nat)) aw')
    (hok : openN bs = 0 → ∀ v' L aw', Rs aw0 own ro S v' (bs.take (bs.length - 4)) → Hp aw0 own ro aw' (L ++ l) → Q (v', 0) aw') : CallP prog 40 [v] aw sh40 Q E := by
  refine F40_ok _ aw ?_
  unfold S40_0
  have hlen : ∀ {X : Int → Prop}, X (bs.length : Int) → slen v X := by obtain ⟨q, c, rfl⟩ := hv; exact fun h => slen_x h
  refine hlen ?_
  by_cases h4 : bs.length < 4
  · refine cnd_1x (decide_eq_true (by omega)) ?_
    have e : openN bs = 3 := by unfold openN; rw [if_pos h4]
    have := hbad (by rw [e]; decide) aw [] M
    rw [e] at this
    exact this
  · have hR := hR (by omega)
    have hb := hR aw l M hS
    refine cnd_0x (decide_eq_false (by omega)) (slen_b hb ?_)
    rw [i64_in (n := (bs.length : Int) - 4) (by omega) (by omega)]
    refine cut_rs hR M hS (lo := 0) (hi := bs.length - 4) rfl (by omega) (Nat.zero_le _) (by omega) fun v1 hR1 => ?_
    simp only [List.drop_zero, Nat.sub_zero] at hR1
    refine toS_b hb (r_seal M hR1 hS (by rw [List.length_take]; omega) fun v2 L2 aw2 h2 M2 => ?_)
    have hS2 : ∀ p ∈ S, p ∈ L2 ++ l := fun p hp => List.mem_append.2 (.inr (hS p hp))
    refine againS_b (hR aw2 _ M2 hS2) (toS_b (h2.rs aw2 _ M2 fun p hp => List.mem_append.2 (.inl hp)) ?_)
    rw [arr_eq]
    by_cases he : sealB (bs.take (bs.length - 4)) = bs
    · refine cnd_0x (by rw [decide_eq_true he]; rfl) ?_
      refine cut_rs hR M2 hS2 (lo := 0) (hi := bs.length - 4) rfl (by omega) (Nat.zero_le _) (by omega) fun v3 hR3 => ?_
      simp only [List.drop_zero, Nat.sub_zero] at hR3
      exact hok (by unfold openN; rw [if_neg h4, if_pos he]) v3 L2 aw2 hR3 M2
    · refine cnd_1x (by rw [decide_eq_false he]; rfl) ?_
      have e : openN bs = 14 := by unfold openN; rw [if_neg h4, if_neg he]
      have := hbad (by rw [e]; decide) aw2 L2 M2
      rw [e] at this
      exact this
end
end Go.Proofs.Try
