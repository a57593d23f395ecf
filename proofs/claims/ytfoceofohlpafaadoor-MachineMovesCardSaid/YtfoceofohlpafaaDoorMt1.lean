/- bytes.Buffer: one byte more; what it holds. -/
import Derived.Test.YtfoceofohlpafaaDoorMz5
import Derived.Test.YtfoceofohlpafaaDoorL3
set_option linter.unusedVariables false
set_option linter.unusedSimpArgs false
set_option linter.unusedSectionVars false
namespace Go.Proofs.Tryd
open Go Go.Am Go.RowKit
variable [SymE]
set_option maxHeartbeats 1000000
abbrev BB (v : Value) : Blk := ⟨[v, .int .i64 0, .int .i8 0], 94, 0, true, 0⟩
inductive Buf (bb : Nat) : List UInt8 → List (Nat × Blk) → Prop
  | nil : Buf bb [] [(bb, BB nil3)]
  | some {kb c : Nat} {bs : List UInt8} {zs : List Value} (hc : bs.length + zs.length = c) (hlt : c < 2 ^ 63) (h0 : 0 < bs.length) : Buf bb bs [(bb, BB (.slice (some ⟨kb, 0, none⟩) bs.length c)), (kb, ⟨bytesV bs ++ zs, 5, 1, true, 0⟩)]
theorem put_pre {xs cs cs' zs : List Value} (h : cs.length = xs.length) : Put (xs ++ zs) 0 cs (cs ++ zs) := by
  induction xs generalizing cs with
  | nil =>
    obtain rfl : cs = [] := List.eq_nil_of_length_eq_zero (by simpa using h)
    exact .nil
  | cons x xs ih =>
    cases cs with
    | nil => simp at h
    | cons c cs => exact .cons (ih (by simpa using h))
theorem put_at {xs zs : List Value} {z c : Value} : Put (xs ++ z :: zs) xs.length [c] (xs ++ c :: zs) := by
  have := put_app (Put.cons (c := z) (v := c) (Put.nil (r := zs))) xs
  simpa using this
section
variable {aw0 aw : AW} {own : List Nat} {ro l L : List (Nat × Blk)} {bb kb c : Nat} {E : List PanicEntry → AW → Prop} {bs : List UInt8} {zs : List Value} {x : UInt8}
theorem cutC {size b n lo hi : Nat} {i : Nat} {a d : Int} {K : Value → Prop} (ha : a = (lo : Int)) (hd : d = (hi : Int)) (h1 : lo ≤ hi) (h2 : hi ≤ c) (hc : c < UNK) (hK : K (.slice (some ⟨b, i + lo * size, none⟩) (hi - lo) (c - lo))) : cutV aw size (.slice (some ⟨b, i, none⟩) n c) a d K := by
  subst ha; subst hd
  refine ⟨_, .some h1 (by rw [if_pos hc]; exact h2) (fun h => absurd hc (by omega)), ?_⟩
  unfold capOf
  rw [if_pos hc]; exact hK
theorem try_yes {Q : Int × Bool → AW → Prop} {n : Nat} (M : Hp aw0 own ro aw ((bb, BB (.slice (some ⟨kb, 0, none⟩) n c)) :: l)) (hn : n < c) (hc : c < 2 ^ 63) (hQ : ∀ aw', Hp aw0 own ro aw' ((bb, BB (.slice (some ⟨kb, 0, none⟩) (n + 1) c)) :: l) → Q ((n : Int), true) aw') :
    CallP prog 59 [Pt bb, .int .i64 1] aw sh59 Q E := by
  refine F59_ok _ _ aw ?_
  unfold S59_0
  have hu : c < UNK := by unfold UNK; omega
  refine nck_x (fldA_x (ldV_x (M.im .here) (by repeat constructor) (slen_x (nck_x (fldA_x (ldV_x (M.im .here) (by repeat constructor) (scap_x hu ?_)))))))
  rw [i64_in (n := (c : Int) - (n : Int)) (by omega) (by omega)]
  refine cnd_1x (decide_eq_true (by omega)) (nck_x (fldA_x (ldV_x (M.im .here) (by repeat constructor) ?_)))
  rw [show (n : Int) + 1 = ((n + 1 : Nat) : Int) by omega, i64_nat (by omega)]
  refine cutC (lo := 0) (hi := n + 1) rfl rfl (Nat.zero_le _) (by omega) hu ?_
  exact nck_x (fldA_x (st_x M .here (by repeat constructor) rfl rfl rfl fun aw1 M1 => hQ aw1 M1))
theorem try_no {Q : Int × Bool → AW → Prop} {n : Nat} {q : Option Addr} (M : Hp aw0 own ro aw ((bb, BB (.slice q n n)) :: l)) (hn : n < 2 ^ 62) (hQ : Q (0, false) aw) : CallP prog 59 [Pt bb, .int .i64 1] aw sh59 Q E := by
  refine F59_ok _ _ aw ?_
  unfold S59_0
  refine nck_x (fldA_x (ldV_x (M.im .here) (by repeat constructor) (slen_x (nck_x (fldA_x (ldV_x (M.im .here) (by repeat constructor) (scap_x (by unfold UNK; omega) ?_)))))))
  rw [i64_in (n := (n : Int) - (n : Int)) (by omega) (by omega)]
  exact cnd_0x (decide_eq_false (by omega)) hQ
theorem growSlice_x {Q : Value → AW → Prop} {n : Nat} (hn : n = bs.length) (h0 : 0 < n) (hn2 : n < 2 ^ 40) (M : Hp aw0 own ro aw ((kb, ⟨bytesV bs, 5, 1, true, 0⟩) :: l))
    (hQ : ∀ nb N zs' aw', bs.length + zs'.length = N → n < N → N < 2 ^ 63 → Hp aw0 own ro aw' ((nb, ⟨bytesV bs ++ zs', 5, 1, true, 0⟩) :: (kb, ⟨bytesV bs, 5, 1, true, 0⟩) :: l) → Q (.slice (some ⟨nb, 0, none⟩) n N) aw') :
    CallP prog 78 [.slice (some ⟨kb, 0, none⟩) n n, .int .i64 1] aw sh78 Q E := by
  subst hn
  refine F78_ok _ _ aw ?_
  unfold S78_0
  have hu : bs.length < UNK := by unfold UNK; omega
  refine slen_x (scap_x hu ?_)
  have main : S78_1 Q E (.slice (some ⟨kb, 0, none⟩) bs.length bs.length) (.slice none 0 0) (IntKind.i64.wrap (2 * ((bs.length : Nat) : Int))) aw → cnd (decide (IntKind.i64.wrap ((bs.length : Int) + 1) < IntKind.i64.wrap (2 * (bs.length : Int)))) (scap (.slice (some ⟨kb, 0, none⟩) bs.length bs.length) fun n47 => S78_1 Q E (.slice (some ⟨kb, 0, none⟩) bs.length bs.length) (.slice none 0 0) (IntKind.i64.wrap (2 * n47)) aw) (S78_1 Q E (.slice (some ⟨kb, 0, none⟩) bs.length bs.length) (.slice none 0 0) (IntKind.i64.wrap ((bs.length : Int) + 1)) aw) := by
    intro h
    by_cases h1 : bs.length = 1
    · refine cnd_0x ?_ ?_
      · rw [h1]; decide
      · rw [h1] at h ⊢; exact h
    · refine cnd_1x ?_ (scap_x hu h)
      rw [i64_in (n := (bs.length : Int) + 1) (by omega) (by omega), i64_in (n := 2 * (bs.length : Int)) (by omega) (by omega)]
      exact decide_eq_true (by omega)
  refine main ?_
  unfold S78_1
  rw [show 2 * ((bs.length : Nat) : Int) = ((2 * bs.length : Nat) : Int) by omega, i64_nat (by omega)]
  refine ⟨none, 0, 0, 2 * bs.length, [], rfl, rfl, by omega, .nil, by unfold UNK; omega, by omega, by omega, fun N h1 h2 => ?_⟩
  rw [Nat.zero_add] at h1 ⊢
  have M1 := M.alloc (cs := [] ++ (zeros [.int .u8 0] (2 * bs.length) ++ zeros [.int .u8 0] (N - 2 * bs.length))) 5 1
  generalize hZ : zeros [.int .u8 0] (2 * bs.length) ++ zeros [.int .u8 0] (N - 2 * bs.length) = Z at M1 ⊢
  have hZl : Z.length = N := by rw [← hZ]; simp [zeros_length]; omega
  rw [List.nil_append] at M1 ⊢
  have hs : Src (aw.alloc Z 5 1) 1 (.slice (some ⟨kb, 0, none⟩) bs.length bs.length) bs.length (bytesV bs) := src_x (M1.im (.there .here)) (by simp [bytesV]) (by rw [List.drop_zero, List.take_of_length_le (by simp [bytesV])])
  have e1 : min bs.length (2 * bs.length) = bs.length := by omega
  have hbl : (bytesV bs).length = bs.length := by simp [bytesV]
  have e2 : (bytesV bs).take (min bs.length (2 * bs.length) * 1) = bytesV bs := by rw [e1, Nat.mul_one]; exact List.take_of_length_le (by simp [bytesV])
  have hput : Put Z 0 (bytesV bs) (bytesV bs ++ Z.drop bs.length) := by
    have := put_pre (xs := Z.take bs.length) (cs := bytesV bs) (cs' := []) (zs := Z.drop bs.length) (by rw [hbl, List.length_take]; omega)
    rwa [List.take_append_drop] at this
  have M2 := M1.set (B := ⟨Z, 5, 1, true, 0⟩) hput .here
  refine ⟨_, _, _, _, _, _, _, _, rfl, hs, by rw [e2]; exact bytesV_one bs, ?_, rfl, rfl, ?_⟩
  · rw [e2]; exact ⟨_, M1.m .here, rfl, by rw [hbl]; show 0 + bs.length ≤ Z.length; omega, Nat.zero_le _⟩
  rw [e2, e1]
  refine cutC (lo := 0) (hi := bs.length) rfl rfl (Nat.zero_le _) (by omega) (by unfold UNK; omega) ?_
  unfold DK78 DefK
  refine F86_okD _ _ ?_
  unfold S86_0
  refine nilB_x rfl rfl (cnd_0x rfl ?_)
  show Q (.slice (some ⟨aw.next, 0 + 0 * 1, none⟩) (bs.length - 0) (N - 0)) _
  rw [Nat.zero_mul, Nat.sub_zero, Nat.sub_zero]
  exact hQ aw.next N (Z.drop bs.length) _ (by simp; omega) (by omega) h2 M2
end
end Go.Proofs.Tryd
set_option linter.unusedVariables false
set_option linter.unusedSimpArgs false
set_option linter.unusedSectionVars false
namespace Go.Proofs.Tryd
open Go Go.Am Go.RowKit
variable [SymE]
set_option maxHeartbeats 1000000
section
variable {aw0 aw : AW} {own : List Nat} {ro l L : List (Nat × Blk)} {bb kb c : Nat} {E : List PanicEntry → AW → Prop} {bs : List UInt8} {zs : List Value} {x : UInt8}
theorem lay_byte {Q : Value → AW → Prop} {z : Value} (M : Hp aw0 own ro aw ((bb, BB (.slice (some ⟨kb, 0, none⟩) (bs.length + 1) c)) :: (kb, ⟨bytesV bs ++ z :: zs, 5, 1, true, 0⟩) :: l)) (hc : bs.length + (zs.length + 1) = c) (hlt : c < 2 ^ 63)
    (hQ : ∀ L' aw', Buf bb (bs ++ [x]) L' → Hp aw0 own ro aw' (L' ++ l) → Q .nilIface aw') : S40_1 Q E (Pt bb) (x.toNat : Int) (bs.length : Int) aw := by
  unfold S40_1
  refine nck_x (fldA_x (ldV_x (M.im .here) (by repeat constructor) (ixS_x (by omega) (by omega) ?_)))
  rw [show 0 + ((bs.length : Nat) : Int).toNat * 1 = (bytesV bs).length by simp [bytesV]]
  refine st_x M (.there .here) put_at rfl rfl rfl fun aw1 M1 => hQ [(bb, BB (.slice (some ⟨kb, 0, none⟩) (bs.length + 1) c)), (kb, ⟨bytesV bs ++ Value.int .u8 (x.toNat : Int) :: zs, 5, 1, true, 0⟩)] aw1 ?_ M1
  have e : bytesV bs ++ Value.int .u8 (x.toNat : Int) :: zs = bytesV (bs ++ [x]) ++ zs := by simp [bytesV]
  rw [e, show bs.length + 1 = (bs ++ [x]).length by simp]
  exact .some (by simp; omega) hlt (by simp)
theorem wbyte_x {Q : Value → AW → Prop} (hB : Buf bb bs L) (hbs : bs.length < 2 ^ 40) (M : Hp aw0 own ro aw (L ++ l)) (hQ : ∀ L' aw', Buf bb (bs ++ [x]) L' → Hp aw0 own ro aw' (L' ++ l) → Q .nilIface aw') : CallP prog 40 [Pt bb, .int .u8 (x.toNat : Int)] aw sh40 Q E := by
  refine F40_ok _ _ aw ?_
  unfold S40_0
  cases hB with
  | nil =>
    refine nck_x (fldA_x (st_x M .here (by repeat constructor) rfl rfl rfl fun aw1 M1 => ?_))
    refine try_no (n := 0) M1 (by decide) (cnd_1x rfl ?_)
    refine F60_ok _ _ aw1 ?_
    unfold S60_0
    refine F76_ok _ aw1 ?_
    unfold S76_0
    refine nck_x (fldA_x (ldV_x (M1.im .here) (by repeat constructor) (slen_x (nck_x (fldA_x (ldI_x (M1.im .here) (by repeat constructor) ?_))))))
    refine cnd_1x rfl (nck_x (fldA_x (ldI_x (M1.im .here) (by repeat constructor) (cnd_0x rfl ?_))))
    unfold S60_1
    refine try_no (n := 0) M1 (by decide) (cnd_0x rfl (nck_x (fldA_x (ldV_x (M1.im .here) (by repeat constructor) (nilB_x rfl rfl (cnd_1x rfl ?_))))))
    unfold S60_2
    refine cnd_1x rfl ⟨_, _, by decide, by decide, by decide, by decide, rfl, rfl, ?_⟩
    have M2 := M1.alloc (cs := zeros [.int .u8 0] 64) 5 1
    refine nck_x (fldA_x (st_x M2 (.there .here) (by repeat constructor) rfl rfl rfl fun aw3 M3 => ?_))
    have M4 : Hp aw0 own ro aw3 ((bb, BB (.slice (some ⟨aw1.next, 0, none⟩) (([] : List UInt8).length + 1) 64)) :: (aw1.next, ⟨bytesV [] ++ Value.int .u8 0 :: zeros [.int .u8 0] 63, 5, 1, true, 0⟩) :: l) := M3.front (.there .here)
    exact lay_byte (bs := []) (c := 64) (z := .int .u8 0) (zs := zeros [.int .u8 0] 63) M4 (by simp [zeros_length]) (by decide) hQ
  | some hc hlt h0 =>
    rename_i kb c zs
    refine nck_x (fldA_x (st_x M .here (by repeat constructor) rfl rfl rfl fun aw1 M1 => ?_))
    cases zs with
    | cons z zs =>
      simp only [List.length_cons] at hc
      refine try_yes M1 (by omega) hlt fun aw2 M2 => cnd_0x rfl ?_
      exact lay_byte M2 hc hlt hQ
    | nil =>
      simp only [List.length_nil, Nat.add_zero] at hc
      subst hc
      have M1 : Hp aw0 own ro aw1 ((bb, BB (.slice (some ⟨kb, 0, none⟩) bs.length bs.length)) :: (kb, ⟨bytesV bs, 5, 1, true, 0⟩) :: l) := by
        have := M1; rw [List.append_nil] at this; exact this
      refine try_no M1 (by omega) (cnd_1x rfl ?_)
      refine F60_ok _ _ aw1 ?_
      unfold S60_0
      refine F76_ok _ aw1 ?_
      unfold S76_0
      refine nck_x (fldA_x (ldV_x (M1.im .here) (by repeat constructor) (slen_x (nck_x (fldA_x (ldI_x (M1.im .here) (by repeat constructor) ?_))))))
      rw [show IntKind.i64.wrap ((bs.length : Int) - 0) = ((bs.length : Nat) : Int) by rw [Int.sub_zero, i64_nat (by omega)]]
      refine cnd_0x (decide_eq_false (by omega)) ?_
      unfold S60_1
      refine try_no M1 (by omega) (cnd_0x rfl (nck_x (fldA_x (ldV_x (M1.im .here) (by repeat constructor) (nilB_x rfl rfl (cnd_0x rfl ?_))))))
      unfold S60_2
      refine cnd_0x rfl (nck_x (fldA_x (ldV_x (M1.im .here) (by repeat constructor) (scap_x (by unfold UNK; omega) ?_))))
      have e1 : IntKind.i64.wrap (Int.tdiv (bs.length : Int) 2) = ((bs.length / 2 : Nat) : Int) := by
        rw [Int.tdiv_eq_ediv_of_nonneg (by omega), show (bs.length : Int) / 2 = ((bs.length / 2 : Nat) : Int) by omega, i64_nat (by omega)]
      rw [e1, i64_in (n := ((bs.length / 2 : Nat) : Int) - (bs.length : Int)) (by omega) (by omega)]
      refine cnd_0x (decide_eq_false (by omega)) ?_
      rw [i64_in (n := 9223372036854775807 - (bs.length : Int)) (by omega) (by omega), i64_in (n := 9223372036854775807 - (bs.length : Int) - 1) (by omega) (by omega)]
      refine cnd_0x (decide_eq_false (by omega)) ?_
      refine nck_x (fldA_x (ldV_x (M1.im .here) (by repeat constructor) (nck_x (fldA_x (ldI_x (M1.im .here) (by repeat constructor) ?_)))))
      refine cutC (lo := 0) (hi := bs.length) rfl rfl (Nat.zero_le _) (Nat.le_refl _) (by unfold UNK; omega) ?_
      refine nck_x (fldA_x (ldI_x (M1.im .here) (by repeat constructor) ?_))
      show CallP prog 78 [.slice (some ⟨kb, 0 + 0 * 1, none⟩) (bs.length - 0) (bs.length - 0), .int .i64 1] aw1 sh78 _ _
      rw [Nat.zero_mul, Nat.sub_zero]
      refine growSlice_x rfl h0 hbs (M1.front (.there .here)) fun nb N zs' aw2 h1 h2 h3 M2 => ?_
      have M3 := (M2.drop (.there .here)).front (.there .here)
      refine nck_x (fldA_x (st_x M3 .here (by repeat constructor) rfl rfl rfl fun aw3 M4 => ?_))
      unfold S60_3
      refine nck_x (fldA_x (st_x M4 .here (by repeat constructor) rfl rfl rfl fun aw4 M5 => ?_))
      refine nck_x (fldA_x (ldV_x (M5.im .here) (by repeat constructor) ?_))
      rw [show (bs.length : Int) + 1 = ((bs.length + 1 : Nat) : Int) by omega, i64_nat (by omega)]
      refine cutC (lo := 0) (hi := bs.length + 1) rfl rfl (Nat.zero_le _) (by omega) (by unfold UNK; omega) ?_
      refine nck_x (fldA_x (st_x M5 .here (by repeat constructor) rfl rfl rfl fun aw5 M6 => ?_))
      cases zs' with
      | nil => simp at h1; omega
      | cons z zs' => exact lay_byte (zs := zs') M6 (by simpa using h1) h3 hQ
theorem bufString_x {Q : ByteArray → AW → Prop} (hB : Buf bb bs L) (M : Hp aw0 own ro aw (L ++ l)) (hQ : Q ⟨bs.toArray⟩ aw) : CallP prog 42 [Pt bb] aw sh42 Q E := by
  refine F42_ok _ aw ?_
  unfold S42_0
  cases hB with
  | nil =>
    refine nilB_x rfl rfl (cnd_0x rfl (nck_x (fldA_x (ldV_x (M.im .here) (by repeat constructor) (nck_x (fldA_x (ldI_x (M.im .here) (by repeat constructor) ⟨_, .nil, ?_⟩)))))))
    exact ⟨[], 0, _, .nil, ⟨_, _, _, rfl⟩, rfl, hQ⟩
  | some hc hlt h0 =>
    rename_i kb c zs
    refine nilB_x rfl rfl (cnd_0x rfl (nck_x (fldA_x (ldV_x (M.im .here) (by repeat constructor) (nck_x (fldA_x (ldI_x (M.im .here) (by repeat constructor) ?_)))))))
    refine cutC (lo := 0) (hi := bs.length) rfl rfl (Nat.zero_le _) (by omega) (by unfold UNK; omega) ?_
    refine ⟨bs, bs.length, _, ?_, ⟨_, _, _, rfl⟩, rfl, hQ⟩
    show Src aw 1 (.slice (some ⟨kb, 0 + 0 * 1, none⟩) (bs.length - 0) (c - 0)) bs.length (bytesV bs)
    rw [Nat.zero_mul, Nat.sub_zero]
    exact src_x (M.im (.there .here)) (by simp [bytesV]) (by rw [List.drop_zero, Nat.mul_one, List.take_append_of_le_length (by simp [bytesV]), List.take_of_length_le (by simp [bytesV])])
end
end Go.Proofs.Tryd
set_option linter.unusedVariables false
set_option linter.unusedSimpArgs false
set_option linter.unusedSectionVars false
namespace Go.Proofs.Tryd
open Go Go.Am Go.RowKit
variable [SymE]
set_option maxHeartbeats 1000000
theorem wAt_byte (s : ByteArray) (a : Nat) : ∀ (n k : Nat), k < n → wAt s a n / 2 ^ (8 * k) % 256 = byteAt s (a + k)
  | 0, k, h => by omega
  | n + 1, k, h => by
    show (wAt s a n + byteAt s (a + n) * 2 ^ (8 * n)) / 2 ^ (8 * k) % 256 = _
    by_cases hk : k = n
    · subst hk
      rw [Nat.add_mul_div_right _ _ (Nat.two_pow_pos _), Nat.div_eq_of_lt (wAt_lt s a k), Nat.zero_add, Nat.mod_eq_of_lt (byteAt_lt s _)]
    · have hlt : k < n := by omega
      have e : 2 ^ (8 * n) = 2 ^ (8 * (n - k)) * 2 ^ (8 * k) := by rw [← Nat.pow_add]; congr 1; omega
      rw [e, ← Nat.mul_assoc, Nat.add_mul_div_right _ _ (Nat.two_pow_pos _)]
      have e2 : 2 ^ (8 * (n - k)) = 2 ^ (8 * (n - k - 1)) * 256 := by
        rw [show (256 : Nat) = 2 ^ 8 from rfl, ← Nat.pow_add]; congr 1; omega
      rw [e2, ← Nat.mul_assoc, Nat.add_mul_mod_self_right]
      exact wAt_byte s a n k hlt
structure TxtAt (ws : List Nat) (j : Nat) (s : ByteArray) : Prop where
  hd : ws[j]? = some (s.size * 2 ^ 8 + 3)
  wd : ∀ i, i < (s.size + 7) / 8 → ws[j + 1 + i]? = some (wAt s (8 * i) 8)
  sz : s.size < 2 ^ 40
theorem tws_get (s : ByteArray) : ∀ (n i a : Nat), i < n → (tws s a n)[i]? = some (wAt s (a + 8 * i) 8)
  | 0, i, a, h => by omega
  | n + 1, 0, a, h => by simp [tws]
  | n + 1, i + 1, a, h => by
    simp only [tws, List.getElem?_cons_succ]
    rw [tws_get s n i (a + 8) (by omega)]
    congr 2; omega
theorem TxtAt.new {ws : List Nat} {s : ByteArray} {r : List Nat} (h : s.size < 2 ^ 40) : TxtAt (ws ++ txt s ++ r) ws.length s := by
  refine ⟨?_, fun i hi => ?_, h⟩
  · rw [List.append_assoc, List.getElem?_append_right (Nat.le_refl _), Nat.sub_self]; rfl
  · rw [List.append_assoc, List.getElem?_append_right (by omega), List.getElem?_append_left (by simp [txt, tws_len]; omega), show ws.length + 1 + i - ws.length = i + 1 by omega]
    simp only [txt, List.getElem?_cons_succ]
    rw [tws_get s _ i 0 hi, Nat.zero_add]
theorem TxtAt.more {ws r : List Nat} {j : Nat} {s : ByteArray} (h : TxtAt ws j s) : TxtAt (ws ++ r) j s :=
  ⟨by rw [List.getElem?_append_left (List.getElem?_eq_some_iff.1 h.hd).1]; exact h.hd, fun i hi => by rw [List.getElem?_append_left (List.getElem?_eq_some_iff.1 (h.wd i hi)).1]; exact h.wd i hi, h.sz⟩
theorem ba_list (s : ByteArray) : (⟨s.data.toList.toArray⟩ : ByteArray) = s := by cases s; simp
section
variable {aw0 : AW} {own : List Nat} {ro l : List (Nat × Blk)} {hb mb j : Nat} {E : List PanicEntry → AW → Prop} {ws : List Nat} {mj : List Value} {s : ByteArray} {qu ct : Int}
theorem text_loop {Q : ByteArray → AW → Prop} {bb : Nat} (hT : TxtAt ws j s) (hH : At l hb (HB (Sl mb ws.length) qu ct)) (hM : At l mb (WB ws mj)) (hn : ws.length < 2 ^ 50) (hQ : ∀ aw', Hp aw0 own ro aw' l → Q s aw') :
    ∀ (r i : Nat) (L : List (Nat × Blk)) (aw : AW), i + r = s.size → Buf bb (s.data.toList.take i) L → Hp aw0 own ro aw (L ++ l) → S19_1 Q E (r + 1) (Pt hb) ((2 * j : Nat) : Int) (Pt bb) (s.size : Int) (i : Int) aw
  | 0, i, L, aw, hi, hB, M => by
    show S19_1s Q E (S19_1 Q E 0) _ _ _ _ _ aw
    unfold S19_1s
    have hsz := hT.sz
    refine cnd_0x (decide_eq_false (by omega)) ?_
    have e : s.data.toList.take i = s.data.toList := List.take_of_length_le (by rw [Array.length_toList]; show s.size ≤ i; omega)
    rw [e] at hB
    refine bufString_x hB M ?_
    rw [ba_list]
    exact hQ aw M.dropL
  | r + 1, i, L, aw, hi, hB, M => by
    show S19_1s Q E (S19_1 Q E (r + 1)) _ _ _ _ _ aw
    unfold S19_1s
    have hsz := hT.sz
    have hlt : j < ws.length := (List.getElem?_eq_some_iff.1 hT.hd).1
    have hw := hT.wd (i / 8) (by omega)
    have hlt2 := (List.getElem?_eq_some_iff.1 hw).1
    have iH := M.im (At.app (L := L) hH)
    have iM := M.im (At.app (L := L) hM)
    refine cnd_1x (decide_eq_true (by omega)) (nck_x (fldA_x (ldV_x iH (by constructor) (at_x iH hlt (by omega) (again_x iH (by constructor) ?_)))))
    have e1 : IntKind.i64.wrap (Int.tdiv (i : Int) 8) = ((i / 8 : Nat) : Int) := by
      rw [Int.tdiv_eq_ediv_of_nonneg (by omega), show (i : Int) / 8 = ((i / 8 : Nat) : Int) by omega, i64_nat (by omega)]
    rw [e1, show (j : Int) + 1 = ((j + 1 : Nat) : Int) by omega, i64_nat (by omega), show ((j + 1 : Nat) : Int) + ((i / 8 : Nat) : Int) = ((j + 1 + i / 8 : Nat) : Int) by omega, i64_nat (by omega)]
    refine ixS_x (by omega) (by omega) (ldI_x iM (cellW hw) ?_)
    have e2 : IntKind.i64.wrap (8 * Int.tmod (i : Int) 8) = ((8 * (i % 8) : Nat) : Int) := by
      rw [Int.tmod_eq_emod_of_nonneg (by omega), show 8 * ((i : Int) % 8) = ((8 * (i % 8) : Nat) : Int) by omega, i64_nat (by omega)]
    have e3 : min ((8 * (i % 8) : Nat) : Int).toNat IntKind.u64.bits = 8 * (i % 8) := by
      show min ((8 * (i % 8) : Nat) : Int).toNat 64 = _; omega
    rw [e2, e3]
    have hil : i < s.data.toList.length := by rw [Array.length_toList]; show i < s.size; omega
    generalize hx : s.data.toList[i] = x
    have hxi : s.data.toList[i]? = some x := by rw [List.getElem?_eq_getElem hil, hx]
    have e4 : IntKind.u8.wrap (Int.fdiv ((wAt s (8 * (i / 8)) 8 : Nat) : Int) (2 ^ (8 * (i % 8)))) = (x.toNat : Int) := by
      rw [Int.fdiv_eq_ediv_of_nonneg _ (Int.le_of_lt (Int.pow_pos (by decide))), wrap_u8]
      have h1 := wAt_byte s (8 * (i / 8)) 8 (i % 8) (by omega)
      rw [show 8 * (i / 8) + i % 8 = i by omega] at h1
      have h2 : byteAt s i = x.toNat := by
        unfold byteAt
        rw [List.getD_eq_getElem?_getD, hxi]; rfl
      rw [← h2, ← h1]
      generalize wAt s (8 * (i / 8)) 8 = A
      generalize 8 * (i % 8) = k
      simp only [Int.natCast_emod, Int.natCast_ediv, Int.natCast_pow]
      rfl
    rw [e4]
    refine ⟨by omega, wbyte_x hB (by rw [List.length_take]; omega) M fun L' aw1 hB' M1 => ?_⟩
    rw [show (i : Int) + 1 = ((i + 1 : Nat) : Int) by omega, i64_nat (by omega)]
    refine text_loop hT hH hM hn hQ r (i + 1) L' aw1 (by omega) ?_ M1
    rw [List.take_add_one, hxi]
    exact hB'
theorem hText_x {Q : ByteArray → AW → Prop} {aw : AW} (hT : TxtAt ws j s) (hH : At l hb (HB (Sl mb ws.length) qu ct)) (hM : At l mb (WB ws mj)) (hn : ws.length < 2 ^ 50) (M : Hp aw0 own ro aw l) (hQ : ∀ aw', Hp aw0 own ro aw' l → Q s aw') :
    CallP prog 19 [Pt hb, .int .u64 ((2 * j : Nat) : Int)] aw sh19 Q E := by
  have hsz := hT.sz
  refine F19_ok _ _ aw ?_
  unfold S19_0
  refine kind_x (M.im hH) (M.im hM) (by omega) rfl hT.hd (cnd_0x ?_ (alc_x M fun bb aw1 M1 => ?_))
  · rw [show (s.size * 2 ^ 8 + 3) % 256 = 3 by omega]; rfl
  refine len_x (M1.im (.there hH)) (M1.im (.there hM)) (by omega) rfl hT.hd (by omega) ⟨s.size + 1, ?_⟩
  rw [show (s.size * 2 ^ 8 + 3) / 256 = s.size by omega]
  exact text_loop hT hH hM hn hQ s.size 0 [(bb, BB nil3)] aw1 (by omega) .nil M1
end
end Go.Proofs.Tryd
