/- bytes.Buffer: a byte is written; heap.Text. -/
import Derived.Test.YtfoceofohlpafaaDoorMt1
set_option linter.unusedVariables false
set_option linter.unusedSimpArgs false
set_option linter.unusedSectionVars false
namespace Go.Proofs.Tryd
open Go Go.Am Go.RowKit
variable [SymE]
set_option maxHeartbeats 1000000
section
variable {aw0 aw : AW} {own : List Nat} {ro l L : List (Nat × Blk)} {bb kb c : Nat} {E : List PanicEntry → AW → Prop} {bs : List UInt8} {zs : List Value} {x : UInt8}
theorem lay_byte {Q : Value → AW → Prop} {z : Value} (M : Hp aw0 own ro aw ((bb, BB (.slice (some ⟨kb, 0, none⟩) (bs.length + 1) c)) :: (kb, ⟨bytesV bs ++ z :: zs, 5, 1, true, 0⟩) :: l)) (hc : bs.length + (zs.length + 1) = c) (hlt : c < 2 ^ 63)
    (hQ : ∀ L' aw', Buf bb (bs ++ [x]) L' → Hp aw0 own ro aw' (L' ++ l) → Q .nilIface aw') : S40_1 Q E (Pt bb) (x.toNat : Int) (bs.length : Int) aw := by
  unfold S40_1
  refine nck_x (fldA_x (ldV_x (M.im .here) (by repeat constructor) (ixS_x (by omega) (by omega) ?_)))
  rw [show 0 + ((bs.length : Nat) : Int).toNat * 1 = (bytesV bs).length by simp [bytesV]]
  refine st_x M (.there .here) put_at rfl rfl rfl fun aw1 M1 => hQ [(bb, BB (.slice (some ⟨kb, 0, none⟩) (bs.length + 1) c)), (kb, ⟨bytesV bs ++ Value.int .u8 (x.toNat : Int) :: zs, 5, 1, true, 0⟩)] aw1 ?_ M1
  have e : bytesV bs ++ Value.int .u8 (x.toNat : Int) :: zs = bytesV (bs ++ [x]) ++ zs := by simp [bytesV]
  rw [e, show bs.length + 1 = (bs ++ [x]).length by simp]
  exact .some (by simp; omega) hlt (by simp)
theorem wbyte_x {Q : Value → AW → Prop} (hB : Buf bb bs L) (hbs : bs.length < 2 ^ 40) (M : Hp aw0 own ro aw (L ++ l)) (hQ : ∀ L' aw', Buf bb (bs ++ [x]) L' → Hp aw0 own ro aw' (L' ++ l) → Q .nilIface aw') : CallP prog 40 [Pt bb, .int .u8 (x.toNat : Int)] aw sh40 Q E := by
  refine F40_ok _ _ aw ?_
  unfold S40_0
  cases hB with
  | nil =>
    refine nck_x (fldA_x (st_x M .here (by repeat constructor) rfl rfl rfl fun aw1 M1 => ?_))
    refine try_no (n := 0) M1 (by decide) (cnd_1x rfl ?_)
    refine F60_ok _ _ aw1 ?_
    unfold S60_0
    refine F76_ok _ aw1 ?_
    unfold S76_0
    refine nck_x (fldA_x (ldV_x (M1.im .here) (by repeat constructor) (slen_x (nck_x (fldA_x (ldI_x (M1.im .here) (by repeat constructor) ?_))))))
    refine cnd_1x rfl (nck_x (fldA_x (ldI_x (M1.im .here) (by repeat constructor) (cnd_0x rfl ?_))))
    unfold S60_1
    refine try_no (n := 0) M1 (by decide) (cnd_0x rfl (nck_x (fldA_x (ldV_x (M1.im .here) (by repeat constructor) (nilB_x rfl rfl (cnd_1x rfl ?_))))))
    unfold S60_2
    refine cnd_1x rfl ⟨_, _, by decide, by decide, by decide, by decide, rfl, rfl, ?_⟩
    have M2 := M1.alloc (cs := zeros [.int .u8 0] 64) 5 1
    refine nck_x (fldA_x (st_x M2 (.there .here) (by repeat constructor) rfl rfl rfl fun aw3 M3 => ?_))
    have M4 : Hp aw0 own ro aw3 ((bb, BB (.slice (some ⟨aw1.next, 0, none⟩) (([] : List UInt8).length + 1) 64)) :: (aw1.next, ⟨bytesV [] ++ Value.int .u8 0 :: zeros [.int .u8 0] 63, 5, 1, true, 0⟩) :: l) := M3.front (.there .here)
    exact lay_byte (bs := []) (c := 64) (z := .int .u8 0) (zs := zeros [.int .u8 0] 63) M4 (by simp [zeros_length]) (by decide) hQ
  | some hc hlt h0 =>
    rename_i kb c zs
    refine nck_x (fldA_x (st_x M .here (by repeat constructor) rfl rfl rfl fun aw1 M1 => ?_))
    cases zs with
    | cons z zs =>
      simp only [List.length_cons] at hc
      refine try_yes M1 (by omega) hlt fun aw2 M2 => cnd_0x rfl ?_
      exact lay_byte M2 hc hlt hQ
    | nil =>
      simp only [List.length_nil, Nat.add_zero] at hc
      subst hc
      have M1 : Hp aw0 own ro aw1 ((bb, BB (.slice (some ⟨kb, 0, none⟩) bs.length bs.length)) :: (kb, ⟨bytesV bs, 5, 1, true, 0⟩) :: l) := by
        have := M1; rw [List.append_nil] at this; exact this
      refine try_no M1 (by omega) (cnd_1x rfl ?_)
      refine F60_ok _ _ aw1 ?_
      unfold S60_0
      refine F76_ok _ aw1 ?_
      unfold S76_0
      refine nck_x (fldA_x (ldV_x (M1.im .here) (by repeat constructor) (slen_x (nck_x (fldA_x (ldI_x (M1.im .here) (by repeat constructor) ?_))))))
      rw [show IntKind.i64.wrap ((bs.length : Int) - 0) = ((bs.length : Nat) : Int) by rw [Int.sub_zero, i64_nat (by omega)]]
      refine cnd_0x (decide_eq_false (by omega)) ?_
      unfold S60_1
      refine try_no M1 (by omega) (cnd_0x rfl (nck_x (fldA_x (ldV_x (M1.im .here) (by repeat constructor) (nilB_x rfl rfl (cnd_0x rfl ?_))))))
      unfold S60_2
      refine cnd_0x rfl (nck_x (fldA_x (ldV_x (M1.im .here) (by repeat constructor) (scap_x (by unfold UNK; omega) ?_))))
      have e1 : IntKind.i64.wrap (Int.tdiv (bs.length : Int) 2) = ((bs.length / 2 : Nat) : Int) := by
        rw [Int.tdiv_eq_ediv_of_nonneg (by omega), show (bs.length : Int) / 2 = ((bs.length / 2 : Nat) : Int) by omega, i64_nat (by omega)]
      rw [e1, i64_in (n := ((bs.length / 2 : Nat) : Int) - (bs.length : Int)) (by omega) (by omega)]
      refine cnd_0x (decide_eq_false (by omega)) ?_
      rw [i64_in (n := 9223372036854775807 - (bs.length : Int)) (by omega) (by omega), i64_in (n := 9223372036854775807 - (bs.length : Int) - 1) (by omega) (by omega)]
      refine cnd_0x (decide_eq_false (by omega)) ?_
      refine nck_x (fldA_x (ldV_x (M1.im .here) (by repeat constructor) (nck_x (fldA_x (ldI_x (M1.im .here) (by repeat constructor) ?_)))))
      refine cutC (lo := 0) (hi := bs.length) rfl rfl (Nat.zero_le _) (Nat.le_refl _) (by unfold UNK; omega) ?_
      refine nck_x (fldA_x (ldI_x (M1.im .here) (by repeat constructor) ?_))
      show CallP prog 78 [.slice (some ⟨kb, 0 + 0 * 1, none⟩) (bs.length - 0) (bs.length - 0), .int .i64 1] aw1 sh78 _ _
      rw [Nat.zero_mul, Nat.sub_zero]
      refine growSlice_x rfl h0 hbs (M1.front (.there .here)) fun nb N zs' aw2 h1 h2 h3 M2 => ?_
      have M3 := (M2.drop (.there .here)).front (.there .here)
      refine nck_x (fldA_x (st_x M3 .here (by repeat constructor) rfl rfl rfl fun aw3 M4 => ?_))
      unfold S60_3
      refine nck_x (fldA_x (st_x M4 .here (by repeat constructor) rfl rfl rfl fun aw4 M5 => ?_))
      refine nck_x (fldA_x (ldV_x (M5.im .here) (by repeat constructor) ?_))
      rw [show (bs.length : Int) + 1 = ((bs.length + 1 : Nat) : Int) by omega, i64_nat (by omega)]
      refine cutC (lo := 0) (hi := bs.length + 1) rfl rfl (Nat.zero_le _) (by omega) (by unfold UNK; omega) ?_
      refine nck_x (fldA_x (st_x M5 .here (by repeat constructor) rfl rfl rfl fun aw5 M6 => ?_))
      cases zs' with
      | nil => simp at h1; omega
      | cons z zs' => exact lay_byte (zs := zs') M6 (by simpa using h1) h3 hQ
theorem bufString_x {Q : ByteArray → AW → Prop} (hB : Buf bb bs L) (M : Hp aw0 own ro aw (L ++ l)) (hQ : Q ⟨bs.toArray⟩ aw) : CallP prog 42 [Pt bb] aw sh42 Q E := by
  refine F42_ok _ aw ?_
  unfold S42_0
  cases hB with
  | nil =>
    refine nilB_x rfl rfl (cnd_0x rfl (nck_x (fldA_x (ldV_x (M.im .here) (by repeat constructor) (nck_x (fldA_x (ldI_x (M.im .here) (by repeat constructor) ⟨_, .nil, ?_⟩)))))))
    exact ⟨[], 0, _, .nil, ⟨_, _, _, rfl⟩, rfl, hQ⟩
  | some hc hlt h0 =>
    rename_i kb c zs
    refine nilB_x rfl rfl (cnd_0x rfl (nck_x (fldA_x (ldV_x (M.im .here) (by repeat constructor) (nck_x (fldA_x (ldI_x (M.im .here) (by repeat constructor) ?_)))))))
    refine cutC (lo := 0) (hi := bs.length) rfl rfl (Nat.zero_le _) (by omega) (by unfold UNK; omega) ?_
    refine ⟨bs, bs.length, _, ?_, ⟨_, _, _, rfl⟩, rfl, hQ⟩
    show Src aw 1 (.slice (some ⟨kb, 0 + 0 * 1, none⟩) (bs.length - 0) (c - 0)) bs.length (bytesV bs)
    rw [Nat.zero_mul, Nat.sub_zero]
    exact src_x (M.im (.there .here)) (by simp [bytesV]) (by rw [List.drop_zero, Nat.mul_one, List.take_append_of_le_length (by simp [bytesV]), List.take_of_length_le (by simp [bytesV])])
end
end Go.Proofs.Tryd
