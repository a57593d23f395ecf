/- NotebookReplies: any outcome as bytes, and back. -/
import Derived.Test.YtfgihmgeplcfoaaGreatDoorNcB
import Derived.Test.YtfgihmgeplcfoaaGreatDoorNcC
import Derived.Test.YtfgihmgeplcfoaaGreatDoorNcE
import Derived.Test.YtfgihmgeplcfoaaGreatDoorNaL
set_option linter.unusedSimpArgs false
set_option linter.unusedVariables false
set_option linter.unusedSectionVars false
namespace Go.Proofs.Tryz
open Go Go.Am Go.RowKit Go.Oc
variable [SymE]
def AwkN (aw0 : AW) (own : List Nat) (ro : List (Nat × Blk)) : Prop := ∀ {Q : Bool → AW → Prop} {E : List PanicEntry → AW → Prop} {aw : AW} {l : List (Nat × Blk)}, Hp aw0 own ro aw l → Q true aw → CallP prog 5 [] aw sh5 Q E
theorem ba_size (l : List UInt8) : (BA l).size = l.length := by simp [ByteArray.size, BA]
theorem encU_le (n : Nat) (h : n < 2 ^ 64) : (encU n).length ≤ 9 := encU_len h
theorem encBs_le : ∀ (l : List Bnd), (∀ b ∈ l, b.1.length + b.2.1.length + b.2.2.length ≤ 5000) → (encBs l).length ≤ l.length * 5027
  | [], _ => by simp [encBs]
  | x :: l, h => by
    have h1 := h x (List.mem_cons_self ..)
    have h2 := encBs_le l fun b hb => h b (List.mem_cons_of_mem _ hb)
    have a1 := encU_le x.1.length (by omega)
    have a2 := encU_le x.2.1.length (by omega)
    have a3 := encU_le x.2.2.length (by omega)
    have : (encBs (x :: l)).length = (encU x.1.length).length + x.1.length + ((encU x.2.1.length).length + x.2.1.length + ((encU x.2.2.length).length + x.2.2.length)) + (encBs l).length := by
      simp only [encBs, List.flatMap_cons, encBnd, encB, List.length_append]
    rw [this, List.length_cons, Nat.add_mul]
    omega
theorem zig_lt' {n : Int} (h : -9223372036854775808 ≤ n ∧ n < 9223372036854775808) : zig n < 2 ^ 64 := zig_lt h.1 h.2
theorem encMs_le : ∀ (l : List (Bool × Int)), (∀ x ∈ l, -9223372036854775808 ≤ x.2 ∧ x.2 < 9223372036854775808) → (encMs l).length ≤ l.length * 18
  | [], _ => by simp [encMs]
  | x :: l, h => by
    have h2 := encMs_le l fun b hb => h b (List.mem_cons_of_mem _ hb)
    have a1 := encU_le (zig x.2) (zig_lt' (h x (List.mem_cons_self ..)))
    have a2 : (encU (bif x.1 then 1 else 0)).length ≤ 9 := encU_le _ (by cases x.1 <;> decide)
    have : (encMs (x :: l)).length = (encU (bif x.1 then 1 else 0)).length + (encU (zig x.2)).length + (encMs l).length := by
      simp only [encMs, List.flatMap_cons, encMv, List.length_append]
    rw [this, List.length_cons, Nat.add_mul]
    omega
section
variable {aw0 aw : AW} {ro l L S : List (Nat × Blk)} {own : List Nat} {E : List PanicEntry → AW → Prop}
  {e a : Int} {r u : List UInt8} {bv mv : Value} {binds : List Bnd} {moves : List (Bool × Int)} {ob : Nat} {Q : Bool → AW → Prop}
theorem replies_end {nx1 : Value → Int → AW → Prop} (he : -9223372036854775808 ≤ e ∧ e < 9223372036854775808) (ha : -9223372036854775808 ≤ a ∧ a < 9223372036854775808) (hr : ∀ x ∈ moves, -9223372036854775808 ≤ x.2 ∧ x.2 < 9223372036854775808)
    (h300 : binds.length + moves.length ≤ 300) (h5 : u.length + r.length ≤ 5000) (hb5 : ∀ b ∈ binds, b.1.length + b.2.1.length + b.2.2.length ≤ 5000) (hB : Fs aw0 own ro S 3 bv binds.length (bcs binds)) (hM : Fs aw0 own ro S 2 mv moves.length (mcs moves)) (hS : ∀ p ∈ S, p ∈ l)
    (M : Hp aw0 own ro aw ((ob, OBk e a r bv u mv) :: l)) (hQ : ∀ aw', Q true aw') : S3_1s Q E nx1 (P0 ob) (binds.length : Int) aw := by
  unfold S3_1s
  refine fldA_x (ldV_x (M.im .here) (by repeat constructor) (slen_f hB (cnd_0x (by simp) ?_)))
  refine ptr_x (gI_x (M.im .here) (by repeat constructor) (gI_x (M.im .here) (by repeat constructor) (gS_x (M.im .here) (by repeat constructor) (gV_x (M.im .here) (by repeat constructor) (gS_x (M.im .here) (by repeat constructor) (gV_x (M.im .here) (by repeat constructor) ?_))))))
  obtain ⟨o, ho⟩ : ∃ o : Outc, o = ⟨e, a, r, binds, u, moves⟩ := ⟨_, rfl⟩
  obtain ⟨whole, hw⟩ : ∃ w, w = encO ⟨e, a, r, binds, u, moves⟩ := ⟨_, rfl⟩
  have hlen : whole.length < 2 ^ 40 := by
    have a1 := encBs_le binds hb5
    have a2 := encMs_le moves hr
    have a3 := encU_le (zig e) (zig_lt' he)
    have a4 := encU_le (zig a) (zig_lt' ha)
    have a5 := encU_le r.length (by omega)
    have a6 := encU_le u.length (by omega)
    have a7 := encU_le binds.length (by omega)
    have a8 := encU_le moves.length (by omega)
    rw [hw]
    simp only [encO, encB, List.length_append]
    have b1 : binds.length * 5027 ≤ 300 * 5027 := Nat.mul_le_mul_right _ (by omega)
    have b2 : moves.length * 18 ≤ 300 * 18 := Nat.mul_le_mul_right _ (by omega)
    omega
  have hback : rdO whole = (⟨e, a, r, binds, u, moves⟩, some []) := by
    rw [hw]
    refine rdO_enc ⟨he, ha, hr⟩ ?_ ?_ (by simp only; omega) (by simp only; omega) fun b hb => ?_
    · show r.length ≤ 1048576; omega
    · show u.length ≤ 1048576; omega
    · have := hb5 b hb
      show b.1.length ≤ 1048576 ∧ b.2.1.length ≤ 1048576 ∧ b.2.2.length ≤ 1048576
      omega
  have hS1 : ∀ p ∈ S, p ∈ (ob, OBk e a r bv u mv) :: l := fun p hp => List.mem_cons_of_mem _ (hS p hp)
  refine reply_x M he ha hr (by omega) (by omega) (by rw [← hw]; exact hlen) hB hM hS1 fun v1 L1 aw1 h1 M1 => ?_
  rw [← hw] at h1
  refine read_x (S := L1) (bs := whole) (.inl h1.rs) (ob_one h1) (by omega) (fun p hp => List.mem_append.2 (.inl hp)) M1 ⟨?_, fun h => absurd (by rw [hback]) h⟩
  rw [hback]
  intro bv2 mv2 LB LM aw2 _ hB2 hM2 M2
  refine alc_x M2 fun qb aw3 M3 => st_x M3 .here (by repeat constructor) rfl rfl (by show (true && (true && (true && (one bv2 && (true && (one mv2 && true)))))) = true; rw [hB2.one', hM2.one']; rfl) fun aw4 M4 => ?_
  have M4 : Hp aw0 own ro aw4 ((qb, OBk e a r bv2 u mv2) :: (LB ++ (LM ++ (L1 ++ ((ob, OBk e a r bv u mv) :: l))))) := M4
  have hL1 : ∀ p ∈ L1, p ∈ (qb, OBk e a r bv2 u mv2) :: (LB ++ (LM ++ (L1 ++ ((ob, OBk e a r bv u mv) :: l)))) := fun p hp => by simp [hp]
  have hS4 : ∀ p ∈ S, p ∈ (qb, OBk e a r bv2 u mv2) :: (LB ++ (LM ++ (L1 ++ ((ob, OBk e a r bv u mv) :: l)))) := fun p hp => by simp [hS p hp]
  refine toS_b (h1.rs _ _ M4 hL1) ?_
  have at4 : At ((qb, OBk e a r bv2 u mv2) :: (LB ++ (LM ++ (L1 ++ ((ob, OBk e a r bv u mv) :: l))))) ob (OBk e a r bv u mv) := .there (At.app (At.app (At.app .here)))
  refine ptr_x (gI_x (M4.im at4) (by repeat constructor) (gI_x (M4.im at4) (by repeat constructor) (gS_x (M4.im at4) (by repeat constructor) (gV_x (M4.im at4) (by repeat constructor) (gS_x (M4.im at4) (by repeat constructor) (gV_x (M4.im at4) (by repeat constructor) ?_))))))
  refine rreply_x M4 he ha hr (by omega) (by omega) (by rw [← hw]; exact hlen) hB hM hS4 fun v3 L3 aw5 h3 M5 => ?_
  rw [← hw] at h3
  refine againS_b (h1.rs _ _ M5 fun p hp => List.mem_append.2 (.inr (hL1 p hp))) ?_
  refine toS_b (h3.rs _ _ M5 fun p hp => List.mem_append.2 (.inl hp)) (cnd_1x (by simp) (cnd_1x (by simp) ?_))
  have at5 : At (L3 ++ ((qb, OBk e a r bv2 u mv2) :: (LB ++ (LM ++ (L1 ++ ((ob, OBk e a r bv u mv) :: l)))))) ob (OBk e a r bv u mv) := At.app at4
  have at6 : At (L3 ++ ((qb, OBk e a r bv2 u mv2) :: (LB ++ (LM ++ (L1 ++ ((ob, OBk e a r bv u mv) :: l)))))) qb (OBk e a r bv2 u mv2) := At.app .here
  refine ptr_x (gI_x (M5.im at5) (by repeat constructor) (gI_x (M5.im at5) (by repeat constructor) (gS_x (M5.im at5) (by repeat constructor) (gV_x (M5.im at5) (by repeat constructor) (gS_x (M5.im at5) (by repeat constructor) (gV_x (M5.im at5) (by repeat constructor) ?_))))))
  refine ptr_x (gI_x (M5.im at6) (by repeat constructor) (gI_x (M5.im at6) (by repeat constructor) (gS_x (M5.im at6) (by repeat constructor) (gV_x (M5.im at6) (by repeat constructor) (gS_x (M5.im at6) (by repeat constructor) (gV_x (M5.im at6) (by repeat constructor) ?_))))))
  refine same_x (S := S ++ (LB ++ LM)) (by omega) (by omega) (hB.more fun p hp => by simp [hp]) ((hB2.fs (L := LB)).more fun p hp => by simp [hp]) (hM.more fun p hp => by simp [hp]) ((hM2.fs (L := LM)).more fun p hp => by simp [hp]) (fun p hp => ?_) M5 fun aw' _ => hQ aw'
  simp only [List.mem_append] at hp
  rcases hp with hp | hp | hp
  · simp [hS p hp]
  · simp [hp]
  · simp [hp]
theorem replies_loop (he : -9223372036854775808 ≤ e ∧ e < 9223372036854775808) (ha : -9223372036854775808 ≤ a ∧ a < 9223372036854775808) (hr : ∀ x ∈ moves, -9223372036854775808 ≤ x.2 ∧ x.2 < 9223372036854775808)
    (h300 : binds.length + moves.length ≤ 300) (h5 : u.length + r.length ≤ 5000) (hbl : ∀ b ∈ binds, b.1.length < 2 ^ 60 ∧ b.2.1.length < 2 ^ 60 ∧ b.2.2.length < 2 ^ 60) (hB : Fs aw0 own ro S 3 bv binds.length (bcs binds)) (hM : Fs aw0 own ro S 2 mv moves.length (mcs moves)) (hS : ∀ p ∈ S, p ∈ l)
    (M : Hp aw0 own ro aw ((ob, OBk e a r bv u mv) :: l)) (hQ : ∀ aw', Q true aw') : ∀ (todo done : List Bnd), binds = done ++ todo → (∀ b ∈ done, b.1.length + b.2.1.length + b.2.2.length ≤ 5000) → S3_1 Q E (todo.length + 1) (P0 ob) (done.length : Int) aw
  | [], done, hd, hd5 => by
    show S3_1s Q E (S3_1 Q E 0) _ _ aw
    rw [List.append_nil] at hd
    have := replies_end (nx1 := S3_1 Q E 0) (E := E) he ha hr h300 h5 (by rw [hd]; exact hd5) hB hM hS M hQ
    rw [show binds.length = done.length by rw [hd]] at this
    exact this
  | x :: todo, done, hd, hd5 => by
    show S3_1s Q E (S3_1 Q E (todo.length + 1)) _ _ aw
    have hlen : binds.length = done.length + (todo.length + 1) := by rw [hd]; simp
    have hx := nth_mid hd
    have hxm : x ∈ binds := by rw [hd]; simp
    have hS' : ∀ p ∈ S, p ∈ (ob, OBk e a r bv u mv) :: l := fun p hp => List.mem_cons_of_mem _ (hS p hp)
    obtain ⟨b1, b2, b3⟩ := hbl x hxm
    unfold S3_1s
    refine fldA_x (ldV_x (M.im .here) (by repeat constructor) (slen_f hB (cnd_1x (by rw [hlen]; simp; omega) ?_)))
    refine fldA_x (ldV_x (M.im .here) (by repeat constructor) (ix_f hB rfl (by omega) fun b o hg => fldA_x ⟨_, _, _, rfl, hg aw _ M hS' 0 _ (bcs_get hx (k := 0) rfl), ?_⟩))
    refine fldA_x (ldV_x (M.im .here) (by repeat constructor) (ix_f hB rfl (by omega) fun b o hg => fldA_x ⟨_, _, _, rfl, hg aw _ M hS' 1 _ (bcs_get hx (k := 1) rfl), ?_⟩))
    refine fldA_x (ldV_x (M.im .here) (by repeat constructor) (ix_f hB rfl (by omega) fun b o hg => fldA_x ⟨_, _, _, rfl, hg aw _ M hS' 2 _ (bcs_get hx (k := 2) rfl), ?_⟩))
    simp only [ba_size]
    rw [i64_in (n := ((x.1.length : Int) + (x.2.1.length : Int))) (by omega) (by omega), i64_in (by omega) (by omega)]
    by_cases hc : 5000 < x.1.length + x.2.1.length + x.2.2.length
    · exact cnd_1x (decide_eq_true (by omega)) (hQ _)
    · refine cnd_0x (decide_eq_false (by omega)) ?_
      rw [i64_s (by omega)]
      have := replies_loop he ha hr h300 h5 hbl hB hM hS M hQ todo (done ++ [x]) (by rw [hd]; simp) fun b hb => by
        rcases List.mem_append.1 hb with h | h
        · exact hd5 b h
        · obtain rfl := List.mem_singleton.1 h; omega
      rw [show (done ++ [x]).length = done.length + 1 by simp] at this
      exact this
theorem replies_x (hA : AwkN aw0 own ro) (M : Hp aw0 own ro aw l) (he : -9223372036854775808 ≤ e ∧ e < 9223372036854775808) (ha : -9223372036854775808 ≤ a ∧ a < 9223372036854775808) (hr : ∀ x ∈ moves, -9223372036854775808 ≤ x.2 ∧ x.2 < 9223372036854775808)
    (hrl : r.length < 2 ^ 60) (hul : u.length < 2 ^ 60) (hnb : binds.length < 2 ^ 60) (hnm : moves.length < 2 ^ 60) (hbl : ∀ b ∈ binds, b.1.length < 2 ^ 60 ∧ b.2.1.length < 2 ^ 60 ∧ b.2.2.length < 2 ^ 60) (hB : Fs aw0 own ro S 3 bv binds.length (bcs binds)) (hM : Fs aw0 own ro S 2 mv moves.length (mcs moves)) (hS : ∀ p ∈ S, p ∈ l)
    (hQ : ∀ aw', Q true aw') : CallP prog 3 [.agg #[.int .i64 e, .int .i64 a, .string (BA r), bv, .string (BA u), mv]] aw sh3 Q E := by
  refine F3_ok _ _ _ _ _ _ aw ?_
  unfold S3_0
  refine alc_x M fun ob aw1 M1 => ?_
  have M1 : Hp aw0 own ro aw1 ((ob, OBk e a r bv u mv) :: l) := M1
  refine hA M1 (cnd_0x rfl ?_)
  refine fldA_x (ldV_x (M1.im .here) (by repeat constructor) (slen_f hB (fldA_x (ldV_x (M1.im .here) (by repeat constructor) (slen_f hM ?_)))))
  rw [i64_in (by omega) (by omega)]
  by_cases hc : 300 < binds.length + moves.length
  · exact cnd_1x (decide_eq_true (by omega)) (hA M1 (hQ _))
  refine cnd_0x (decide_eq_false (by omega)) ?_
  refine fldA_x (ldS_x (M1.im .here) (by repeat constructor) (fldA_x (ldS_x (M1.im .here) (by repeat constructor) ?_)))
  simp only [ba_size]
  rw [i64_in (by omega) (by omega)]
  by_cases hc2 : 5000 < u.length + r.length
  · exact cnd_1x (decide_eq_true (by omega)) (hA M1 (hQ _))
  refine cnd_0x (decide_eq_false (by omega)) ⟨binds.length + 1, ?_⟩
  exact replies_loop he ha hr (by omega) (by omega) hbl hB hM hS M1 hQ binds [] rfl fun b hb => by cases hb
end
end Go.Proofs.Tryz
