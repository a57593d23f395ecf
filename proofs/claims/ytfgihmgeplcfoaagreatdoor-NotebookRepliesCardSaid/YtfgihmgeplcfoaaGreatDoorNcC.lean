/- The document's reply: an outcome as bytes. -/
import Derived.Test.YtfgihmgeplcfoaaGreatDoorNcA
import Derived.Test.YtfgihmgeplcfoaaGreatDoorNbW3
set_option linter.unusedSimpArgs false
set_option linter.unusedVariables false
set_option linter.unusedSectionVars false
namespace Go.Proofs.Tryz
open Go Go.Am Go.RowKit Go.Oc
variable [SymE]
section
variable {aw0 aw : AW} {own : List Nat} {ro l L L1 S : List (Nat × Blk)} {E : List PanicEntry → AW → Prop} {v pv xv : Value} {bs cs : List UInt8} {ob : Nat}
  {e a : Int} {r u : List UInt8} {bv mv : Value} {binds : List Bnd} {moves : List (Bool × Int)} {whole : List UInt8}
theorem app_step {K : Value → AW → Prop} (ho : Ob 5 pv bs L) (h1 : Ob 5 xv cs L1) (hl : bs.length + cs.length < 2 ^ 44) (M : Hp aw0 own ro aw (L1 ++ (L ++ l))) (hK : ∀ v' L' aw', Ob 5 v' (bs ++ cs) L' → Hp aw0 own ro aw' (L' ++ l) → K v' aw') : app aw 5 1 1 pv xv K := by
  have M1 : Hp aw0 own ro aw (L ++ (L1 ++ l)) := M.perm (by classical exact List.perm_iff_count.2 fun a => by simp only [List.count_append, List.count_cons]; omega)
  refine app_ob (cs := cs) ho M1 (h1.rs _ _ M fun p hp => List.mem_append.2 (.inl hp)).src hl fun v' L' aw2 h2 _ M2 => ?_
  have M3 : Hp aw0 own ro aw2 (L1 ++ (L' ++ l)) := M2.perm (by classical exact List.perm_iff_count.2 fun a => by simp only [List.count_append, List.count_cons]; omega)
  exact hK v' L' aw2 h2 M3.dropL
theorem text_step {K : Value → AW → Prop} (ho : Ob 5 pv bs L) (hc : cs.length < 2 ^ 40) (hl : bs.length + (encB cs).length < 2 ^ 44) (M : Hp aw0 own ro aw (L ++ l)) (hK : ∀ v' L' aw', Ob 5 v' (bs ++ encB cs) L' → Hp aw0 own ro aw' (L' ++ l) → K v' aw') :
    toB aw (BA cs) 5 fun p aw1 => CallP prog 24 [p] aw1 sh24 (fun r aw2 => app aw2 5 1 1 pv r K) E := by
  refine toB_x M fun v' B aw1 h1 M1 => ?_
  refine r_bytes hc M1 (S := [B]) h1.rs.w (fun p hp => by obtain rfl := List.mem_singleton.1 hp; exact List.mem_cons_self ..) fun v2 L2 aw2 h2 M2 => ?_
  have M3 : Hp aw0 own ro aw2 (B :: (L2 ++ (L ++ l))) := M2.perm (by classical exact List.perm_iff_count.2 fun a => by simp only [List.count_append, List.count_cons]; omega)
  exact app_step ho h2 hl (M3.drop .here) hK
theorem rr_m {Q : Value → AW → Prop} (hw : whole.length < 2 ^ 40) (hr : ∀ x ∈ moves, -9223372036854775808 ≤ x.2 ∧ x.2 < 9223372036854775808) (hn : moves.length < 2 ^ 60) (hM : Fs aw0 own ro S 2 mv moves.length (mcs moves)) (hS : ∀ p ∈ S, p ∈ l)
    (hQ : ∀ v' L' aw', Ob 5 v' whole L' → Hp aw0 own ro aw' (L' ++ l) → Q v' aw') : ∀ (todo done : List (Bool × Int)), moves = done ++ todo → ∀ (aw : AW) (pv : Value) (L : List (Nat × Blk)) (bs : List UInt8), Ob 5 pv bs L → whole = bs ++ encMs todo →
      Hp aw0 own ro aw (L ++ ((ob, OBk e a r bv u mv) :: l)) → S8_2 Q E (todo.length + 1) (P0 ob) pv (done.length : Int) aw
  | [], done, hd, aw, pv, L, bs, ho, he, M => by
    show S8_2s Q E (S8_2 Q E 0) _ _ _ aw
    unfold S8_2s
    have hlen : moves.length = done.length := by rw [hd]; simp
    refine fldA_x (ldV_x (M.im (At.app .here)) (by repeat constructor) (slen_f hM (cnd_0x (by rw [hlen]; simp) ?_)))
    have he : whole = bs := by simpa [encMs] using he
    subst he
    have M2 : Hp aw0 own ro aw ((ob, OBk e a r bv u mv) :: (L ++ l)) := M.perm (by classical exact List.perm_iff_count.2 fun a => by simp only [List.count_append, List.count_cons]; omega)
    exact hQ _ _ _ ho (M2.drop .here)
  | x :: todo, done, hd, aw, pv, L, bs, ho, he, M => by
    show S8_2s Q E (S8_2 Q E (todo.length + 1)) _ _ _ aw
    unfold S8_2s
    have hlen : moves.length = done.length + (todo.length + 1) := by rw [hd]; simp
    have hx := nth_mid hd
    have hxm : x ∈ moves := by rw [hd]; simp
    have hS' : ∀ (L : List (Nat × Blk)), ∀ p ∈ S, p ∈ (L ++ ((ob, OBk e a r bv u mv) :: l)) := fun L p hp => List.mem_append.2 (.inr (List.mem_cons_of_mem _ (hS p hp)))
    refine fldA_x (ldV_x (M.im (At.app .here)) (by repeat constructor) (slen_f hM (cnd_1x (by rw [hlen]; simp; omega) ?_)))
    refine fldA_x (ldV_x (M.im (At.app .here)) (by repeat constructor) (ix_f hM rfl (by omega) fun b o hg => fldA_x ⟨_, _, _, rfl, hg aw _ M (hS' _) 0 _ (mcs_get hx (k := 0) rfl), ?_⟩))
    have he' : whole = bs ++ (encU (bif x.1 then 1 else 0) ++ (encU (zig x.2) ++ encMs todo)) := by rw [he]; simp [encMs, encMv]
    have hwl : whole.length = bs.length + ((encU (bif x.1 then 1 else 0)).length + ((encU (zig x.2)).length + (encMs todo).length)) := by rw [he']; simp only [List.length_append]
    have fin : ∀ (aw3 : AW) (pv1 : Value) (L1 : List (Nat × Blk)), Ob 5 pv1 (bs ++ encU (bif x.1 then 1 else 0)) L1 → Hp aw0 own ro aw3 (L1 ++ ((ob, OBk e a r bv u mv) :: l)) →
        S8_3 Q E (S8_2 Q E (todo.length + 1)) (P0 ob) pv1 (done.length : Int) aw3 := by
      intro aw3 pv1 L1 h1 M4
      unfold S8_3
      refine fldA_x (ldV_x (M4.im (At.app .here)) (by repeat constructor) (ix_f hM rfl (by omega) fun b o hg => fldA_x ⟨_, _, _, rfl, hg aw3 _ M4 (hS' _) 1 _ (mcs_get hx (k := 1) rfl), ?_⟩))
      refine r_int (hr x hxm).1 (hr x hxm).2 M4 fun v2 L2 aw4 h2 M5 => ?_
      refine app_step h1 h2 (by simp only [List.length_append]; omega) M5 fun v3 L3 aw5 h3 M6 => ?_
      rw [i64_s (by omega)]
      have := rr_m hw hr hn hM hS hQ todo (done ++ [x]) (by rw [hd]; simp) aw5 v3 L3 _ h3 (by rw [he']; simp) M6
      rw [show (done ++ [x]).length = done.length + 1 by simp] at this
      exact this
    cases hb : x.1 with
    | true =>
      have hb1 : (encU (bif x.1 then 1 else 0)) = encU 1 := by rw [hb]; rfl
      refine cnd_1x rfl (r_uint (n0 := 1) (by decide) M fun v2 L2 aw2 h2 M2 => ?_)
      refine app_step ho h2 (by rw [hb1] at hwl; omega) M2 fun v3 L3 aw3 h3 M3 => fin aw3 v3 L3 (by rw [hb1]; exact h3) M3
    | false =>
      have hb1 : (encU (bif x.1 then 1 else 0)) = encU 0 := by rw [hb]; rfl
      refine cnd_0x rfl (r_uint (n0 := 0) (by decide) M fun v2 L2 aw2 h2 M2 => ?_)
      refine app_step ho h2 (by rw [hb1] at hwl; omega) M2 fun v3 L3 aw3 h3 M3 => fin aw3 v3 L3 (by rw [hb1]; exact h3) M3
theorem encB_len' (l : List UInt8) : l.length ≤ (encB l).length := by unfold encB; simp
theorem rr_b {Q : Value → AW → Prop} (hw : whole.length < 2 ^ 40) (hr : ∀ x ∈ moves, -9223372036854775808 ≤ x.2 ∧ x.2 < 9223372036854775808) (hn : moves.length < 2 ^ 60) (hnb : binds.length < 2 ^ 60) (hB : Fs aw0 own ro S 3 bv binds.length (bcs binds)) (hM : Fs aw0 own ro S 2 mv moves.length (mcs moves)) (hS : ∀ p ∈ S, p ∈ l)
    (hQ : ∀ v' L' aw', Ob 5 v' whole L' → Hp aw0 own ro aw' (L' ++ l) → Q v' aw') : ∀ (todo done : List Bnd), binds = done ++ todo → ∀ (aw : AW) (pv : Value) (L : List (Nat × Blk)) (bs : List UInt8), Ob 5 pv bs L → whole = bs ++ (encBs todo ++ (encB u ++ (encU moves.length ++ encMs moves))) →
      Hp aw0 own ro aw (L ++ ((ob, OBk e a r bv u mv) :: l)) → S8_1 Q E (todo.length + 1) (P0 ob) pv (done.length : Int) aw
  | [], done, hd, aw, pv, L, bs, ho, he, M => by
    show S8_1s Q E (S8_1 Q E 0) _ _ _ aw
    unfold S8_1s
    have hlen : binds.length = done.length := by rw [hd]; simp
    refine fldA_x (ldV_x (M.im (At.app .here)) (by repeat constructor) (slen_f hB (cnd_0x (by rw [hlen]; simp) ?_)))
    have he : whole = bs ++ (encB u ++ (encU moves.length ++ encMs moves)) := by simpa [encBs] using he
    have hwl : whole.length = bs.length + ((encB u).length + ((encU moves.length).length + (encMs moves).length)) := by rw [he]; simp only [List.length_append]
    have hu := encB_len' u
    refine fldA_x (ldS_x (M.im (At.app .here)) (by repeat constructor) ?_)
    refine text_step ho (by omega) (by omega) M fun v1 L1 aw1 h1 M1 => ?_
    refine fldA_x (ldV_x (M1.im (At.app .here)) (by repeat constructor) (slen_f hM ?_))
    rw [u64_nat (by omega)]
    refine r_uint (by omega) M1 fun v2 L2 aw2 h2 M2 => ?_
    refine app_step h1 h2 (by simp only [List.length_append]; omega) M2 fun v3 L3 aw3 h3 M3 => ⟨moves.length + 1, ?_⟩
    exact rr_m hw hr hn hM hS hQ moves [] rfl aw3 v3 L3 _ h3 (by rw [he]; simp) M3
  | x :: todo, done, hd, aw, pv, L, bs, ho, he, M => by
    show S8_1s Q E (S8_1 Q E (todo.length + 1)) _ _ _ aw
    unfold S8_1s
    have hlen : binds.length = done.length + (todo.length + 1) := by rw [hd]; simp
    have hx := nth_mid hd
    have hS' : ∀ (L : List (Nat × Blk)), ∀ p ∈ S, p ∈ (L ++ ((ob, OBk e a r bv u mv) :: l)) := fun L p hp => List.mem_append.2 (.inr (List.mem_cons_of_mem _ (hS p hp)))
    have he' : whole = bs ++ (encB x.1 ++ (encB x.2.1 ++ (encB x.2.2 ++ (encBs todo ++ (encB u ++ (encU moves.length ++ encMs moves)))))) := by rw [he]; simp [encBs, encBnd]
    have hwl : whole.length = bs.length + ((encB x.1).length + ((encB x.2.1).length + ((encB x.2.2).length + ((encBs todo).length + ((encB u).length + ((encU moves.length).length + (encMs moves).length)))))) := by rw [he']; simp only [List.length_append]
    have l1 := encB_len' x.1
    have l2 := encB_len' x.2.1
    have l3 := encB_len' x.2.2
    refine fldA_x (ldV_x (M.im (At.app .here)) (by repeat constructor) (slen_f hB (cnd_1x (by rw [hlen]; simp; omega) ?_)))
    refine fldA_x (ldV_x (M.im (At.app .here)) (by repeat constructor) (ix_f hB rfl (by omega) fun b o hg => fldA_x ⟨_, _, _, rfl, hg aw _ M (hS' _) 0 _ (bcs_get hx (k := 0) rfl), ?_⟩))
    refine text_step ho (by omega) (by omega) M fun v1 L1 aw1 h1 M1 => ?_
    refine fldA_x (ldV_x (M1.im (At.app .here)) (by repeat constructor) (ix_f hB rfl (by omega) fun b o hg => fldA_x ⟨_, _, _, rfl, hg aw1 _ M1 (hS' _) 1 _ (bcs_get hx (k := 1) rfl), ?_⟩))
    refine text_step h1 (by omega) (by simp only [List.length_append]; omega) M1 fun v2 L2 aw2 h2 M2 => ?_
    refine fldA_x (ldV_x (M2.im (At.app .here)) (by repeat constructor) (ix_f hB rfl (by omega) fun b o hg => fldA_x ⟨_, _, _, rfl, hg aw2 _ M2 (hS' _) 2 _ (bcs_get hx (k := 2) rfl), ?_⟩))
    refine text_step h2 (by omega) (by simp only [List.length_append]; omega) M2 fun v3 L3 aw3 h3 M3 => ?_
    rw [i64_s (by omega)]
    have := rr_b hw hr hn hnb hB hM hS hQ todo (done ++ [x]) (by rw [hd]; simp) aw3 v3 L3 _ h3 (by rw [he']; simp) M3
    rw [show (done ++ [x]).length = done.length + 1 by simp] at this
    exact this
theorem rreply_x {Q : Value → AW → Prop} (M : Hp aw0 own ro aw l) (he : -9223372036854775808 ≤ e ∧ e < 9223372036854775808) (ha : -9223372036854775808 ≤ a ∧ a < 9223372036854775808) (hr : ∀ x ∈ moves, -9223372036854775808 ≤ x.2 ∧ x.2 < 9223372036854775808) (hn : moves.length < 2 ^ 60) (hnb : binds.length < 2 ^ 60)
    (hw : (encO ⟨e, a, r, binds, u, moves⟩).length < 2 ^ 40) (hB : Fs aw0 own ro S 3 bv binds.length (bcs binds)) (hM : Fs aw0 own ro S 2 mv moves.length (mcs moves)) (hS : ∀ p ∈ S, p ∈ l)
    (hQ : ∀ v' L' aw', Ob 5 v' (encO ⟨e, a, r, binds, u, moves⟩) L' → Hp aw0 own ro aw' (L' ++ l) → Q v' aw') : CallP prog 8 [.agg #[.int .i64 e, .int .i64 a, .string (BA r), bv, .string (BA u), mv]] aw sh8 Q E := by
  refine F8_ok _ _ _ _ _ _ aw ?_
  unfold S8_0
  obtain ⟨whole, hwh⟩ : ∃ w, w = encO ⟨e, a, r, binds, u, moves⟩ := ⟨_, rfl⟩
  rw [← hwh] at hw hQ
  have hwl : whole.length = (encU (zig e)).length + ((encU (zig a)).length + ((encB r).length + ((encU binds.length).length + ((encBs binds).length + ((encB u).length + ((encU moves.length).length + (encMs moves).length)))))) := by rw [hwh]; simp only [encO, List.length_append]
  have l1 := encB_len' r
  refine alc_x M fun ob aw1 M1 => ?_
  have M1 : Hp aw0 own ro aw1 ((ob, OBk e a r bv u mv) :: l) := M1
  refine fldA_x (ldI_x (M1.im .here) (by repeat constructor) (r_int he.1 he.2 M1 fun v1 L1 aw2 h1 M2 => ?_))
  refine fldA_x (ldI_x (M2.im (At.app .here)) (by repeat constructor) (r_int ha.1 ha.2 M2 fun v2 L2 aw3 h2 M3 => ?_))
  refine app_step h1 h2 (by omega) M3 fun v3 L3 aw4 h3 M4 => ?_
  refine fldA_x (ldS_x (M4.im (At.app .here)) (by repeat constructor) ?_)
  refine text_step h3 (by omega) (by simp only [List.length_append]; omega) M4 fun v4 L4 aw5 h4 M5 => ?_
  refine fldA_x (ldV_x (M5.im (At.app .here)) (by repeat constructor) (slen_f hB ?_))
  rw [u64_nat (by omega)]
  refine r_uint (by omega) M5 fun v5 L5 aw6 h5 M6 => ?_
  refine app_step h4 h5 (by simp only [List.length_append]; omega) M6 fun v6 L6 aw7 h6 M7 => ⟨binds.length + 1, ?_⟩
  exact rr_b hw hr hn hnb hB hM hS hQ binds [] rfl aw7 v6 L6 _ h6 (by rw [hwh]; simp [encO]) M7
end
end Go.Proofs.Tryz
