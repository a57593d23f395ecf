/- notebook.Reply: the loop over the bindings, the whole. -/
import Derived.Test.YtfgihmgeplcfoaaGreatDoorNcA
set_option linter.unusedSimpArgs false
set_option linter.unusedVariables false
set_option linter.unusedSectionVars false
namespace Go.Proofs.Tryz
open Go Go.Am Go.RowKit Go.Oc
variable [SymE]
section
variable {aw0 aw : AW} {own : List Nat} {ro l L S : List (Nat × Blk)} {E : List PanicEntry → AW → Prop} {v pv : Value} {bs cs : List UInt8} {wb ob : Nat}
  {e a : Int} {r u : List UInt8} {bv mv : Value} {binds : List Bnd} {moves : List (Bool × Int)} {whole : List UInt8}
theorem encB_len (l : List UInt8) : l.length ≤ (encB l).length := by unfold encB; simp
theorem reply_b {Q : Value → AW → Prop} (hw : whole.length < 2 ^ 40) (hr : ∀ x ∈ moves, -9223372036854775808 ≤ x.2 ∧ x.2 < 9223372036854775808) (hn : moves.length < 2 ^ 60) (hnb : binds.length < 2 ^ 60) (hB : Fs aw0 own ro S 3 bv binds.length (bcs binds)) (hM : Fs aw0 own ro S 2 mv moves.length (mcs moves)) (hS : ∀ p ∈ S, p ∈ l)
    (hQ : ∀ v' L' aw', Ob 5 v' whole L' → Hp aw0 own ro aw' (L' ++ l) → Q v' aw') : ∀ (todo done : List Bnd), binds = done ++ todo → ∀ (aw : AW) (pv : Value) (L : List (Nat × Blk)) (bs : List UInt8), Ob 5 pv bs L → whole = bs ++ (encBs todo ++ (encB u ++ (encU moves.length ++ encMs moves))) →
      Hp aw0 own ro aw ((wb, WBk pv) :: (L ++ ((ob, OBk e a r bv u mv) :: l))) → S6_1 Q E (todo.length + 1) (P0 ob) (P0 wb) bv (binds.length : Int) (done.length : Int) aw
  | [], done, hd, aw, pv, L, bs, ho, he, M => by
    show S6_1s Q E (S6_1 Q E 0) _ _ _ _ _ aw
    unfold S6_1s
    have hlen : binds.length = done.length := by rw [hd]; simp
    refine cnd_0x (by rw [hlen]; simp) ?_
    have he : whole = bs ++ (encB u ++ (encU moves.length ++ encMs moves)) := by simpa [encBs] using he
    have hwl : whole.length = bs.length + ((encB u).length + ((encU moves.length).length + (encMs moves).length)) := by rw [he]; simp only [List.length_append]
    have hu := encB_len u
    refine fldA_x (ldS_x (M.im (.there (At.app .here))) (by repeat constructor) (fldA_x (ldV_x (M.im (.there (At.app .here))) (by repeat constructor) (slen_f hM ?_))))
    refine wtext_x (by omega) (by omega) ho M fun pv1 L1 aw1 h1 M1 => ?_
    refine again_x (M1.im (.there (At.app .here))) (by repeat constructor) ?_
    rw [u64_nat (by omega)]
    refine wuint_x (by omega) (by simp; omega) h1 M1 fun pv2 L2 aw2 h2 M2 => ?_
    refine fldA_x (ldV_x (M2.im (.there (At.app .here))) (by repeat constructor) (slen_f hM ⟨moves.length + 1, ?_⟩))
    exact reply_m hw hr hn hM hS hQ moves [] rfl aw2 pv2 L2 _ h2 (by rw [he]; simp) M2
  | x :: todo, done, hd, aw, pv, L, bs, ho, he, M => by
    show S6_1s Q E (S6_1 Q E (todo.length + 1)) _ _ _ _ _ aw
    unfold S6_1s
    have hlen : binds.length = done.length + (todo.length + 1) := by rw [hd]; simp
    have hx := nth_mid hd
    refine cnd_1x (by rw [hlen]; simp; omega) ?_
    have hS' : ∀ p ∈ S, p ∈ (wb, WBk pv) :: (L ++ ((ob, OBk e a r bv u mv) :: l)) := fun p hp => List.mem_cons_of_mem _ (List.mem_append.2 (.inr (List.mem_cons_of_mem _ (hS p hp))))
    refine ix_f hB rfl (by omega) fun b o hg => ptr_x ⟨_, hg aw _ M hS' 0 _ (bcs_get hx (k := 0) rfl), ⟨_, hg aw _ M hS' 1 _ (bcs_get hx (k := 1) rfl), ⟨_, hg aw _ M hS' 2 _ (bcs_get hx (k := 2) rfl), ?_⟩⟩⟩
    refine alc_x M fun xb aw1 M1 => st_x M1 .here (by repeat constructor) rfl rfl rfl fun aw2 M2 => ?_
    refine fldA_x (ldS_x (M2.im .here) (by repeat constructor) (fldA_x (ldS_x (M2.im .here) (by repeat constructor) (fldA_x (ldS_x (M2.im .here) (by repeat constructor) ?_)))))
    have M3 := M2.perm (l' := (wb, WBk pv) :: (L ++ ((xb, ⟨bcell x, 29, 0, true, 0⟩) :: (ob, OBk e a r bv u mv) :: l))) (by
      show ((xb, ⟨bcell x, 29, 0, true, 0⟩) :: (wb, WBk pv) :: (L ++ ((ob, OBk e a r bv u mv) :: l))).Perm _
      classical exact List.perm_iff_count.2 fun a => by simp only [List.count_append, List.count_cons]; omega)
    have he' : whole = bs ++ (encB x.1 ++ (encB x.2.1 ++ (encB x.2.2 ++ (encBs todo ++ (encB u ++ (encU moves.length ++ encMs moves)))))) := by rw [he]; simp [encBs, encBnd]
    have hwl : whole.length = bs.length + ((encB x.1).length + ((encB x.2.1).length + ((encB x.2.2).length + ((encBs todo).length + ((encB u).length + ((encU moves.length).length + (encMs moves).length)))))) := by rw [he']; simp only [List.length_append]
    have l1 := encB_len x.1
    have l2 := encB_len x.2.1
    have l3 := encB_len x.2.2
    refine wtext_x (by omega) (by omega) ho M3 fun pv1 L1 aw3 h1 M4 => ?_
    refine again_x (M4.im (.there (At.app .here))) (by repeat constructor) (again_x (M4.im (.there (At.app .here))) (by repeat constructor) ?_)
    refine wtext_x (by simp only [List.length_append]; omega) (by omega) h1 M4 fun pv2 L2 aw4 h2 M5 => ?_
    refine again_x (M5.im (.there (At.app .here))) (by repeat constructor) ?_
    refine wtext_x (by simp only [List.length_append]; omega) (by omega) h2 M5 fun pv3 L3 aw5 h3 M6 => ?_
    have M7 : Hp aw0 own ro aw5 ((xb, ⟨bcell x, 29, 0, true, 0⟩) :: ((wb, WBk pv3) :: (L3 ++ ((ob, OBk e a r bv u mv) :: l)))) := M6.perm (by classical exact List.perm_iff_count.2 fun a => by simp only [List.count_append, List.count_cons]; omega)
    rw [i64_s (by omega)]
    have := reply_b hw hr hn hnb hB hM hS hQ todo (done ++ [x]) (by rw [hd]; simp) aw5 pv3 L3 _ h3 (by rw [he']; simp) (M7.drop .here)
    rw [show (done ++ [x]).length = done.length + 1 by simp] at this
    exact this
theorem reply_x {Q : Value → AW → Prop} (M : Hp aw0 own ro aw l) (he : -9223372036854775808 ≤ e ∧ e < 9223372036854775808) (ha : -9223372036854775808 ≤ a ∧ a < 9223372036854775808) (hr : ∀ x ∈ moves, -9223372036854775808 ≤ x.2 ∧ x.2 < 9223372036854775808) (hn : moves.length < 2 ^ 60) (hnb : binds.length < 2 ^ 60)
    (hw : (encO ⟨e, a, r, binds, u, moves⟩).length < 2 ^ 40) (hB : Fs aw0 own ro S 3 bv binds.length (bcs binds)) (hM : Fs aw0 own ro S 2 mv moves.length (mcs moves)) (hS : ∀ p ∈ S, p ∈ l)
    (hQ : ∀ v' L' aw', Ob 5 v' (encO ⟨e, a, r, binds, u, moves⟩) L' → Hp aw0 own ro aw' (L' ++ l) → Q v' aw') : CallP prog 6 [.agg #[.int .i64 e, .int .i64 a, .string (BA r), bv, .string (BA u), mv]] aw sh6 Q E := by
  refine F6_ok _ _ _ _ _ _ aw ?_
  unfold S6_0
  obtain ⟨whole, hwh⟩ : ∃ w, w = encO ⟨e, a, r, binds, u, moves⟩ := ⟨_, rfl⟩
  rw [← hwh] at hw hQ
  have hwl : whole.length = (encU (zig e)).length + ((encU (zig a)).length + ((encB r).length + ((encU binds.length).length + ((encBs binds).length + ((encB u).length + ((encU moves.length).length + (encMs moves).length)))))) := by rw [hwh]; simp only [encO, List.length_append]
  have l1 := encB_len r
  refine alc_x M fun ob aw1 M1 => alc_x M1 fun wb aw2 M2 => ?_
  have M2 : Hp aw0 own ro aw2 ((wb, WBk (.slice none 0 0)) :: ([] ++ ((ob, OBk e a r bv u mv) :: l))) := M2
  refine fldA_x (ldI_x (M2.im (.there .here)) (by repeat constructor) (fldA_x (ldI_x (M2.im (.there .here)) (by repeat constructor) (fldA_x (ldS_x (M2.im (.there .here)) (by repeat constructor) (fldA_x (ldV_x (M2.im (.there .here)) (by repeat constructor) (slen_f hB ?_))))))))
  refine wint_x he.1 he.2 (by simp) .nil M2 fun pv1 L1 aw3 h1 M3 => ?_
  rw [List.nil_append] at h1
  refine again_x (M3.im (.there (At.app .here))) (by repeat constructor) (again_x (M3.im (.there (At.app .here))) (by repeat constructor) (again_x (M3.im (.there (At.app .here))) (by repeat constructor) ?_))
  refine wint_x ha.1 ha.2 (by omega) h1 M3 fun pv2 L2 aw4 h2 M4 => ?_
  refine again_x (M4.im (.there (At.app .here))) (by repeat constructor) (again_x (M4.im (.there (At.app .here))) (by repeat constructor) ?_)
  refine wtext_x (by simp only [List.length_append]; omega) (by omega) h2 M4 fun pv3 L3 aw5 h3 M5 => ?_
  refine again_x (M5.im (.there (At.app .here))) (by repeat constructor) ?_
  rw [u64_nat (by omega)]
  refine wuint_x (by omega) (by simp only [List.length_append]; omega) h3 M5 fun pv4 L4 aw6 h4 M6 => ?_
  refine fldA_x (ldV_x (M6.im (.there (At.app .here))) (by repeat constructor) (slen_f hB ⟨binds.length + 1, ?_⟩))
  exact reply_b hw hr hn hnb hB hM hS hQ binds [] rfl aw6 pv4 L4 _ h4 (by rw [hwh]; simp [encO]) M6
end
end Go.Proofs.Tryz
