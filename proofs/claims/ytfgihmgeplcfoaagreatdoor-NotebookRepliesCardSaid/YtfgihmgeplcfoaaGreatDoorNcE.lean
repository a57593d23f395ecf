/- notebook.Read: the outcome of some bytes. -/
import Derived.Test.YtfgihmgeplcfoaaGreatDoorNcD
import Derived.Test.YtfgihmgeplcfoaaGreatDoorNaC
set_option linter.unusedSimpArgs false
set_option linter.unusedVariables false
set_option linter.unusedSectionVars false
namespace Go.Proofs.Tryz
open Go Go.Am Go.RowKit Go.Oc
variable [SymE]
abbrev nilS : Value := .slice none 0 0
abbrev RT := Int × Int × ByteArray × Value × ByteArray × Value × Int
section
variable {aw0 aw : AW} {own : List Nat} {ro l L S : List (Nat × Blk)} {E : List PanicEntry → AW → Prop} {v pv : Value} {bs cs : List UInt8} {rb tb ob : Nat} {st : Oc.St} {bad : Bool}
  {e a : Int} {r u : List UInt8} {bv mv : Value} {binds : List Bnd} {moves : List (Bool × Int)} {Q : RT → AW → Prop}
theorem i64_p {k : Nat} (h : k < 2 ^ 60) : IntKind.i64.wrap (((k + 1 : Nat) : Int) - 1) = (k : Int) := by
  rw [i64_in (by omega) (by omega)]; omega
theorem bcs_app (a : List Bnd) (x : Bnd) : bcs (a ++ [x]) = bcs a ++ bcell x := by simp [bcs]
theorem mcs_app (a : List (Bool × Int)) (x : Bool × Int) : mcs (a ++ [x]) = mcs a ++ mcell x := by simp [mcs]
structure Ends7 (Q : RT → AW → Prop) (aw0 : AW) (own : List Nat) (ro l : List (Nat × Blk)) (o : Outc) (st : Oc.St) : Prop where
  ok : ∀ bv mv LB LM aw', st = some [] → FO 29 3 bv o.Binds.length (bcs o.Binds) LB → FO 52 2 mv o.Moves.length (mcs o.Moves) LM → Hp aw0 own ro aw' (LB ++ (LM ++ l)) → Q (o.E, o.At, BA o.Raise, bv, BA o.Out, mv, 0) aw'
  no : st ≠ some [] → ∀ aw', Hp aw0 own ro aw' l → Q (0, 0, BA [], nilS, BA [], nilS, 3) aw'
theorem read_end {nx3 : Value → Value → Value → Int → AW → Prop} {n : Int} {LB LM : List (Nat × Blk)} (hE : Ends7 Q aw0 own ro l ⟨e, a, r, binds, u, moves⟩ st) (hr : RdS aw0 own ro S st pv bad) (hS : ∀ p ∈ S, p ∈ l) (hB : FO 29 3 bv binds.length (bcs binds) LB) (hM : FO 52 2 mv moves.length (mcs moves) LM)
    (M : Hp aw0 own ro aw ((rb, RBk pv bad) :: (tb, OBk 0 0 [] nilS [] nilS) :: (ob, OBk e a r bv u mv) :: (LM ++ (LB ++ l)))) : S7_4 Q E nx3 (P0 tb) (P0 rb) (P0 ob) n false aw := by
  unfold S7_4
  refine cnd_0x rfl (end_x M hr (fun p hp => by simp [hS p hp]) ?_)
  by_cases hst : st = some []
  · refine cnd_0x (by simp [hst]) ?_
    refine ptr_x (gI_x (M.im (.there (.there .here))) (by repeat constructor) (gI_x (M.im (.there (.there .here))) (by repeat constructor) (gS_x (M.im (.there (.there .here))) (by repeat constructor) (gV_x (M.im (.there (.there .here))) (by repeat constructor) (gS_x (M.im (.there (.there .here))) (by repeat constructor) (gV_x (M.im (.there (.there .here))) (by repeat constructor) ?_))))))
    have M1 : Hp aw0 own ro aw ((tb, OBk 0 0 [] nilS [] nilS) :: (rb, RBk pv bad) :: (ob, OBk e a r bv u mv) :: (LM ++ (LB ++ l))) := M.perm (by classical exact List.perm_iff_count.2 fun a => by simp only [List.count_append, List.count_cons]; omega)
    refine st_x M1 .here (by repeat constructor) rfl rfl (by show (true && (true && (true && (one bv && (true && (one mv && true)))))) = true; rw [hB.one', hM.one']; rfl) fun aw2 M2 => ?_
    refine ptr_x (gI_x (M2.im .here) (by repeat constructor) (gI_x (M2.im .here) (by repeat constructor) (gS_x (M2.im .here) (by repeat constructor) (gV_x (M2.im .here) (by repeat constructor) (gS_x (M2.im .here) (by repeat constructor) (gV_x (M2.im .here) (by repeat constructor) ?_))))))
    have M3 : Hp aw0 own ro aw2 (LM ++ (LB ++ l)) := ((M2.drop .here).drop .here).drop .here
    exact hE.ok bv mv LB LM aw2 hst hB hM (M3.perm (by classical exact List.perm_iff_count.2 fun a => by simp only [List.count_append, List.count_cons]; omega))
  · refine cnd_1x (by simp [hst]) ?_
    have M1 : Hp aw0 own ro aw ((tb, OBk 0 0 [] nilS [] nilS) :: (rb, RBk pv bad) :: (ob, OBk e a r bv u mv) :: (LM ++ (LB ++ l))) := M.perm (by classical exact List.perm_iff_count.2 fun a => by simp only [List.count_append, List.count_cons]; omega)
    refine st_x M1 .here (by repeat constructor) rfl rfl rfl fun aw2 M2 => ?_
    refine ptr_x (gI_x (M2.im .here) (by repeat constructor) (gI_x (M2.im .here) (by repeat constructor) (gS_x (M2.im .here) (by repeat constructor) (gV_x (M2.im .here) (by repeat constructor) (gS_x (M2.im .here) (by repeat constructor) (gV_x (M2.im .here) (by repeat constructor) ?_))))))
    have M3 : Hp aw0 own ro aw2 (LM ++ (LB ++ l)) := ((M2.drop .here).drop .here).drop .here
    exact hE.no hst aw2 M3.dropL.dropL
theorem read_m {LB : List (Nat × Blk)} (hS : ∀ p ∈ S, p ∈ l) (hB : FO 29 3 bv binds.length (bcs binds) LB) : ∀ (k : Nat) (done : List (Bool × Int)) (st : Oc.St) (aw : AW) (pv : Value) (bad : Bool) (mv : Value) (LM : List (Nat × Blk)), RdS aw0 own ro S st pv bad → FO 52 2 mv done.length (mcs done) LM → done.length + k ≤ 65536 →
      Hp aw0 own ro aw ((rb, RBk pv bad) :: (tb, OBk 0 0 [] nilS [] nilS) :: (ob, OBk e a r bv u mv) :: (LM ++ (LB ++ l))) → Ends7 Q aw0 own ro l ⟨e, a, r, binds, u, done ++ (rMany rMv k st).1⟩ (rMany rMv k st).2 →
      S7_3 Q E (k + 1) (P0 tb) (P0 rb) (P0 ob) (k : Int) aw
  | 0, done, st, aw, pv, bad, mv, LM, hr, hF, hk, M, hE => by
    show S7_3s Q E (S7_3 Q E 0) _ _ _ _ aw
    unfold S7_3s
    refine cnd_0x (by simp) ?_
    have hE : Ends7 Q aw0 own ro l ⟨e, a, r, binds, u, done ++ []⟩ st := hE
    rw [List.append_nil] at hE
    exact read_end hE hr hS hB hF M
  | k + 1, done, st, aw, pv, bad, mv, LM, hr, hF, hk, M, hE => by
    show S7_3s Q E (S7_3 Q E (k + 1)) _ _ _ _ aw
    unfold S7_3s
    refine cnd_1x (decide_eq_true (by omega)) (bad_x M ?_)
    have hr0 := hr
    cases hr with
    | bad ho =>
      rw [rMany_none] at hE
      simp only [List.append_nil] at hE
      exact read_end hE (.bad ho) hS hB hF M
    | ok hR ho hl =>
      rename_i rest
      show S7_4 Q E _ _ _ _ _ true aw
      unfold S7_4
      have hS' : ∀ (x y : Nat × Blk) (L : List (Nat × Blk)), ∀ p ∈ S, p ∈ x :: y :: (L ++ (LB ++ l)) := fun x y L p hp => by simp [hS p hp]
      refine cnd_1x rfl (fldA_x (ldV_x (M.im (.there (.there .here))) (by repeat constructor) ?_))
      refine upto_x (most := 1) (by decide) M hr0 (hS' _ _ _) fun pv1 bad1 aw1 h1 M1 => ?_
      refine again_x (M1.im (.there (.there .here))) (by repeat constructor) ?_
      refine int_x M1 h1 (hS' _ _ _) fun pv2 bad2 aw2 h2 M2 => ?_
      refine again_x (M2.im (.there (.there .here))) (by repeat constructor) ?_
      have hd : decide (((rUp 1 (some rest)).1 : Int) = 1) = decide ((rUp 1 (some rest)).1 = 1) := decide_eq_decide.2 (by omega)
      rw [hd]
      refine alcS_x M2 fun nb aw3 M3 => ?_
      refine again_x (M3.im (.there (.there (.there .here)))) (by repeat constructor) ?_
      have M4 : Hp aw0 own ro aw3 (LM ++ ((nb, ⟨mcell (rMv (some rest)).1, 52, 2, true, 0⟩) :: (rb, RBk pv2 bad2) :: (tb, OBk 0 0 [] nilS [] nilS) :: (ob, OBk e a r bv u mv) :: (LB ++ l))) := M3.perm (by
        show ((nb, ⟨mcell (rMv (some rest)).1, 52, 2, true, 0⟩) :: (rb, RBk pv2 bad2) :: (tb, OBk 0 0 [] nilS [] nilS) :: (ob, OBk e a r bv u mv) :: (LM ++ (LB ++ l))).Perm _
        classical exact List.perm_iff_count.2 fun a => by simp only [List.count_append, List.count_cons]; omega)
      have hsrc : Src aw3 2 (.slice (some ⟨nb, 0, none⟩) 1 1) 1 (mcell (rMv (some rest)).1) := src_x (B := ⟨mcell (rMv (some rest)).1, 52, 2, true, 0⟩) (M4.im (At.app .here)) (Nat.le_refl _) rfl
      refine hF.push M4 (by omega) hsrc rfl rfl fun mv2 LM2 aw4 hF2 M5 => ?_
      have M6 : Hp aw0 own ro aw4 ((ob, OBk e a r bv u mv) :: (nb, ⟨mcell (rMv (some rest)).1, 52, 2, true, 0⟩) :: (rb, RBk pv2 bad2) :: (tb, OBk 0 0 [] nilS [] nilS) :: (LM2 ++ (LB ++ l))) := M5.perm (by classical exact List.perm_iff_count.2 fun a => by simp only [List.count_append, List.count_cons]; omega)
      refine fldA_x (st_x M6 .here (by repeat constructor) rfl rfl (by simp [hF2.one']) fun aw5 M7 => ?_)
      have M7 : Hp aw0 own ro aw5 ((ob, OBk e a r bv u mv2) :: (nb, ⟨mcell (rMv (some rest)).1, 52, 2, true, 0⟩) :: (rb, RBk pv2 bad2) :: (tb, OBk 0 0 [] nilS [] nilS) :: (LM2 ++ (LB ++ l))) := M7
      have M8 : Hp aw0 own ro aw5 ((rb, RBk pv2 bad2) :: (tb, OBk 0 0 [] nilS [] nilS) :: (ob, OBk e a r bv u mv2) :: (LM2 ++ (LB ++ l))) := (M7.drop (.there .here)).perm (by classical exact List.perm_iff_count.2 fun a => by simp only [List.count_append, List.count_cons]; omega)
      rw [i64_p (by omega)]
      have hE' : Ends7 Q aw0 own ro l ⟨e, a, r, binds, u, (done ++ [(rMv (some rest)).1]) ++ (rMany rMv k (rMv (some rest)).2).1⟩ (rMany rMv k (rMv (some rest)).2).2 := by
        rw [List.append_assoc]; exact hE
      refine read_m hS hB k (done ++ [(rMv (some rest)).1]) (rMv (some rest)).2 aw5 pv2 bad2 mv2 LM2 h2 ?_ (by simp; omega) M8 hE'
      rw [mcs_app, show (done ++ [(rMv (some rest)).1]).length = done.length + 1 by simp]
      exact hF2
theorem read_rest {nx1 : Value → Value → Value → Int → AW → Prop} {n : Int} {LB : List (Nat × Blk)} (hS : ∀ p ∈ S, p ∈ l) (hB : FO 29 3 bv binds.length (bcs binds) LB) (hr : RdS aw0 own ro S st pv bad)
    (M : Hp aw0 own ro aw ((rb, RBk pv bad) :: (tb, OBk 0 0 [] nilS [] nilS) :: (ob, OBk e a r bv [] nilS) :: (LB ++ l)))
    (hE : Ends7 Q aw0 own ro l ⟨e, a, r, binds, (rB TR st).1, (rMany rMv (rUp 65536 (rB TR st).2).1 (rUp 65536 (rB TR st).2).2).1⟩ (rMany rMv (rUp 65536 (rB TR st).2).1 (rUp 65536 (rB TR st).2).2).2) :
    S7_2 Q E nx1 (P0 tb) (P0 rb) (P0 ob) n false aw := by
  unfold S7_2
  have hS' : ∀ (x y : Nat × Blk), ∀ p ∈ S, p ∈ x :: y :: (LB ++ l) := fun x y p hp => by simp [hS p hp]
  refine cnd_0x rfl (text_x (most := TR) (by decide) M hr (hS' _ _) fun pv1 bad1 aw1 h1 M1 => ?_)
  have M2 : Hp aw0 own ro aw1 ((ob, OBk e a r bv [] nilS) :: (rb, RBk pv1 bad1) :: (tb, OBk 0 0 [] nilS [] nilS) :: (LB ++ l)) := M1.perm (by classical exact List.perm_iff_count.2 fun a => by simp only [List.count_append, List.count_cons]; omega)
  refine fldA_x (st_x M2 .here (by repeat constructor) rfl rfl rfl fun aw2 M3 => ?_)
  have M3 : Hp aw0 own ro aw2 ((ob, OBk e a r bv (rB TR st).1 nilS) :: (rb, RBk pv1 bad1) :: (tb, OBk 0 0 [] nilS [] nilS) :: (LB ++ l)) := M3
  have M4 : Hp aw0 own ro aw2 ((rb, RBk pv1 bad1) :: (tb, OBk 0 0 [] nilS [] nilS) :: (ob, OBk e a r bv (rB TR st).1 nilS) :: (LB ++ l)) := M3.perm (by classical exact List.perm_iff_count.2 fun a => by simp only [List.count_append, List.count_cons]; omega)
  refine upto_x (most := 65536) (by decide) M4 h1 (hS' _ _) fun pv2 bad2 aw3 h2 M5 => ⟨(rUp 65536 (rB TR st).2).1 + 1, ?_⟩
  have hle : (rUp 65536 (rB TR st).2).1 ≤ 65536 := by
    unfold rUp
    split
    · exact Nat.zero_le _
    · rename_i hc
      rcases hq : (rU (rB TR st).2).2 with _ | q
      · simp [hq] at hc
      · simp [hq] at hc; omega
  exact read_m hS hB _ [] _ aw3 pv2 bad2 nilS [] h2 .nil (by simpa using hle) (by simpa using M5) (by simpa using hE)
theorem rUp_le (m : Nat) (s : Oc.St) : (rUp m s).1 ≤ m := by
  unfold rUp
  split
  · exact Nat.zero_le _
  · rename_i hc
    rcases hq : (rU s).2 with _ | q
    · simp [hq] at hc
    · simp [hq] at hc; omega
theorem read_b (hS : ∀ p ∈ S, p ∈ l) : ∀ (k : Nat) (done : List Bnd) (st : Oc.St) (aw : AW) (pv : Value) (bad : Bool) (bv : Value) (LB : List (Nat × Blk)), RdS aw0 own ro S st pv bad → FO 29 3 bv done.length (bcs done) LB → done.length + k ≤ 65536 →
      Hp aw0 own ro aw ((rb, RBk pv bad) :: (tb, OBk 0 0 [] nilS [] nilS) :: (ob, OBk e a r bv [] nilS) :: (LB ++ l)) →
      Ends7 Q aw0 own ro l ⟨e, a, r, done ++ (rMany rBnd k st).1, (rB TR (rMany rBnd k st).2).1, (rMany rMv (rUp 65536 (rB TR (rMany rBnd k st).2).2).1 (rUp 65536 (rB TR (rMany rBnd k st).2).2).2).1⟩ (rMany rMv (rUp 65536 (rB TR (rMany rBnd k st).2).2).1 (rUp 65536 (rB TR (rMany rBnd k st).2).2).2).2 →
      S7_1 Q E (k + 1) (P0 tb) (P0 rb) (P0 ob) (k : Int) aw
  | 0, done, st, aw, pv, bad, bv, LB, hr, hF, hk, M, hE => by
    show S7_1s Q E (S7_1 Q E 0) _ _ _ _ aw
    unfold S7_1s
    refine cnd_0x (by simp) ?_
    simp only [rMany, List.append_nil] at hE
    exact read_rest hS hF hr M hE
  | k + 1, done, st, aw, pv, bad, bv, LB, hr, hF, hk, M, hE => by
    show S7_1s Q E (S7_1 Q E (k + 1)) _ _ _ _ aw
    unfold S7_1s
    refine cnd_1x (decide_eq_true (by omega)) (bad_x M ?_)
    have hr0 := hr
    cases hr with
    | bad ho =>
      rw [rMany_none] at hE
      simp only [List.append_nil] at hE
      exact read_rest hS hF (.bad ho) M hE
    | ok hR ho hl =>
      rename_i rest
      show S7_2 Q E _ _ _ _ _ true aw
      unfold S7_2
      have hS' : ∀ (x y : Nat × Blk) (L : List (Nat × Blk)), ∀ p ∈ S, p ∈ x :: y :: (L ++ l) := fun x y L p hp => by simp [hS p hp]
      refine cnd_1x rfl (fldA_x (ldV_x (M.im (.there (.there .here))) (by repeat constructor) ?_))
      refine text_x (most := TR) (by decide) M hr0 (hS' _ _ _) fun pv1 bad1 aw1 h1 M1 => ?_
      refine again_x (M1.im (.there (.there .here))) (by repeat constructor) ?_
      refine text_x (most := TR) (by decide) M1 h1 (hS' _ _ _) fun pv2 bad2 aw2 h2 M2 => ?_
      refine again_x (M2.im (.there (.there .here))) (by repeat constructor) ?_
      refine text_x (most := TR) (by decide) M2 h2 (hS' _ _ _) fun pv3 bad3 aw3 h3 M3 => ?_
      refine again_x (M3.im (.there (.there .here))) (by repeat constructor) ?_
      refine alcS_x M3 fun nb aw4 M4 => ?_
      refine again_x (M4.im (.there (.there (.there .here)))) (by repeat constructor) ?_
      have M5 : Hp aw0 own ro aw4 (LB ++ ((nb, ⟨bcell (rBnd (some rest)).1, 29, 3, true, 0⟩) :: (rb, RBk pv3 bad3) :: (tb, OBk 0 0 [] nilS [] nilS) :: (ob, OBk e a r bv [] nilS) :: l)) := M4.perm (by
        show ((nb, ⟨bcell (rBnd (some rest)).1, 29, 3, true, 0⟩) :: (rb, RBk pv3 bad3) :: (tb, OBk 0 0 [] nilS [] nilS) :: (ob, OBk e a r bv [] nilS) :: (LB ++ l)).Perm _
        classical exact List.perm_iff_count.2 fun a => by simp only [List.count_append, List.count_cons]; omega)
      have hsrc : Src aw4 3 (.slice (some ⟨nb, 0, none⟩) 1 1) 1 (bcell (rBnd (some rest)).1) := src_x (B := ⟨bcell (rBnd (some rest)).1, 29, 3, true, 0⟩) (M5.im (At.app .here)) (Nat.le_refl _) rfl
      refine hF.push M5 (by omega) hsrc rfl rfl fun bv2 LB2 aw5 hF2 M6 => ?_
      have M7 : Hp aw0 own ro aw5 ((ob, OBk e a r bv [] nilS) :: (nb, ⟨bcell (rBnd (some rest)).1, 29, 3, true, 0⟩) :: (rb, RBk pv3 bad3) :: (tb, OBk 0 0 [] nilS [] nilS) :: (LB2 ++ l)) := M6.perm (by classical exact List.perm_iff_count.2 fun a => by simp only [List.count_append, List.count_cons]; omega)
      refine fldA_x (st_x M7 .here (by repeat constructor) rfl rfl (by simp [hF2.one']) fun aw6 M8 => ?_)
      have M8 : Hp aw0 own ro aw6 ((ob, OBk e a r bv2 [] nilS) :: (nb, ⟨bcell (rBnd (some rest)).1, 29, 3, true, 0⟩) :: (rb, RBk pv3 bad3) :: (tb, OBk 0 0 [] nilS [] nilS) :: (LB2 ++ l)) := M8
      have M9 : Hp aw0 own ro aw6 ((rb, RBk pv3 bad3) :: (tb, OBk 0 0 [] nilS [] nilS) :: (ob, OBk e a r bv2 [] nilS) :: (LB2 ++ l)) := (M8.drop (.there .here)).perm (by classical exact List.perm_iff_count.2 fun a => by simp only [List.count_append, List.count_cons]; omega)
      rw [i64_p (by omega)]
      have hE2 : (done ++ [(rBnd (some rest)).1]) ++ (rMany rBnd k (rBnd (some rest)).2).1 = done ++ (rMany rBnd (k + 1) (some rest)).1 := by rw [List.append_assoc]; rfl
      refine read_b hS k (done ++ [(rBnd (some rest)).1]) (rBnd (some rest)).2 aw6 pv3 bad3 bv2 LB2 h3 ?_ (by simp; omega) M9 (by rw [hE2]; exact hE)
      rw [bcs_app, show (done ++ [(rBnd (some rest)).1]).length = done.length + 1 by simp]
      exact hF2
theorem read_x {bs : List UInt8} (hR : Rs aw0 own ro S v bs ∨ (bs = [] ∧ ∃ q c, v = .slice q 0 c)) (ho : one v = true) (hl : bs.length < 2 ^ 44) (hS : ∀ p ∈ S, p ∈ l) (M : Hp aw0 own ro aw l) (hE : Ends7 Q aw0 own ro l (rdO bs).1 (rdO bs).2) : CallP prog 7 [v] aw sh7 Q E := by
  refine F7_ok _ aw ?_
  unfold S7_0
  refine alc_x M fun tb aw1 M1 => ?_
  refine newReader_x M1 ho fun rb aw2 M2 => ?_
  have M2 : Hp aw0 own ro aw2 ((rb, RBk v false) :: (tb, OBk 0 0 [] nilS [] nilS) :: l) := M2
  have hS' : ∀ (x : Nat × Blk), ∀ p ∈ S, p ∈ x :: l := fun x p hp => List.mem_cons_of_mem _ (hS p hp)
  have first : ∀ {K : Int → AW → Prop}, (∀ pv' bad' aw', RdS aw0 own ro S (rI (some bs)).2 pv' bad' → Hp aw0 own ro aw' ((rb, RBk pv' bad') :: (tb, OBk 0 0 [] nilS [] nilS) :: l) → K (rI (some bs)).1 aw') → CallP prog 18 [P0 rb] aw2 sh18 K E := by
    intro K hK
    rcases hR with hR | ⟨rfl, q, c, rfl⟩
    · exact int_x M2 (.ok hR ho hl) (hS' _) hK
    · exact int_void M2 fun aw' M' => hK _ true aw' (.bad ho) M'
  refine first fun pv1 bad1 aw3 h1 M3 => ?_
  refine int_x M3 h1 (hS' _) fun pv2 bad2 aw4 h2 M4 => ?_
  refine text_x (most := TR) (by decide) M4 h2 (hS' _) fun pv3 bad3 aw5 h3 M5 => ?_
  refine alc_x M5 fun ob aw6 M6 => st_x M6 .here (by repeat constructor) rfl rfl rfl fun aw7 M7 => ?_
  have M7 : Hp aw0 own ro aw7 ((ob, OBk (rI (some bs)).1 (rI (rI (some bs)).2).1 (rB TR (rI (rI (some bs)).2).2).1 nilS [] nilS) :: (rb, RBk pv3 bad3) :: (tb, OBk 0 0 [] nilS [] nilS) :: l) := M7
  have M8 : Hp aw0 own ro aw7 ((rb, RBk pv3 bad3) :: (tb, OBk 0 0 [] nilS [] nilS) :: (ob, OBk (rI (some bs)).1 (rI (rI (some bs)).2).1 (rB TR (rI (rI (some bs)).2).2).1 nilS [] nilS) :: l) := M7.perm (by classical exact List.perm_iff_count.2 fun a => by simp only [List.count_append, List.count_cons]; omega)
  refine upto_x (most := 65536) (by decide) M8 h3 (fun p hp => List.mem_cons_of_mem _ (hS' _ p hp)) fun pv4 bad4 aw8 h4 M9 => ⟨(rUp 65536 (rB TR (rI (rI (some bs)).2).2).2).1 + 1, ?_⟩
  exact read_b hS _ [] _ aw8 pv4 bad4 nilS [] h4 .nil (by simpa using rUp_le 65536 _) (by simpa using M9) (by simpa [rdO] using hE)
end
end Go.Proofs.Tryz
