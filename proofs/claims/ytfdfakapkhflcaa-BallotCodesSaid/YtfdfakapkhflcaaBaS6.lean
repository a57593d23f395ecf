/- ballot.Decode: the message of some bytes. -/
import Derived.Test.YtfdfakapkhflcaaBaS5
import Derived.Test.YtfdfakapkhflcaaBaC
set_option linter.unusedSimpArgs false
set_option linter.unusedVariables false
set_option linter.unusedSectionVars false
namespace Go.Proofs.Try
open Go Go.Am Go.RowKit Go.Oc
variable [SymE]
abbrev nilS : Value := .slice none 0 0
section
variable {aw0 aw : AW} {own : List Nat} {ro l L S Sc D F Le : List (Nat × Blk)} {E : List PanicEntry → AW → Prop} {v pv ev dv tv tw : Value} {rb mb tb : Nat} {bad : Bool} {sx se : Oc.St} {Q : (Int × Int × Int × Int × Int × Int × Int × Bool × Value × Value × Int) → AW → Prop}
  {m m1 : Ms} {es tot : List En}
abbrev MBk (m : Ms) (ev dv : Value) : Blk := ⟨MsC m ev dv, 43, 0, true, 0⟩
theorem dec_fin {nx : Value → Value → Value → Int → AW → Prop} {n : Int} (hD : ∀ p ∈ D, p ∈ F) (hr : RdS aw0 own ro D sx pv bad) (he : EO aw0 own ro Sc 40 ev es Le)
    (M : Hp aw0 own ro aw ((rb, RBk pv bad) :: (mb, MBk m ev nilS) :: (tb, MBk m1 tv tw) :: (Le ++ (Sc ++ (F ++ l)))))
    (hQ1 : (rB 1048576 sx).2 = some [] → ∀ dv S' aw', EsS aw0 own ro S' ev es → Rs aw0 own ro S' dv (rB 1048576 sx).1 → one ev = true → one dv = true → Hp aw0 own ro aw' (S' ++ l) → Q (MsT m ev dv 0) aw')
    (hQ2 : (rB 1048576 sx).2 ≠ some [] → ∀ aw', Hp aw0 own ro aw' l → Q (MsT Ms.zero nilS nilS 3) aw') : S11_2 Q E nx (P0 tb) (P0 rb) (P0 mb) n false aw := by
  unfold S11_2
  refine cnd_0x rfl ?_
  have hS : ∀ p ∈ D, p ∈ (mb, MBk m ev nilS) :: (tb, MBk m1 tv tw) :: (Le ++ (Sc ++ (F ++ l))) := fun p hp => by
    have := hD p hp
    simp [this]
  refine bytes_x (most := 1048576) (by decide) M hr hS fun dv Ld pv' bad' aw1 hO hr1 M1 => ?_
  have M2 : Hp aw0 own ro aw1 ((mb, MBk m ev nilS) :: (rb, RBk pv' bad') :: (tb, MBk m1 tv tw) :: (Ld ++ (Le ++ (Sc ++ (F ++ l))))) := M1.perm (by
    classical exact List.perm_iff_count.2 fun a => by simp only [List.count_append, List.count_cons]; ac_rfl)
  refine fldA_x (st_x M2 .here (by repeat constructor) rfl rfl (by simp [ob_one hO]) fun aw2 M3 => ?_)
  have M4 : Hp aw0 own ro aw2 ((rb, RBk pv' bad') :: (mb, MBk m ev dv) :: (tb, MBk m1 tv tw) :: (Ld ++ (Le ++ (Sc ++ (F ++ l))))) := M3.perm (List.Perm.swap _ _ _)
  refine end_x M4 hr1 (fun p hp => by have := hD p hp; simp [this]) ?_
  by_cases hend : (rB 1048576 sx).2 = some []
  · refine cnd_0x (by rw [decide_eq_true hend]; rfl) ?_
    refine get_ms (M4.m (.there .here)) rfl ?_
    have M5 : Hp aw0 own ro aw2 ((tb, MBk m1 tv tw) :: (rb, RBk pv' bad') :: (mb, MBk m ev dv) :: (Ld ++ (Le ++ (Sc ++ (F ++ l))))) := M4.perm (by
      classical exact List.perm_iff_count.2 fun a => by simp only [List.count_append, List.count_cons]; ac_rfl)
    refine st_x M5 .here (by repeat constructor) rfl rfl (by simp only [MsC, List.all_cons, List.all_nil, ob_one hO, he.one', Bool.and_true]; rfl) fun aw3 M6 => ?_
    refine get_ms (M6.m .here) rfl ?_
    have M7 : Hp aw0 own ro aw3 ([(tb, MBk m ev dv), (rb, RBk pv' bad'), (mb, MBk m ev dv)] ++ F ++ ((Ld ++ (Le ++ Sc)) ++ l)) := M6.perm (by
      classical exact List.perm_iff_count.2 fun a => by simp only [List.count_append, List.count_cons, List.count_nil]; ac_rfl)
    refine hQ1 hend dv (Ld ++ (Le ++ Sc)) aw3 (he.toS (fun p hp => by simp [hp]) (fun p hp => by simp [hp])) (hO.rs.more fun p hp => by simp [hp]) he.one' (ob_one hO) M7.dropL
  · refine cnd_1x (by rw [decide_eq_false hend]; rfl) ?_
    have M5 : Hp aw0 own ro aw2 ((tb, MBk m1 tv tw) :: (rb, RBk pv' bad') :: (mb, MBk m ev dv) :: (Ld ++ (Le ++ (Sc ++ (F ++ l))))) := M4.perm (by
      classical exact List.perm_iff_count.2 fun a => by simp only [List.count_append, List.count_cons]; ac_rfl)
    refine st_x M5 .here (by repeat constructor) rfl rfl rfl fun aw3 M6 => ?_
    refine get_ms (m := Ms.zero) (ev := nilS) (dv := nilS) (M6.m .here) rfl ?_
    have M7 : Hp aw0 own ro aw3 ([(tb, MBk Ms.zero nilS nilS), (rb, RBk pv' bad'), (mb, MBk m ev dv)] ++ (Ld ++ (Le ++ (Sc ++ F))) ++ l) := M6.perm (by
      classical exact List.perm_iff_count.2 fun a => by simp only [List.count_append, List.count_cons, List.count_nil]; ac_rfl)
    exact hQ2 hend aw3 M7.dropL
theorem dec_loop (hD : ∀ p ∈ D, p ∈ F)
    (hQ1 : (rB 1048576 se).2 = some [] → ∀ ev dv S' aw', EsS aw0 own ro S' ev tot → Rs aw0 own ro S' dv (rB 1048576 se).1 → one ev = true → one dv = true → Hp aw0 own ro aw' (S' ++ l) → Q (MsT m ev dv 0) aw')
    (hQ2 : (rB 1048576 se).2 ≠ some [] → ∀ aw', Hp aw0 own ro aw' l → Q (MsT Ms.zero nilS nilS 3) aw') (htot : tot.length < 2 ^ 30) :
    ∀ (n : Nat) (sx : Oc.St) (pv ev : Value) (bad : Bool) (es : List En) (Le Sc : List (Nat × Blk)) (aw : AW), n < 2 ^ 30 → es ++ (decEs n sx).1 = tot → (decEs n sx).2 = se → RdS aw0 own ro D sx pv bad → EO aw0 own ro Sc 40 ev es Le →
      Hp aw0 own ro aw ((rb, RBk pv bad) :: (mb, MBk m ev nilS) :: (tb, MBk m1 tv tw) :: (Le ++ (Sc ++ (F ++ l)))) → S11_1 Q E (n + 1) (P0 tb) (P0 rb) (P0 mb) (n : Int) aw
  | 0, sx, pv, ev, bad, es, Le, Sc, aw, hn, h1, h2, hr, he, M => by
    show S11_1s Q E (S11_1 Q E 0) _ _ _ _ aw
    unfold S11_1s
    refine cnd_0x (by decide) ?_
    have e1 : es = tot := by rw [← h1]; simp [decEs]
    have e2 : sx = se := by rw [← h2]; rfl
    subst e1; subst e2
    exact dec_fin hD hr he M (fun hend dv S' aw' => hQ1 hend ev dv S' aw') hQ2
  | n + 1, sx, pv, ev, bad, es, Le, Sc, aw, hn, h1, h2, hr, he, M => by
    show S11_1s Q E (S11_1 Q E (n + 1)) _ _ _ _ aw
    unfold S11_1s
    refine cnd_1x (decide_eq_true (by omega)) (bad_x M ?_)
    cases hr with
    | bad ho =>
      have e1 : es = tot := by rw [← h1]; simp [decEs]
      have e2 : (none : Oc.St) = se := by rw [← h2]; rfl
      subst e1; subst e2
      exact dec_fin hD (.bad ho) he M (fun hend dv S' aw' => hQ1 hend ev dv S' aw') hQ2
    | ok hR ho hl =>
      rename_i rest
      have hes : es.length < 2 ^ 30 := by
        have := congrArg List.length h1
        simp at this
        omega
      unfold S11_2
      refine cnd_1x rfl (fldA_x (ldV_x (M.im (.there .here)) (by repeat constructor) ?_))
      have hS : ∀ {ev : Value} {Le Sc : List (Nat × Blk)}, ∀ p ∈ D, p ∈ (mb, MBk m ev nilS) :: (tb, MBk m1 tv tw) :: (Le ++ (Sc ++ (F ++ l))) := fun p hp => by
        have := hD p hp
        simp [this]
      refine uint_x M (.ok hR ho hl) hS fun pv2 bad2 aw2 hr2 M2 => again_x (M2.im (.there .here)) (by repeat constructor) ?_
      refine uint_x M2 hr2 hS fun pv3 bad3 aw3 hr3 M3 => again_x (M3.im (.there .here)) (by repeat constructor) ?_
      refine uint_x M3 hr3 hS fun pv4 bad4 aw4 hr4 M4 => again_x (M4.im (.there .here)) (by repeat constructor) ?_
      refine bytes_x (most := 4000) (by decide) M4 hr4 hS fun cv Lc pv5 bad5 aw5 hO hr5 M5 => ?_
      have M6 : Hp aw0 own ro aw5 ((rb, RBk pv5 bad5) :: (mb, MBk m ev nilS) :: (tb, MBk m1 tv tw) :: (Le ++ ((Lc ++ Sc) ++ (F ++ l)))) := M5.perm (by
        classical exact List.perm_iff_count.2 fun a => by simp only [List.count_append, List.count_cons]; ac_rfl)
      refine again_x (M6.im (.there .here)) (by repeat constructor) ⟨ob_one hO, alcS_x M6 fun xb aw6 M7 => again_x (M7.im (.there (.there .here))) (by repeat constructor) ?_⟩
      let e : En := (decE (some rest)).1
      have M8 : Hp aw0 own ro aw6 (Le ++ ((xb, ⟨[.int .u64 (e.term : Int), .int .u64 (e.session : Int), .int .u64 (e.number : Int), cv], 40, 4, true, 0⟩) :: (rb, RBk pv5 bad5) :: (mb, MBk m ev nilS) :: (tb, MBk m1 tv tw) :: ((Lc ++ Sc) ++ (F ++ l)))) := M7.perm (by
        classical exact List.perm_iff_count.2 fun a => by simp only [List.count_append, List.count_cons]; ac_rfl)
      have he2 : EO aw0 own ro (Lc ++ Sc) 40 ev es Le := he.more fun p hp => by simp [hp]
      refine he2.push (e := e) (cv := cv) M8 (by omega) (src_s (M7.im .here) rfl (by repeat constructor)) (hO.rs.w.more fun p hp => by simp [hp]) (ob_one hO) fun ev' Le' aw7 he' M9 => ?_
      have M10 : Hp aw0 own ro aw7 ((xb, ⟨[.int .u64 (e.term : Int), .int .u64 (e.session : Int), .int .u64 (e.number : Int), cv], 40, 4, true, 0⟩) :: (mb, MBk m ev nilS) :: (rb, RBk pv5 bad5) :: (tb, MBk m1 tv tw) :: (Le' ++ ((Lc ++ Sc) ++ (F ++ l)))) := M9.perm (by
        classical exact List.perm_iff_count.2 fun a => by simp only [List.count_append, List.count_cons]; ac_rfl)
      refine fldA_x (st_x (M10.drop .here) .here (by repeat constructor) rfl rfl (by simp [he'.one']) fun aw8 M11 => ?_)
      rw [show ((n + 1 : Nat) : Int) - 1 = (n : Int) by omega, i64_nat (by omega)]
      refine dec_loop hD hQ1 hQ2 htot n (decE (some rest)).2 pv5 ev' bad5 (es ++ [e]) Le' (Lc ++ Sc) aw8 (by omega) ?_ h2 hr5 he' (M11.perm (List.Perm.swap _ _ _))
      rw [← h1, List.append_assoc]
      rfl
end
section
variable {aw0 aw : AW} {own : List Nat} {ro l S : List (Nat × Blk)} {E : List PanicEntry → AW → Prop} {v : Value} {bs : List UInt8} {Q : (Int × Int × Int × Int × Int × Int × Int × Bool × Value × Value × Int) → AW → Prop}
theorem decEs_len : ∀ (n : Nat) (s : Oc.St), (decEs n s).1.length ≤ n
  | 0, s => Nat.le_refl _
  | n + 1, none => Nat.zero_le _
  | n + 1, some r => by
    show (decEs n _).1.length + 1 ≤ n + 1
    have := decEs_len n (decE (some r)).2
    omega
theorem decode_x (M : Hp aw0 own ro aw l) (hv : ∃ q c, v = .slice q bs.length c) (hR : 4 ≤ bs.length → Rs aw0 own ro S v bs) (hS : ∀ p ∈ S, p ∈ l) (hl : bs.length < 2 ^ 40)
    (hQ : ∀ ev dv S' aw', EsS aw0 own ro S' ev (decA bs).1.es → Rs aw0 own ro S' dv (decA bs).1.data → one ev = true → one dv = true → Hp aw0 own ro aw' (S' ++ l) → Q (MsT (decA bs).1 ev dv (decA bs).2) aw') : CallP prog 11 [v] aw sh11 Q E := by
  refine F11_ok _ aw ?_
  unfold S11_0
  refine alc_x M fun tb aw1 M1 => ?_
  refine open_x M1 hv hR (fun p hp => List.mem_cons_of_mem _ (hS p hp)) (by omega) (fun hb aw2 L2 M2 => ?_) (fun hb v' L L2 aw2 hO M2 => ?_)
  · have hb' : ¬ (((openN bs : Nat) : Int) = 0) := by omega
    refine cnd_1x (by rw [decide_eq_false hb']; rfl) ?_
    have M3 : Hp aw0 own ro aw2 ((tb, MBk Ms.zero nilS nilS) :: (L2 ++ l)) := M2.perm List.perm_middle
    refine st_x M3 .here (by repeat constructor) rfl rfl rfl fun aw3 M4 => ?_
    refine get_ms (m := Ms.zero) (ev := nilS) (dv := nilS) (M4.m .here) rfl ?_
    have e : decA bs = (Ms.zero, openN bs) := by unfold decA; rw [if_pos hb]
    have := hQ nilS nilS [] aw3
    rw [e] at this
    exact this .nil (fun _ _ _ _ => .nil) rfl rfl ((M4.drop .here).dropL)
  · refine cnd_0x rfl ?_
    let p := bs.take (bs.length - 4)
    refine newReader_x M2 (ob_one hO) fun rb aw3 M3 => ?_
    have hD : ∀ q ∈ L, q ∈ L ++ (L2 ++ ((tb, MBk Ms.zero nilS nilS) :: l)) := fun q hq => List.mem_append.2 (.inl hq)
    have hr0 : RdS aw0 own ro L (some p) v' false := .ok hO.rs (ob_one hO) (by show (bs.take _).length < _; rw [List.length_take]; omega)
    refine upto_x (most := 255) (by decide) M3 hr0 hD fun pv1 bad1 aw4 hr1 M4 => ?_
    refine int_x M4 hr1 hD fun pv2 bad2 aw5 hr2 M5 => ?_
    refine int_x M5 hr2 hD fun pv3 bad3 aw6 hr3 M6 => ?_
    refine uint_x M6 hr3 hD fun pv4 bad4 aw7 hr4 M7 => ?_
    refine uint_x M7 hr4 hD fun pv5 bad5 aw8 hr5 M8 => ?_
    refine uint_x M8 hr5 hD fun pv6 bad6 aw9 hr6 M9 => ?_
    refine uint_x M9 hr6 hD fun pv7 bad7 aw10 hr7 M10 => ?_
    refine upto_x (most := 1) (by decide) M10 hr7 hD fun pv8 bad8 aw11 hr8 M11 => ?_
    refine alc_x M11 fun mb aw12 M12 => ?_
    have hk : IntKind.u8.wrap (((rUp 255 (some p)).1 : Nat) : Int) = ((decM p).kind : Int) := by
      rw [u8_nat]
      have := rUp_le 255 (some p)
      show _ = (((rUp 255 (some p)).1 : Nat) : Int)
      omega
    rw [hk]
    have hok : decide ((((rUp 1 (rU (rU (rU (rU (rI (rI (rUp 255 (some p)).2).2).2).2).2).2).2).1 : Nat) : Int) = 1) = (decM p).ok := by
      show _ = decide ((rUp 1 (s7 p)).1 = 1)
      rw [decide_eq_decide]
      show (((rUp 1 (s7 p)).1 : Nat) : Int) = 1 ↔ _
      omega
    rw [hok]
    refine st_x M12 .here (by repeat constructor) rfl rfl rfl fun aw13 M13 => ?_
    have M14 : Hp aw0 own ro aw13 ((rb, RBk pv8 bad8) :: (mb, MBk (decM p) nilS nilS) :: (L ++ (L2 ++ ((tb, MBk Ms.zero nilS nilS) :: l)))) := M13.perm (List.Perm.swap _ _ _)
    refine upto_x (most := 65536) (by decide) M14 hr8 (fun q hq => List.mem_cons_of_mem _ (hD q hq)) fun pv9 bad9 aw15 hr9 M15 => ⟨(rUp 65536 (s8 p)).1 + 1, ?_⟩
    have M16 : Hp aw0 own ro aw15 ((rb, RBk pv9 bad9) :: (mb, MBk (decM p) nilS nilS) :: (tb, MBk Ms.zero nilS nilS) :: ([] ++ ([] ++ ((L ++ L2) ++ l)))) := M15.perm (by
      classical exact List.perm_iff_count.2 fun a => by simp only [List.count_append, List.count_cons, List.count_nil]; ac_rfl)
    have hle := rUp_le 65536 (s8 p)
    have hlen := decEs_len (rUp 65536 (s8 p)).1 (s9 p)
    have eA : decA bs = decZ p := by unfold decA; rw [if_neg (by omega)]
    refine dec_loop (D := L) (F := L ++ L2) (m := decM p) (m1 := Ms.zero) (tv := nilS) (tw := nilS) (tot := (sE p).1) (se := (sE p).2) (fun q hq => List.mem_append.2 (.inl hq)) (fun hend ev dv S' aw' k1 k2 k3 k4 k5 => ?_) (fun hend aw' k5 => ?_) (by show (decEs _ _).1.length < _; omega)
      (rUp 65536 (s8 p)).1 (s9 p) pv9 nilS bad9 [] [] [] aw15 (by omega) rfl rfl hr9 EO.nil M16
    · have eZ : decZ p = (decM p, 0) := by unfold decZ; rw [if_pos hend]
      have := hQ ev dv S' aw'
      rw [eA, eZ] at this
      exact this k1 k2 k3 k4 k5
    · have eZ : decZ p = (Ms.zero, 3) := by unfold decZ; rw [if_neg hend]
      have := hQ nilS nilS [] aw'
      rw [eA, eZ] at this
      exact this .nil (fun _ _ _ _ => .nil) rfl rfl k5
end
end Go.Proofs.Try
