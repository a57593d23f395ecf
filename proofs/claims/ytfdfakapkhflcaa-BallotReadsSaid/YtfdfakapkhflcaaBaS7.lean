/- The document's Decode. -/
import Derived.Test.YtfdfakapkhflcaaBaS4
import Derived.Test.YtfdfakapkhflcaaBaS6
import Derived.Test.YtfdfakapkhflcaaBaC2
set_option linter.unusedSimpArgs false
set_option linter.unusedVariables false
set_option linter.unusedSectionVars false
namespace Go.Proofs.Try
open Go Go.Am Go.RowKit Go.Oc
variable [SymE]
abbrev NBk (m : Ms) (ev dv : Value) : Blk := ⟨MsC m ev dv, 46, 0, true, 0⟩
section
variable {aw0 aw : AW} {own : List Nat} {ro l L S Le : List (Nat × Blk)} {E : List PanicEntry → AW → Prop} {pv ev tv tw : Value} {rb mb tb : Nat} {at_ : Int} {sx se : Oc.St} {Q : (Int × Int × Int × Int × Int × Int × Int × Bool × Value × Value × Int) → AW → Prop}
  {m m1 : Ms} {es tot : List En} {ps : List UInt8}
theorem rs_one (hR : Rs aw0 own ro S pv ps) (M : Hp aw0 own ro aw L) (hS : ∀ p ∈ S, p ∈ L) : one pv = true := rb_one (hR aw L M hS)
theorem rdec_fin {nx : Value → Value → Value → Value → Int → Int → AW → Prop} {n i : Int} (hl : ps.length < 2 ^ 44) (hR : Rs aw0 own ro S pv ps) (hr : RfS ps sx at_) (hS : ∀ p ∈ S, p ∈ l) (he : EO aw0 own ro S 40 ev es Le)
    (M : Hp aw0 own ro aw ((rb, FBk pv at_) :: (mb, NBk m ev nilS) :: (tb, NBk m1 tv tw) :: (Le ++ l)))
    (hQ1 : (rB 1048576 sx).2 = some [] → ∀ dv S' aw', EsS aw0 own ro (S' ++ S) ev es → Rs aw0 own ro (S' ++ S) dv (rB 1048576 sx).1 → one ev = true → one dv = true → Hp aw0 own ro aw' (S' ++ l) → Q (MsT m ev dv 0) aw')
    (hQ2 : (rB 1048576 sx).2 ≠ some [] → ∀ aw', Hp aw0 own ro aw' l → Q (MsT Ms.zero nilS nilS 3) aw') : S12_2 Q E nx (P0 tb) pv (P0 rb) (P0 mb) n i false aw := by
  unfold S12_2
  refine cnd_0x rfl ?_
  have hS1 : ∀ {ev dv : Value}, ∀ p ∈ S, p ∈ (mb, NBk m ev dv) :: (tb, NBk m1 tv tw) :: (Le ++ l) := fun p hp => by simp [hS p hp]
  refine f_bytes (most := 1048576) (by decide) hl M hR hr hS1 fun dv at2 aw1 hRd hr1 M1 => ?_
  have hd1 : one dv = true := rs_one hRd M1 fun p hp => List.mem_cons_of_mem _ (hS1 p hp)
  refine fldA_x (st_x M1 (.there .here) (by repeat constructor) rfl rfl (by simp [hd1]) fun aw2 M2 => get_at M2 ?_)
  refine slen_b (hR aw2 _ M2 fun p hp => List.mem_cons_of_mem _ (hS1 p hp)) ?_
  have key : decide (at2 = (ps.length : Int)) = decide ((rB 1048576 sx).2 = some []) := by
    generalize (rB 1048576 sx).2 = s at hr1
    cases hr1 with
    | bad => rw [decide_eq_decide]; constructor <;> intro h <;> first | (exfalso; omega) | cases h
    | ok ha =>
      rename_i a
      rw [decide_eq_decide]
      constructor
      · intro h
        have : a = ps.length := by omega
        rw [this, List.drop_length]
      · intro h
        injection h with h
        have := congrArg List.length h
        simp at this
        omega
  rw [key]
  by_cases hend : (rB 1048576 sx).2 = some []
  · refine cnd_0x (by rw [decide_eq_true hend]; rfl) ?_
    refine get_ms (M2.m (.there .here)) rfl ?_
    refine st_x M2 (.there (.there .here)) (by repeat constructor) rfl rfl (by simp only [MsC, List.all_cons, List.all_nil, hd1, he.one', Bool.and_true]; rfl) fun aw3 M3 => ?_
    refine get_ms (M3.m (.there (.there .here))) rfl ?_
    have M4 : Hp aw0 own ro aw3 ([(rb, FBk pv at2), (mb, NBk m ev dv), (tb, NBk m ev dv)] ++ (Le ++ l)) := M3
    exact hQ1 hend dv Le aw3 (he.toS (fun p hp => by simp [hp]) (fun p hp => by simp [hp])) (hRd.more fun p hp => by simp [hp]) he.one' hd1 M4.dropL
  · refine cnd_1x (by rw [decide_eq_false hend]; rfl) ?_
    refine st_x M2 (.there (.there .here)) (by repeat constructor) rfl rfl rfl fun aw3 M3 => ?_
    refine get_ms (m := Ms.zero) (ev := nilS) (dv := nilS) (M3.m (.there (.there .here))) rfl ?_
    have M4 : Hp aw0 own ro aw3 ([(rb, FBk pv at2), (mb, NBk m ev dv), (tb, NBk Ms.zero nilS nilS)] ++ (Le ++ l)) := M3
    exact hQ2 hend aw3 M4.dropL.dropL
theorem rdec_loop (hl : ps.length < 2 ^ 44) (hR : Rs aw0 own ro S pv ps) (hS : ∀ p ∈ S, p ∈ l)
    (hQ1 : (rB 1048576 se).2 = some [] → ∀ ev dv S' aw', EsS aw0 own ro (S' ++ S) ev tot → Rs aw0 own ro (S' ++ S) dv (rB 1048576 se).1 → one ev = true → one dv = true → Hp aw0 own ro aw' (S' ++ l) → Q (MsT m ev dv 0) aw')
    (hQ2 : (rB 1048576 se).2 ≠ some [] → ∀ aw', Hp aw0 own ro aw' l → Q (MsT Ms.zero nilS nilS 3) aw') (htot : tot.length < 2 ^ 30) {N : Nat} (hN : N < 2 ^ 30) :
    ∀ (n i : Nat) (sx : Oc.St) (ev : Value) (at_ : Int) (es : List En) (Le : List (Nat × Blk)) (aw : AW), i + n = N → es ++ (decEs n sx).1 = tot → (decEs n sx).2 = se → RfS ps sx at_ → EO aw0 own ro S 40 ev es Le →
      Hp aw0 own ro aw ((rb, FBk pv at_) :: (mb, NBk m ev nilS) :: (tb, NBk m1 tv tw) :: (Le ++ l)) → S12_1 Q E (n + 1) (P0 tb) pv (P0 rb) (P0 mb) (N : Int) (i : Int) aw
  | 0, i, sx, ev, at_, es, Le, aw, hn, h1, h2, hr, he, M => by
    show S12_1s Q E (S12_1 Q E 0) _ _ _ _ _ _ aw
    unfold S12_1s
    refine cnd_0x (decide_eq_false (by omega)) ?_
    have e1 : es = tot := by rw [← h1]; simp [decEs]
    have e2 : sx = se := by rw [← h2]; rfl
    subst e1; subst e2
    exact rdec_fin hl hR hr hS he M (fun hend dv S' aw' => hQ1 hend ev dv S' aw') hQ2
  | n + 1, i, sx, ev, at_, es, Le, aw, hn, h1, h2, hr, he, M => by
    show S12_1s Q E (S12_1 Q E (n + 1)) _ _ _ _ _ _ aw
    unfold S12_1s
    refine cnd_1x (decide_eq_true (by omega)) (get_at M ?_)
    cases hr with
    | bad =>
      have e1 : es = tot := by rw [← h1]; simp [decEs]
      have e2 : (none : Oc.St) = se := by rw [← h2]; rfl
      subst e1; subst e2
      exact rdec_fin hl hR .bad hS he M (fun hend dv S' aw' => hQ1 hend ev dv S' aw') hQ2
    | ok ha =>
      rename_i a
      rw [decide_eq_true (by omega)]
      have hes : es.length < 2 ^ 30 := by
        have := congrArg List.length h1
        simp at this
        omega
      unfold S12_2
      let e : En := (decE (some (ps.drop a))).1
      have hS1 : ∀ {ev dv : Value} {Le : List (Nat × Blk)}, ∀ p ∈ S, p ∈ (mb, NBk m ev dv) :: (tb, NBk m1 tv tw) :: (Le ++ l) := fun p hp => by simp [hS p hp]
      have hS2 : ∀ {x : Nat × Blk} {ev dv : Value} {Le : List (Nat × Blk)}, ∀ p ∈ S, p ∈ x :: (mb, NBk m ev dv) :: (tb, NBk m1 tv tw) :: (Le ++ l) := fun p hp => List.mem_cons_of_mem _ (hS1 p hp)
      refine cnd_1x rfl (f_uint hl M hR (.ok ha) hS1 fun a2 aw2 hr2 M2 => alc_x M2 fun xb aw3 M3 => ?_)
      refine st_x M3 .here (by repeat constructor) rfl rfl rfl fun aw4 M4 => ?_
      refine f_uint hl (M4.perm (List.Perm.swap _ _ _)) hR hr2 hS2 fun a3 aw5 hr3 M5 => ?_
      refine fldA_x (st_x M5 (.there .here) (by repeat constructor) rfl rfl rfl fun aw6 M6 => ?_)
      refine f_uint hl M6 hR hr3 hS2 fun a4 aw7 hr4 M7 => ?_
      refine fldA_x (st_x M7 (.there .here) (by repeat constructor) rfl rfl rfl fun aw8 M8 => ?_)
      refine f_bytes (most := 4000) (by decide) hl M8 hR hr4 hS2 fun cv a5 aw9 hRc hr5 M9 => ?_
      have hc1 : one cv = true := rs_one hRc M9 fun p hp => List.mem_cons_of_mem _ (hS2 p hp)
      refine fldA_x (st_x M9 (.there .here) (by repeat constructor) rfl rfl (by simp [hc1]) fun aw10 M10 => ?_)
      refine fldA_x (ldV_x (M10.im (.there (.there .here))) (by repeat constructor) ?_)
      refine ptr_x (gI_x (M10.im (.there .here)) (by repeat constructor) (gI_x (M10.im (.there .here)) (by repeat constructor) (gI_x (M10.im (.there .here)) (by repeat constructor) (gV_x (M10.im (.there .here)) (by repeat constructor) ?_))))
      refine alcS_x M10 fun yb aw11 M11 => ?_
      have M12 : Hp aw0 own ro aw11 (Le ++ ((yb, ⟨[.int .u64 (e.term : Int), .int .u64 (e.session : Int), .int .u64 (e.number : Int), cv], 40, 4, true, 0⟩) :: (rb, FBk pv a5) :: (xb, ⟨[.int .u64 (e.term : Int), .int .u64 (e.session : Int), .int .u64 (e.number : Int), cv], 40, 0, true, 0⟩) :: (mb, NBk m ev nilS) :: (tb, NBk m1 tv tw) :: l)) := M11.perm (by
        classical exact List.perm_iff_count.2 fun a => by simp only [List.count_append, List.count_cons]; ac_rfl)
      refine he.push (e := e) (cv := cv) M12 (by omega) (src_s (M11.im .here) rfl (by repeat constructor)) hRc hc1 fun ev' Le' aw13 he' M13 => ?_
      have M14 : Hp aw0 own ro aw13 ([(yb, ⟨[.int .u64 (e.term : Int), .int .u64 (e.session : Int), .int .u64 (e.number : Int), cv], 40, 4, true, 0⟩), (xb, ⟨[.int .u64 (e.term : Int), .int .u64 (e.session : Int), .int .u64 (e.number : Int), cv], 40, 0, true, 0⟩)] ++ ((rb, FBk pv a5) :: (mb, NBk m ev nilS) :: (tb, NBk m1 tv tw) :: (Le' ++ l))) := M13.perm (by
        classical exact List.perm_iff_count.2 fun a => by simp only [List.count_append, List.count_cons, List.count_nil]; ac_rfl)
      refine fldA_x (st_x M14.dropL (.there .here) (by repeat constructor) rfl rfl (by simp [he'.one']) fun aw15 M15 => ?_)
      rw [show (i : Int) + 1 = ((i + 1 : Nat) : Int) by omega, i64_nat (by omega)]
      refine rdec_loop hl hR hS hQ1 hQ2 htot hN n (i + 1) (decE (some (ps.drop a))).2 ev' a5 (es ++ [e]) Le' aw15 (by omega) ?_ h2 hr5 he' M15
      rw [← h1, List.append_assoc]
      rfl
end
section
variable {aw0 aw : AW} {own : List Nat} {ro l S : List (Nat × Blk)} {E : List PanicEntry → AW → Prop} {v : Value} {bs : List UInt8} {Q : (Int × Int × Int × Int × Int × Int × Int × Bool × Value × Value × Int) → AW → Prop}
theorem r_decode_x (M : Hp aw0 own ro aw l) (hv : ∃ q c, v = .slice q bs.length c) (hR : 4 ≤ bs.length → Rs aw0 own ro S v bs) (hS : ∀ p ∈ S, p ∈ l) (hl : bs.length < 2 ^ 40)
    (hQ : ∀ ev dv S' aw', EsS aw0 own ro (S' ++ S) ev (decA bs).1.es → Rs aw0 own ro (S' ++ S) dv (decA bs).1.data → one ev = true → one dv = true → Hp aw0 own ro aw' (S' ++ l) → Q (MsT (decA bs).1 ev dv (decA bs).2) aw') : CallP prog 12 [v] aw sh12 Q E := by
  refine F12_ok _ aw ?_
  unfold S12_0
  refine alc_x M fun tb aw1 M1 => ?_
  refine r_open M1 hv hR (fun p hp => List.mem_cons_of_mem _ (hS p hp)) (by omega) (fun hb aw2 L2 M2 => ?_) (fun hb pv L2 aw2 hR2 M2 => ?_)
  · have hb' : ¬ (((openN bs : Nat) : Int) = 0) := by omega
    refine cnd_1x (by rw [decide_eq_false hb']; rfl) ?_
    have M3 : Hp aw0 own ro aw2 ((tb, NBk Ms.zero nilS nilS) :: (L2 ++ l)) := M2.perm List.perm_middle
    refine st_x M3 .here (by repeat constructor) rfl rfl rfl fun aw3 M4 => ?_
    refine get_ms (m := Ms.zero) (ev := nilS) (dv := nilS) (M4.m .here) rfl ?_
    have e : decA bs = (Ms.zero, openN bs) := by unfold decA; rw [if_pos hb]
    have := hQ nilS nilS [] aw3
    rw [e] at this
    exact this .nil (fun _ _ _ _ => .nil) rfl rfl ((M4.drop .here).dropL)
  · refine cnd_0x rfl ?_
    let p := bs.take (bs.length - 4)
    have M3 : Hp aw0 own ro aw2 ((tb, NBk Ms.zero nilS nilS) :: (L2 ++ l)) := M2.perm List.perm_middle
    have hSl : ∀ q ∈ S, q ∈ L2 ++ l := fun q hq => List.mem_append.2 (.inr (hS q hq))
    have hSt : ∀ {x : Nat × Blk}, ∀ q ∈ S, q ∈ x :: (L2 ++ l) := fun q hq => List.mem_cons_of_mem _ (hSl q hq)
    have hSm : ∀ {x y : Nat × Blk}, ∀ q ∈ S, q ∈ x :: y :: (L2 ++ l) := fun q hq => List.mem_cons_of_mem _ (hSt q hq)
    refine ⟨rs_one hR2 M3 hSt, alc_x M3 fun rb aw3 M4 => ?_⟩
    have hp : p.length < 2 ^ 44 := by show (bs.take _).length < _; rw [List.length_take]; omega
    have hr0 : RfS p (some p) 0 := by
      have := RfS.ok (ps := p) (a := 0) (Nat.zero_le _)
      simpa using this
    refine f_upto (most := 255) (by decide) hp M4 hR2 hr0 hSt fun a1 aw4 hr1 M5 => alc_x M5 fun mb aw5 M6 => ?_
    have hk : IntKind.u8.wrap (((rUp 255 (some p)).1 : Nat) : Int) = (((rUp 255 (some p)).1 : Nat) : Int) := by
      rw [u8_nat]
      have := rUp_le 255 (some p)
      omega
    rw [hk]
    refine st_x M6 .here (by repeat constructor) rfl rfl rfl fun aw6 M7 => ?_
    refine f_int hp (M7.perm (List.Perm.swap _ _ _)) hR2 hr1 hSm fun a2 aw7 hr2 M8 => ?_
    refine fldA_x (st_x M8 (.there .here) (by repeat constructor) rfl rfl rfl fun aw8 M9 => ?_)
    refine f_int hp M9 hR2 hr2 hSm fun a3 aw9 hr3 M10 => ?_
    refine fldA_x (st_x M10 (.there .here) (by repeat constructor) rfl rfl rfl fun aw10 M11 => ?_)
    refine f_uint hp M11 hR2 hr3 hSm fun a4 aw11 hr4 M12 => ?_
    refine fldA_x (st_x M12 (.there .here) (by repeat constructor) rfl rfl rfl fun aw12 M13 => ?_)
    refine f_uint hp M13 hR2 hr4 hSm fun a5 aw13 hr5 M14 => ?_
    refine fldA_x (st_x M14 (.there .here) (by repeat constructor) rfl rfl rfl fun aw14 M15 => ?_)
    refine f_uint hp M15 hR2 hr5 hSm fun a6 aw15 hr6 M16 => ?_
    refine fldA_x (st_x M16 (.there .here) (by repeat constructor) rfl rfl rfl fun aw16 M17 => ?_)
    refine f_uint hp M17 hR2 hr6 hSm fun a7 aw17 hr7 M18 => ?_
    refine fldA_x (st_x M18 (.there .here) (by repeat constructor) rfl rfl rfl fun aw18 M19 => ?_)
    refine f_upto (most := 1) (by decide) hp M19 hR2 hr7 hSm fun a8 aw19 hr8 M20 => ?_
    refine fldA_x (st_x M20 (.there .here) (by repeat constructor) rfl rfl rfl fun aw20 M21 => ?_)
    have hok : decide ((((rUp 1 (rU (rU (rU (rU (rI (rI (rUp 255 (some p)).2).2).2).2).2).2).2).1 : Nat) : Int) = 1) = (decM p).ok := by
      show _ = decide ((rUp 1 (s7 p)).1 = 1)
      rw [decide_eq_decide]
      show (((rUp 1 (s7 p)).1 : Nat) : Int) = 1 ↔ _
      omega
    rw [hok] at M21
    refine f_upto (most := 65536) (by decide) hp M21 hR2 hr8 hSm fun a9 aw21 hr9 M22 => ⟨(rUp 65536 (s8 p)).1 + 1, ?_⟩
    have hle := rUp_le 65536 (s8 p)
    have hlen := decEs_len (rUp 65536 (s8 p)).1 (s9 p)
    have eA : decA bs = decZ p := by unfold decA; rw [if_neg (by omega)]
    have M23 : Hp aw0 own ro aw21 ((rb, FBk pv a9) :: (mb, NBk (decM p) nilS nilS) :: (tb, NBk Ms.zero nilS nilS) :: ([] ++ (L2 ++ l))) := M22
    refine rdec_loop (l := L2 ++ l) (m := decM p) (m1 := Ms.zero) (tv := nilS) (tw := nilS) (tot := (sE p).1) (se := (sE p).2) hp hR2 hSl (fun hend ev dv S' aw' k1 k2 k3 k4 k5 => ?_) (fun hend aw' k5 => ?_) (by show (decEs _ _).1.length < _; omega) (N := (rUp 65536 (s8 p)).1) (by omega)
      (rUp 65536 (s8 p)).1 0 (s9 p) nilS a9 [] [] aw21 (by omega) rfl rfl hr9 EO.nil M23
    · have eZ : decZ p = (decM p, 0) := by unfold decZ; rw [if_pos hend]
      have := hQ ev dv S' aw'
      rw [eA, eZ] at this
      have k6 : Hp aw0 own ro aw' (L2 ++ (S' ++ l)) := k5.perm (by
        classical exact List.perm_iff_count.2 fun a => by simp only [List.count_append]; ac_rfl)
      exact this k1 k2 k3 k4 k6.dropL
    · have eZ : decZ p = (Ms.zero, 3) := by unfold decZ; rw [if_neg hend]
      have := hQ nilS nilS [] aw'
      rw [eA, eZ] at this
      exact this .nil (fun _ _ _ _ => .nil) rfl rfl k5.dropL
end
end Go.Proofs.Try
