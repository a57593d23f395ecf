/- What lex.Tokens computes. -/
import Derived.Test.YtdamanhpnbefgaaDoorTrydS5
set_option linter.unusedSimpArgs false
set_option linter.unusedVariables false
set_option linter.unusedSectionVars false
namespace Go.Proofs.Tryd
open Go Go.Am Go.Lx
variable {E : List PanicEntry → AW → Prop} {aw aw0 : AW}

/-- a slice of tokens -/
def TokS (aw0 aw : AW) (v : Value) (l : List Tok) : Prop := Own aw0 aw 33 3 v l.length (l.flatMap cellsT)
theorem TokS.nil : TokS aw0 aw (.slice none 0 0) [] := .emp
theorem app_tok {v : Value} {l : List Tok} {t : Tok} {K : Value → AW → Prop} (h : TokS aw0 aw v l) (he : Ext aw0 aw) (hl : l.length ≤ 100000)
    (hK : ∀ v' aw', TokS aw0 aw' v' (l ++ [t]) → Ext aw0 aw' → K v' aw') : alcS aw (cellsT t) 33 3 1 fun p aw1 => app aw1 33 3 32 v p fun v' aw' => K v' aw' := by
  refine alcS_i ?_
  have hsrc : Src (aw.alloc (cellsT t) 33 3) 3 (.slice (some ⟨aw.next, 0, none⟩) 1 1) 1 (cellsT t) := .slice (getN_whole (AW.alloc_new aw (cellsT t) 33 3))
  refine app_own (Own.ext h ((Ext.refl aw).alloc _ _ _)) (he.alloc _ _ _) hsrc (by omega) rfl fun v' aw' hv' he' _ _ _ => hK v' aw' ?_ he'
  unfold TokS
  simpa using hv'
theorem T_tokens_loop {Q : Value × Int × Int → AW → Prop} (s : List UInt8) (hs : s.length ≤ 2000) (hG0 : G0 aw0) : ∀ (n i : Nat) (aw : AW) (out : Value) (l : List Tok), s.length < i + n → i ≤ s.length → l.length ≤ i → TokS aw0 aw out l → Ext aw0 aw →
    (∀ aw' v, Ext aw0 aw' → TokS aw0 aw' v (toksL n (s.drop i) i l).1 → Q (v, (toksL n (s.drop i) i l).2) aw') →
    S10_1 Q E n (mkB s) out i aw
  | 0, i, aw, out, l, hn, hi, _, _, _, _ => absurd hn (by omega)
  | n + 1, i, aw, out, l, hn, hi, hl, hout, he, hQ => by
    have hG := hG0.ext he
    have ih := T_tokens_loop (Q := Q) s hs hG0 n
    have hsz : (mkB s).size = s.length := rfl
    show S10_1s Q E _ _ _ _ _
    unfold S10_1s
    have body : ∀ q, q = (s.drop i).head?.any isBlank → S10_2 Q E (S10_1 Q E n) (mkB s) out i q aw := by
      intro q hq
      unfold S10_2
      cases hr : s.drop i with
      | nil =>
        have hi2 : i = s.length := by
          have := congrArg List.length hr
          simp at this; omega
        rw [hr] at hq hQ
        simp only [List.head?_nil, Option.any_none] at hq
        subst hq
        simp only [cnd_ff]
        refine cutS_i (a := i) (d := s.length) rfl rfl (by omega) (Nat.le_refl _) ?_
        rw [hr]
        refine T_pre ([].take (s.length - i)) [40, 42] ?_
        rw [show pre [40, 42] (([] : List UInt8).take (s.length - i)) = false by simp [pre]]
        simp only [cnd_ff]
        refine cnd_true (decide_eq_true (by omega)) ?_
        refine app_tok (t := ⟨0, mkB [], i⟩) hout he (by omega) fun v' aw' hv' he' => ?_
        exact hQ aw' v' he' hv'
      | cons c r =>
        have hi2 : i < s.length := by
          have := congrArg List.length hr
          simp at this; omega
        rw [hr] at hq hQ
        simp only [List.head?_cons, Option.any_some] at hq
        have hr1 : s.drop (i + 1) = r := by rw [← List.drop_drop, hr]; rfl
        cases q
        · simp only [cnd_ff]
          have hlen : (c :: r).length = s.length - i := by rw [← hr]; simp
          have ht : (c :: r).take (s.length - i) = c :: r := by rw [← hlen]; exact List.take_length
          simp only [toksL, ← hq, Bool.false_eq_true, if_false] at hQ
          refine cutS_i (a := i) (d := s.length) rfl rfl (by omega) (Nat.le_refl _) ?_
          rw [hr, ht]
          refine T_pre (c :: r) [40, 42] ?_
          cases hp : pre [40, 42] (c :: r)
          · simp only [hp, Bool.false_eq_true, if_false] at hQ
            simp only [cnd_ff]
            refine cnd_false (decide_eq_false (by omega)) ?_
            refine cutS_i (a := i) (d := s.length) rfl rfl (by omega) (Nat.le_refl _) ?_
            rw [hr, ht]
            refine T_token (c :: r) (by simp) (by omega) hG fun aw2 he2 => ?_
            have hfine := tokR_fine (s := c :: r) (by simp)
            generalize tokR (c :: r) = t at hQ hfine
            refine alc_i (st_i (AW.alloc_new _ _ _ _) rfl (by simp) (by simp) rfl ?_)
            rcases hfine with ⟨k, x, m, rfl, h1, h2, h3⟩ | ⟨b, e, rfl, h1, h2, h3⟩
            · have hq0 : (good k x m).2.2.2.2.2 = 0 := rfl
              rw [if_pos hq0] at hQ
              simp only [good, Int.toNat_natCast] at hQ ⊢
              refine cnd_false rfl (fldA_i (st_i (AW.lay_same _ _ _) rfl (by simp [putL]) (by simp) rfl ?_))
              refine ⟨aw2.next, 0, k, mkB x, (i : Int), rfl, by simp [AW.get, putL], by simp [AW.get, putL], by simp [AW.get, putL], ?_⟩
              refine app_tok (t := ⟨k, mkB x, i⟩) (Own.ext hout (((he2.alloc _ _ _).lay _ he2.next).lay _ he2.next)) (he.trans (((he2.alloc _ _ _).lay _ he2.next).lay _ he2.next)) (by omega) fun v' aw' hv' he' => ?_
              rw [i64_in (n := (i : Int) + (m : Int)) (by omega) (by omega)]
              have hd : s.drop (i + m) = (c :: r).drop m := by rw [← List.drop_drop, hr]
              rw [← hd] at hQ
              have := ih (i + m) aw' v' (l ++ [⟨k, mkB x, i⟩]) (by omega) (by omega) (by simp; omega) hv' he' hQ
              exact this
            · have hne : ¬ (bad b e).2.2.2.2.2 = 0 := h3
              rw [if_neg hne] at hQ
              simp only [bad] at hQ ⊢
              refine cnd_true (by simp [h3]) ?_
              rw [i64_in (n := (i : Int) + b) (by omega) (by omega)]
              exact hQ _ _ (he.trans ((he2.alloc _ _ _).lay _ he2.next)) TokS.nil
          · simp only [hp, if_true] at hQ
            simp only [cnd_tt]
            refine cutS_i (a := i) (d := s.length) rfl rfl (by omega) (Nat.le_refl _) ?_
            rw [hr, ht]
            refine T_remark (c :: r) (by omega) ?_
            unfold remR
            cases hm : rem (c :: r) 0 0 with
            | none =>
              simp only [hm] at hQ
              refine cnd_true (by decide) ?_
              exact hQ aw _ he TokS.nil
            | some m =>
              simp only [hm] at hQ
              obtain ⟨h1, h2⟩ := rem_bound _ _ _ _ hm
              show cnd (decide ((m : Int) < 0)) _ (S10_1 Q E n (mkB s) out (IntKind.i64.wrap ((i : Int) + (m : Int))) aw)
              refine cnd_false (decide_eq_false (by omega)) ?_
              rw [i64_in (n := (i : Int) + (m : Int)) (by omega) (by omega)]
              have hd : s.drop (i + m) = (c :: r).drop m := by rw [← List.drop_drop, hr]
              rw [← hd] at hQ
              exact ih (i + m) aw out l (by omega) (by omega) (by omega) hout he hQ
        · simp only [cnd_tt]
          simp only [toksL, ← hq, if_true] at hQ
          rw [i64_in (n := (i : Int) + 1) (by omega) (by omega)]
          rw [← hr1] at hQ
          exact ih (i + 1) aw out l (by omega) (by omega) (by omega) hout he hQ
    refine cnd_i (fun c => ?_) (fun c => ?_)
    · have c : i < s.length := by have := of_decide_eq_true c; omega
      have hr : s.drop i = s[i] :: s.drop (i + 1) := List.drop_eq_getElem_cons c
      generalize hx : s[i] = x at hr
      have hxi : s[i]? = some x := by rw [List.getElem?_eq_getElem c, hx]
      refine chr_i rfl hxi (T_idx [32, 10, 9, 13] x ?_)
      exact body _ (by rw [blank_idx, hr]; rfl)
    · have c : s.length ≤ i := by have := of_decide_eq_false c; omega
      exact body _ (by rw [List.drop_eq_nil_of_le c]; rfl)
theorem T_tokens {Q : Value × Int × Int → AW → Prop} (s : List UInt8) (hG : G0 aw) (hQ : ∀ aw' v, Ext aw aw' → TokS aw aw' v (tokens s).1 → Q (v, (tokens s).2) aw') : CallP prog 10 [.string (mkB s)] aw sh10 Q E :=
  F10_ok _ _ (by
    unfold S10_0
    have hsz : (mkB s).size = s.length := rfl
    unfold tokens at hQ
    refine cnd_i (fun c => ?_) (fun c => ?_)
    · have c := of_decide_eq_true c
      rw [if_pos (by omega)] at hQ
      exact hQ aw _ (Ext.refl aw) TokS.nil
    · have c := of_decide_eq_false c
      rw [if_neg (by omega)] at hQ
      exact ⟨s.length + 1, T_tokens_loop (aw0 := aw) s (by omega) hG _ 0 aw _ [] (by omega) (by omega) (by simp) TokS.nil (Ext.refl aw) hQ⟩)
end Go.Proofs.Tryd
