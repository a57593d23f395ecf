/- What lex.token computes. -/
import Derived.Test.YtdamanhpnbefgaaDoorTrydS4
set_option linter.unusedSimpArgs false
set_option linter.unusedVariables false
namespace Go.Proofs.Tryd
open Go Go.Am Go.Lx
variable {E : List PanicEntry → AW → Prop} {aw aw0 : AW}

theorem tw_len (p : UInt8 → Bool) (s : List UInt8) : (s.takeWhile p).length ≤ s.length := by
  induction s with
  | nil => simp
  | cons a r ih =>
    simp only [List.takeWhile_cons]
    split <;> simp <;> omega
/-- the result's cell, at one place of a call -/
def Cell (aw0 aw1 : AW) (tb : Nat) : Prop := aw0.next ≤ tb ∧ tb < aw1.next ∧ (∃ u v w T, aw1.m tb = some ⟨[u, v, w], T, 0, true, 0⟩) ∧ Ext aw0 aw1
theorem Cell.fin {aw1 aw2 : AW} {tb : Nat} (h : Cell aw0 aw1 tb) (he : Ext aw1 aw2) {Q : Tk → AW → Prop} {k a n' bd er : Int} {t : ByteArray} (hQ : ∀ aw', Ext aw0 aw' → Q (k, t, a, n', bd, er) aw') :
    st aw2 (.pointer (some ⟨tb, 0, none⟩)) [.int .u8 k, .string t, .int .i64 a] fun aw1 => ∃ b' i c1 c2 c3, (.pointer (some ⟨tb, 0, none⟩) : Value) = .pointer (some ⟨b', i, none⟩) ∧ aw1.get b' i = some (.int .u8 c1) ∧
      aw1.get b' (i + 1) = some (.string c2) ∧ aw1.get b' (i + 2) = some (.int .i64 c3) ∧ Q (c1, c2, c3, n', bd, er) aw1 := by
  obtain ⟨h1, h2, ⟨u, v, w, T, h3⟩, h4⟩ := h
  exact res3 (K := fun c1 c2 c3 aw' => Q (c1, c2, c3, n', bd, er) aw') (he.get h2 h3) h1 (h4.trans he) hQ
section
variable {Q : Tk → AW → Prop} {aw1 : AW} {tb : Nat} (s : List UInt8) (hs : s.length ≤ 2000) (hc : Cell aw0 aw1 tb) (hG : G0 aw1)
include hs hc hG
theorem T_tok_name (i : Nat) (h1 : 1 ≤ i) (hi : i ≤ s.length) (he : Ext aw1 aw) (hQ : ∀ aw', Ext aw0 aw' → Q (nameR (s.take i)) aw') :
    cutS (mkB s) 0 (i : Int) fun s9 => CallP prog 24 [.string s9, .int .i64 i] aw sh24 (fun r14 aw15 =>
      st aw15 (.pointer (some ⟨tb, 0, none⟩)) [.int .u8 r14.1, .string r14.2.1, .int .i64 r14.2.2.1] fun aw1 => ∃ b' i c1 c2 c3, (.pointer (some ⟨tb, 0, none⟩) : Value) = .pointer (some ⟨b', i, none⟩) ∧ aw1.get b' i = some (.int .u8 c1) ∧
        aw1.get b' (i + 1) = some (.string c2) ∧ aw1.get b' (i + 2) = some (.int .i64 c3) ∧ Q (c1, c2, c3, r14.2.2.2.1, r14.2.2.2.2.1, r14.2.2.2.2.2) aw1) E := by
  refine cutS_i (a := 0) (d := i) rfl rfl (Nat.zero_le _) hi ?_
  simp only [List.drop_zero, Nat.sub_zero]
  have hl : (s.take i).length = i := by simp; omega
  have := T_name (E := E) (aw := aw) (Q := fun r14 aw15 => st aw15 (.pointer (some ⟨tb, 0, none⟩)) [.int .u8 r14.1, .string r14.2.1, .int .i64 r14.2.2.1] fun aw1 => ∃ b' i c1 c2 c3, (.pointer (some ⟨tb, 0, none⟩) : Value) = .pointer (some ⟨b', i, none⟩) ∧ aw1.get b' i = some (.int .u8 c1) ∧
        aw1.get b' (i + 1) = some (.string c2) ∧ aw1.get b' (i + 2) = some (.int .i64 c3) ∧ Q (c1, c2, c3, r14.2.2.2.1, r14.2.2.2.2.1, r14.2.2.2.2.2) aw1) (s.take i) (by omega) (by omega) (hG.ext he) (fun aw' he' => hc.fin (he.trans he') hQ)
  rw [hl] at this
  exact this
theorem T_tok6 : ∀ (n i : Nat) (aw : AW), s.length < i + n → 1 ≤ i → i ≤ s.length → Ext aw1 aw → (∀ aw', Ext aw0 aw' → Q (nameR (s.take (i + ((s.drop i).takeWhile isIn).length))) aw') →
    S18_6 Q E n (mkB s) (.pointer (some ⟨tb, 0, none⟩)) i aw
  | 0, i, aw, hn, _, hi, _, _ => absurd hn (by omega)
  | n + 1, i, aw, hn, h1, hi, he, hQ => by
    have ih := T_tok6 n
    show S18_6s Q E _ _ _ _ _
    unfold S18_6s
    have hsz : (mkB s).size = s.length := rfl
    refine cnd_i (fun c => ?_) (fun c => ?_)
    · have c : i < s.length := by have := of_decide_eq_true c; omega
      have hr : s.drop i = s[i] :: s.drop (i + 1) := List.drop_eq_getElem_cons c
      generalize hx : s[i] = x at hr
      have hxi : s[i]? = some x := by rw [List.getElem?_eq_getElem c, hx]
      rw [hr, List.takeWhile_cons] at hQ
      refine chr_i rfl hxi (T_in x ?_)
      cases hin : isIn x
      · simp only [hin, Bool.false_eq_true, if_false, List.length_nil, Nat.add_zero] at hQ
        simp only [cnd_ff]
        exact T_tok_name s hs hc hG i h1 hi he hQ
      · simp only [hin, if_true, List.length_cons] at hQ
        simp only [cnd_tt]
        rw [i64_in (n := (i : Int) + 1) (by omega) (by omega)]
        exact ih (i + 1) aw (by omega) (by omega) (by omega) he (fun aw' he' => by have := hQ aw' he'; rw [show i + (((s.drop (i + 1)).takeWhile isIn).length + 1) = i + 1 + ((s.drop (i + 1)).takeWhile isIn).length by omega] at this; exact this)
    · have c : i = s.length := by have := of_decide_eq_false c; omega
      have hr : s.drop i = [] := List.drop_eq_nil_of_le (by omega)
      rw [hr] at hQ
      simp only [List.takeWhile_nil, List.length_nil, Nat.add_zero] at hQ
      exact T_tok_name s hs hc hG i h1 hi he hQ
theorem T_tok5 (i : Nat) (h1 : 1 ≤ i) (hi : i ≤ s.length) (hd : ∀ b ∈ s.take i, digit b = true) (q : Bool) (hq : q = (s.drop i).head?.any isIn) (he : Ext aw1 aw)
    (hQ : ∀ aw', Ext aw0 aw' → Q (if (s.drop i).head?.any isIn then bad i 4 else if numVal 0 (s.take i) < 2 ^ 62 then good 4 (s.take i) i else bad 0 1) aw') :
    S18_5 Q E (mkB s) (.pointer (some ⟨tb, 0, none⟩)) i q aw := by
  unfold S18_5
  rw [← hq] at hQ
  cases q
  · simp only [cnd_ff]
    simp only [Bool.false_eq_true, if_false] at hQ
    have hl : (s.take i).length = i := by simp; omega
    have hne : s.take i ≠ [] := fun h => by rw [h] at hl; simp at hl; omega
    refine cutS_i (a := 0) (d := i) rfl rfl (Nat.zero_le _) hi ?_
    simp only [List.drop_zero, Nat.sub_zero]
    have bad' : ∀ aw2, Ext aw1 aw2 → ¬ numVal 0 (s.take i) < 2 ^ 62 → st aw2 (.pointer (some ⟨tb, 0, none⟩)) [.int .u8 0, .string (⟨#[]⟩ : ByteArray), .int .i64 0] fun aw1 => ∃ b' i c1 c2 c3, (.pointer (some ⟨tb, 0, none⟩) : Value) = .pointer (some ⟨b', i, none⟩) ∧ aw1.get b' i = some (.int .u8 c1) ∧
      aw1.get b' (i + 1) = some (.string c2) ∧ aw1.get b' (i + 2) = some (.int .i64 c3) ∧ Q (c1, c2, c3, 0, 0, 1) aw1 := fun aw2 he2 hn => hc.fin he2 fun aw' he' => by
        have := hQ aw' he'
        rw [if_neg hn] at this; exact this
    refine T_parseInt (s.take i) hd (by omega) hne (hG.ext he) (fun h aw2 he2 => ?_) (fun h aw2 v t u he2 => ?_)
    · refine ⟨true, rfl, rfl, cnd_false rfl ?_⟩
      refine cnd_i (fun c => ?_) (fun c => ?_)
      · have c := of_decide_eq_true c
        exact bad' aw2 (he.trans he2) (by omega)
      · have c := of_decide_eq_false c
        refine cutS_i (a := 0) (d := i) rfl rfl (Nat.zero_le _) hi ?_
        simp only [List.drop_zero, Nat.sub_zero]
        refine hc.fin (he.trans he2) fun aw' he' => ?_
        have := hQ aw' he'
        rw [if_pos (by omega)] at this
        exact this
    · refine ⟨false, rfl, rfl, cnd_true rfl ?_⟩
      exact bad' aw2 (he.trans he2) (by omega)
  · simp only [cnd_tt]
    simp only [if_true] at hQ
    exact hc.fin he hQ
theorem T_tok3 : ∀ (n i : Nat) (aw : AW), s.length < i + n → 1 ≤ i → i ≤ s.length → (∀ b ∈ s.take i, digit b = true) → Ext aw1 aw →
    (∀ aw' (j : Nat), j = i + ((s.drop i).takeWhile digit).length → Ext aw0 aw' → Q (if (s.drop j).head?.any isIn then bad j 4 else if numVal 0 (s.take j) < 2 ^ 62 then good 4 (s.take j) j else bad 0 1) aw') →
    S18_3 Q E n (mkB s) (.pointer (some ⟨tb, 0, none⟩)) i aw
  | 0, i, aw, hn, _, hi, _, _, _ => absurd hn (by omega)
  | n + 1, i, aw, hn, h1, hi, hd, he, hQ => by
    have ih := T_tok3 n
    show S18_3s Q E _ _ _ _ _
    unfold S18_3s S18_4
    have hsz : (mkB s).size = s.length := rfl
    refine cnd_i (fun c => ?_) (fun c => ?_)
    · have c : i < s.length := by have := of_decide_eq_true c; omega
      have hr : s.drop i = s[i] :: s.drop (i + 1) := List.drop_eq_getElem_cons c
      generalize hx : s[i] = x at hr
      have hxi : s[i]? = some x := by rw [List.getElem?_eq_getElem c, hx]
      refine chr_i rfl hxi (T_digit x ?_)
      cases hdx : digit x
      · simp only [cnd_ff]
        have h0 : ((s.drop i).takeWhile digit).length = 0 := by rw [hr, List.takeWhile_cons]; simp [hdx]
        refine cnd_true (decide_eq_true (by omega)) (chr_i rfl hxi (T_in x ?_))
        exact T_tok5 s hs hc hG i h1 hi hd (isIn x) (by rw [hr]; rfl) he fun aw' he' => hQ aw' i (by omega) he'
      · simp only [cnd_tt]
        rw [i64_in (n := (i : Int) + 1) (by omega) (by omega)]
        have h0 : ((s.drop i).takeWhile digit).length = ((s.drop (i + 1)).takeWhile digit).length + 1 := by rw [hr, List.takeWhile_cons]; simp [hdx]
        refine ih (i + 1) aw (by omega) (by omega) (by omega) ?_ he fun aw' j hj he' => hQ aw' j (by omega) he'
        intro b hb
        rw [List.take_add_one, hxi] at hb
        simp only [Option.toList_some, List.mem_append, List.mem_singleton] at hb
        rcases hb with hb | rfl
        · exact hd b hb
        · exact hdx
    · have c : i = s.length := by have := of_decide_eq_false c; omega
      have hr : s.drop i = [] := List.drop_eq_nil_of_le (by omega)
      simp only [cnd_ff]
      refine cnd_false (decide_eq_false (by omega)) ?_
      exact T_tok5 s hs hc hG i h1 hi hd false (by rw [hr]; rfl) he fun aw' he' => hQ aw' i (by rw [hr]; simp) he'
end
theorem T_tok2 {Q : Tk → AW → Prop} {aw1 : AW} {tb : Nat} (s : List UInt8) (hc : Cell aw0 aw1 tb) : ∀ (n i : Nat) (aw : AW), 24 < i + n → i ≤ 24 → Ext aw1 aw → (∀ aw', Ext aw0 aw' → Q (signR (signs.drop i) s) aw') →
    S18_2 Q E n (mkB s) (.pointer (some ⟨tb, 0, none⟩)) (strV signs) i aw
  | 0, i, aw, hn, hi, _, _ => absurd hn (by omega)
  | n + 1, i, aw, hn, hi, he, hQ => by
    have ih := T_tok2 (Q := Q) s hc n
    show S18_2s Q E _ _ _ _ _ _
    unfold S18_2s
    refine cnd_i (fun c => ?_) (fun c => ?_)
    · have c : i < signs.length := by have := of_decide_eq_true c; show i < 24; omega
      have hr : signs.drop i = signs[i] :: signs.drop (i + 1) := List.drop_eq_getElem_cons c
      refine ⟨Nat.le_refl 24, by omega, _, strV_get (List.getElem?_eq_getElem c), ?_⟩
      generalize signs[i] = g at hr
      rw [hr] at hQ
      refine T_pre s g ?_
      cases hp : pre g s
      · simp only [cnd_ff]
        rw [i64_in (n := (i : Int) + 1) (by omega) (by omega)]
        exact ih (i + 1) aw (by omega) (by have : i < 24 := c; omega) he (fun aw' he' => by have := hQ aw' he'; simpa only [signR, hp, Bool.false_eq_true, if_false] using this)
      · simp only [cnd_tt]
        refine hc.fin he fun aw' he' => ?_
        have := hQ aw' he'
        simp only [signR, hp, if_true, good] at this
        exact this
    · have c : 24 ≤ i := by have := of_decide_eq_false c; omega
      have hr : signs.drop i = [] := List.drop_eq_nil_of_le (by show 24 ≤ i; omega)
      rw [hr] at hQ
      exact hc.fin he hQ
theorem T_token {Q : Tk → AW → Prop} (s : List UInt8) (h1 : 1 ≤ s.length) (hs : s.length ≤ 2000) (hG : G0 aw) (hQ : ∀ aw', Ext aw aw' → Q (tokR s) aw') : CallP prog 18 [.string (mkB s)] aw sh18 Q E :=
  F18_ok _ _ (by
    obtain ⟨a, r, rfl⟩ : ∃ a r, s = a :: r := by
      cases s with
      | nil => simp at h1
      | cons a r => exact ⟨a, r, rfl⟩
    unfold S18_0
    refine alc_i (chr_i (j := 0) (x := a) rfl rfl ?_)
    have e1 := (Ext.refl aw).alloc [.int .u8 0, .string (⟨#[]⟩ : ByteArray), .int .i64 0] 33 0
    have hG1 := hG.ext e1
    have hc : Cell aw (aw.alloc [.int .u8 0, .string (⟨#[]⟩ : ByteArray), .int .i64 0] 33 0) aw.next := ⟨Nat.le_refl _, by simp, ⟨_, _, _, _, AW.alloc_new _ _ _ _⟩, e1⟩
    have hl : (a :: r).length = r.length + 1 := rfl
    have one' : ∀ q, q = (small a || great a || a == 39) → S18_1 Q E (mkB (a :: r)) (.pointer (some ⟨aw.next, 0, none⟩)) (bn a) 1 q (aw.alloc [.int .u8 0, .string (⟨#[]⟩ : ByteArray), .int .i64 0] 33 0) := by
      intro q hq
      unfold S18_1
      simp only [tokR] at hQ
      rw [← hq] at hQ
      cases q
      · simp only [cnd_ff]
        simp only [Bool.false_eq_true, if_false] at hQ
        refine T_digit a ?_
        cases hd : digit a
        · simp only [cnd_ff]
          simp only [hd, Bool.false_eq_true, if_false] at hQ
          refine cnd_i (fun c => ?_) (fun c => ?_)
          · have c : a = 34 := (bn_eq a 34).1 (of_decide_eq_true c)
            rw [if_pos c] at hQ
            refine T_text (a :: r) h1 hs fun aw2 he2 => ?_
            exact hc.fin he2 hQ
          · have c : a ≠ 34 := fun h => of_decide_eq_false c ((bn_eq a 34).2 h)
            rw [if_neg c] at hQ
            obtain ⟨_, ⟨t, hw⟩, _⟩ := hG1
            refine ⟨_, _, strV signs, rfl, ?_, ⟨25, T_tok2 (a :: r) hc 25 0 _ (by omega) (by omega) (Ext.refl _) hQ⟩⟩
            have := getN_whole hw
            exact this
        · simp only [cnd_tt]
          simp only [hd, if_true] at hQ
          refine ⟨r.length + 2, T_tok3 (a :: r) hs hc hG1 _ 1 _ (by simp; omega) (by omega) (by simp) ?_ (Ext.refl _) ?_⟩
          · intro b hb
            simp at hb; subst hb; exact hd
          · intro aw' j hj he'
            have := hQ aw' he'
            have hj' : j = span digit (a :: r) := hj
            rw [hj']; exact this
      · simp only [cnd_tt]
        simp only [if_true] at hQ
        exact ⟨r.length + 2, T_tok6 (a :: r) hs hc hG1 _ 1 _ (by simp; omega) (by omega) (by simp) (Ext.refl _) hQ⟩
    refine T_small a ?_
    cases h2 : small a
    · simp only [cnd_ff]
      refine T_great a ?_
      cases h3 : great a
      · simp only [cnd_ff]
        refine one' _ ?_
        rw [h2, h3]
        simp only [Bool.false_or]
        by_cases h : a = 39
        · subst h; rfl
        · rw [decide_eq_false (show ¬ bn a = 39 from fun e => h ((bn_eq a 39).1 e))]; simp [h]
      · simp only [cnd_tt]
        exact one' true (by rw [h2, h3]; rfl)
    · simp only [cnd_tt]
      exact one' true (by rw [h2]; rfl))
end Go.Proofs.Tryd
