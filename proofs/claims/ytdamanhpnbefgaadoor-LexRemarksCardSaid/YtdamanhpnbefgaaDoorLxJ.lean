/- The lexer, in plain Lean: tokens further on; a text ahead of another; a remark ahead of a text. -/
import Derived.Test.YtdamanhpnbefgaaDoorLxP
set_option linter.unusedSimpArgs false
set_option linter.unusedVariables false
namespace Go.Lx
open Go Go.Am

def sh (k : Nat) (t : Tok) : Tok := ⟨t.kind, t.text, t.at' + k⟩
theorem toksL_fuel : ∀ (n m : Nat) (s : List UInt8) (i : Nat) (out : List Tok), s.length < n → s.length < m → toksL n s i out = toksL m s i out
  | 0, m, s, i, out, h, _ => absurd h (by omega)
  | n + 1, 0, s, i, out, _, h => absurd h (by omega)
  | n + 1, m + 1, [], i, out, _, _ => by simp [toksL]
  | n + 1, m + 1, c :: r, i, out, h1, h2 => by
    simp only [List.length_cons] at h1 h2
    simp only [toksL]
    split
    · exact toksL_fuel n m r (i + 1) out (by omega) (by omega)
    · split
      · split
        · rfl
        · rename_i q hq
          have hb := rem_bound _ _ _ _ hq
          exact toksL_fuel n m _ _ _ (by simp only [List.length_drop, List.length_cons]; omega) (by simp only [List.length_drop, List.length_cons]; omega)
      · have hf := tokR_fine (s := c :: r) (by simp)
        generalize tokR (c :: r) = T at hf
        rcases hf with ⟨k, x, q, rfl, g1, g2, g3⟩ | ⟨b, e, rfl, g1, g2, g3⟩
        · simp only [good, if_true, Int.toNat_natCast]
          exact toksL_fuel n m _ _ _ (by simp only [List.length_drop, List.length_cons]; omega) (by simp only [List.length_drop, List.length_cons]; omega)
        · rw [if_neg (show ¬ (bad b e).2.2.2.2.2 = 0 from g3), if_neg (show ¬ (bad b e).2.2.2.2.2 = 0 from g3)]
/-- the same, further on -/
theorem toksL_sh (k : Nat) (p : List Tok) : ∀ (n : Nat) (s : List UInt8) (i : Nat) (out : List Tok), s.length < n →
    (toksL n s i out).2.2 = (toksL n s (i + k) (p ++ out.map (sh k))).2.2 ∧
    ((toksL n s i out).2.2 = 0 → (toksL n s (i + k) (p ++ out.map (sh k))).1 = p ++ (toksL n s i out).1.map (sh k)) ∧
    ((toksL n s i out).2.2 ≠ 0 → (toksL n s (i + k) (p ++ out.map (sh k))).2.1 = (toksL n s i out).2.1 + k)
  | 0, s, i, out, h => absurd h (by omega)
  | n + 1, [], i, out, h => by simp [toksL, sh]
  | n + 1, c :: r, i, out, h => by
    simp only [List.length_cons] at h
    simp only [toksL]
    split
    · have := toksL_sh k p n r (i + 1) out (by omega)
      rw [show i + 1 + k = i + k + 1 by omega] at this
      exact this
    · split
      · split
        · simp
        · rename_i m hm
          have hb := rem_bound _ _ _ _ hm
          have := toksL_sh k p n ((c :: r).drop m) (i + m) out (by simp only [List.length_drop, List.length_cons]; omega)
          rw [show i + m + k = i + k + m by omega] at this
          exact this
      · have hf := tokR_fine (s := c :: r) (by simp)
        generalize tokR (c :: r) = T at hf
        rcases hf with ⟨q, x, m, rfl, g1, g2, g3⟩ | ⟨b, e, rfl, g1, g2, g3⟩
        · simp only [good, if_true, Int.toNat_natCast]
          have := toksL_sh k p n ((c :: r).drop m) (i + m) (out ++ [⟨q, mkB x, i⟩]) (by simp only [List.length_drop, List.length_cons]; omega)
          rw [show i + m + k = i + k + m by omega, List.map_append, List.map_cons, List.map_nil, ← List.append_assoc] at this
          have e : sh k ⟨q, mkB x, i⟩ = ⟨q, mkB x, ((i + k : Nat) : Int)⟩ := by simp [sh]
          rw [e] at this
          exact this
        · rw [if_neg (show ¬ (bad b e).2.2.2.2.2 = 0 from g3), if_neg (show ¬ (bad b e).2.2.2.2.2 = 0 from g3)]
          simp only [bad]
          refine ⟨trivial, fun h => absurd h g3, fun _ => ?_⟩
          show ((i + k : Nat) : Int) + b = (i : Int) + b + k
          omega

/-! ## a text with a blank behind it -/
theorem rem_app (x : List UInt8) : ∀ (s : List UInt8) (d : Int) (i m : Nat), rem s d i = some m → rem (s ++ x) d i = some m
  | [], d, i, m, h => by simp [rem] at h
  | [a], d, i, m, h => by simp [rem] at h
  | a :: b :: r, d, i, m, h => by
    simp only [List.cons_append, rem] at h ⊢
    split at h
    · rename_i h1; rw [if_pos h1]; exact rem_app x r _ _ _ h
    · rename_i h1
      rw [if_neg h1]
      split at h
      · rename_i h2
        rw [if_pos h2]
        split at h
        · rename_i h3; rw [if_pos h3]; exact h
        · rename_i h3; rw [if_neg h3]; exact rem_app x r _ _ _ h
      · rename_i h2
        rw [if_neg h2]
        have := rem_app x (b :: r) _ _ _ h
        simpa using this
theorem pre_app {g : List UInt8} (hg : ∀ b ∈ g, b ≠ 10) (s x : List UInt8) : pre g (s ++ 10 :: x) = pre g s := by
  simp only [pre]
  rcases Nat.lt_or_ge s.length g.length with h | h
  · rw [decide_eq_false, decide_eq_false]
    · intro e; have := congrArg List.length e; simp only [List.length_take] at this; omega
    · intro e
      have h1 : (10 : UInt8) ∈ (s ++ 10 :: x).take g.length := by
        have : ((s ++ 10 :: x).take g.length)[s.length]? = some 10 := by
          rw [List.getElem?_take_of_lt h, List.getElem?_append_right (Nat.le_refl _)]; simp
        exact List.mem_of_getElem? this
      rw [e] at h1
      exact hg 10 h1 rfl
  · rw [List.take_append_of_le_length h]
theorem signR_app (s x : List UInt8) : ∀ l : List (List UInt8), (∀ g ∈ l, ∀ b ∈ g, b ≠ 10) → signR l (s ++ 10 :: x) = signR l s
  | [], _ => rfl
  | g :: r, h => by
    simp only [signR, pre_app (h g (by simp)), signR_app s x r fun g hg => h g (by simp [hg])]
theorem tw_app {p : UInt8 → Bool} (hp : p 10 = false) (s x : List UInt8) : (s ++ 10 :: x).takeWhile p = s.takeWhile p := by
  induction s with
  | nil => simp [hp]
  | cons a r ih =>
    simp only [List.cons_append, List.takeWhile_cons, ih]
theorem span_app {p : UInt8 → Bool} (hp : p 10 = false) {s : List UInt8} (h : 1 ≤ s.length) (x : List UInt8) : span p (s ++ 10 :: x) = span p s := by
  unfold span
  rw [List.drop_append_of_le_length h, tw_app hp]
theorem textL_app (x : List UInt8) : ∀ (s : List UInt8) (q : Bool) (i : Nat) (acc : List UInt8), (textL q s i acc).2.2.2.2.2 = 0 → textL q (s ++ x) i acc = textL q s i acc
  | [], q, i, acc, h => by simp [textL, bad] at h
  | c :: r, q, i, acc, h => by
    simp only [textL, List.cons_append] at h ⊢
    split
    · rename_i hq
      rw [if_pos hq] at h
      split
      · rename_i y hy; rw [hy] at h; exact textL_app x _ _ _ _ h
      · rfl
    · rename_i hq
      rw [if_neg hq] at h
      split
      · rfl
      · rename_i h1
        rw [if_neg h1] at h
        split
        · rename_i h2; rw [if_pos h2] at h; exact textL_app x _ _ _ _ h
        · rename_i h2; rw [if_neg h2] at h; exact textL_app x _ _ _ _ h
theorem tokR_app {s : List UInt8} (hs : 1 ≤ s.length) (x : List UInt8) (h : (tokR s).2.2.2.2.2 = 0) : tokR (s ++ 10 :: x) = tokR s := by
  cases s with
  | nil => simp at hs
  | cons c r =>
    have e : ∀ p : UInt8 → Bool, p 10 = false → span p (c :: (r ++ 10 :: x)) = span p (c :: r) := fun p hp => span_app (s := c :: r) hp (by simp) x
    have tk : ∀ n, n ≤ (c :: r).length → (c :: (r ++ 10 :: x)).take n = (c :: r).take n := fun n hn => List.take_append_of_le_length (l₁ := c :: r) hn
    simp only [tokR, List.cons_append] at h ⊢
    split
    · rw [e isIn (by decide), tk _ (span_le isIn (by simp))]
    · rename_i h1
      rw [if_neg h1] at h
      split
      · unfold numR
        rw [e digit (by decide), tk _ (span_le digit (by simp))]
        have hd : (c :: (r ++ 10 :: x)).drop (span digit (c :: r)) = (c :: r).drop (span digit (c :: r)) ++ 10 :: x := List.drop_append_of_le_length (l₁ := c :: r) (span_le digit (by simp))
        rw [hd]
        have hh : (((c :: r).drop (span digit (c :: r)) ++ 10 :: x).head?.any isIn) = (((c :: r).drop (span digit (c :: r))).head?.any isIn) := by
          cases (c :: r).drop (span digit (c :: r)) with
          | nil => rfl
          | cons a t => rfl
        rw [hh]
      · rename_i h2
        rw [if_neg h2] at h
        split
        · rename_i h3
          rw [if_pos h3] at h
          simp only [textR, List.drop_succ_cons, List.drop_zero] at h ⊢
          exact textL_app _ _ _ _ _ h
        · exact signR_app (c :: r) x signs (by decide)
theorem toksL_join (x : List UInt8) : ∀ (n m : Nat) (s : List UInt8) (i : Nat) (out l : List Tok), s.length < n → s.length + x.length + 1 < m → toksL n s i out = (l, 0, 0) →
    ∃ p, l = p ++ [⟨0, mkB [], ((i + s.length : Nat) : Int)⟩] ∧ toksL m (s ++ 10 :: x) i out = toksL (x.length + 1) x (i + s.length + 1) p
  | 0, m, s, i, out, l, h, _, _ => absurd h (by omega)
  | n + 1, 0, s, i, out, l, _, h, _ => absurd h (by omega)
  | n + 1, m + 1, [], i, out, l, _, h2, h => by
    simp only [toksL, Prod.mk.injEq, and_true] at h
    refine ⟨out, h.symm, ?_⟩
    simp only [List.nil_append, toksL, show isBlank 10 = true by decide, if_true]
    exact toksL_fuel _ _ _ _ _ (by simp at h2; omega) (by omega)
  | n + 1, m + 1, c :: r, i, out, l, h1, h2, h => by
    simp only [List.length_cons] at h1 h2
    simp only [List.cons_append, toksL] at h ⊢
    have hpre : pre [40, 42] (c :: (r ++ 10 :: x)) = pre [40, 42] (c :: r) := pre_app (s := c :: r) (by decide) x
    rw [hpre]
    split
    · rename_i hb
      rw [if_pos hb] at h
      obtain ⟨p, e1, e2⟩ := toksL_join x n m r (i + 1) out l (by omega) (by omega) h
      refine ⟨p, by rw [e1, List.length_cons]; congr 4; omega, ?_⟩
      rw [e2, List.length_cons]; congr 1; omega
    · rename_i hb
      rw [if_neg hb] at h
      split
      · rename_i hp
        rw [if_pos hp] at h
        split at h
        · simp at h
        · rename_i q hq
          have hbd := rem_bound _ _ _ _ hq
          simp only [List.length_cons] at hbd
          have := rem_app (10 :: x) _ _ _ _ hq
          simp only [List.cons_append] at this
          rw [this]
          have hd : (c :: (r ++ 10 :: x)).drop q = (c :: r).drop q ++ 10 :: x := List.drop_append_of_le_length (l₁ := c :: r) (by simp only [List.length_cons]; omega)
          have hl : ((c :: r).drop q).length = r.length + 1 - q := by simp
          obtain ⟨p, e1, e2⟩ := toksL_join x n m ((c :: r).drop q) (i + q) out l (by omega) (by omega) h
          refine ⟨p, by rw [e1, hl, List.length_cons]; congr 4; omega, ?_⟩
          simp only [hd]
          rw [e2, hl, List.length_cons]; congr 1; omega
      · rename_i hp
        rw [if_neg hp] at h
        have hf := tokR_fine (s := c :: r) (by simp)
        have ha := tokR_app (s := c :: r) (by simp) x
        rw [List.cons_append] at ha
        generalize tokR (c :: r) = T at hf ha h
        rcases hf with ⟨k, y, q, rfl, g1, g2, g3⟩ | ⟨b, e, rfl, g1, g2, g3⟩
        · rw [ha rfl]
          simp only [good, if_true, Int.toNat_natCast] at h ⊢
          simp only [List.length_cons] at g2
          have hd : (c :: (r ++ 10 :: x)).drop q = (c :: r).drop q ++ 10 :: x := List.drop_append_of_le_length (l₁ := c :: r) (by simp only [List.length_cons]; omega)
          have hl : ((c :: r).drop q).length = r.length + 1 - q := by simp
          obtain ⟨p, e1, e2⟩ := toksL_join x n m ((c :: r).drop q) (i + q) _ l (by omega) (by omega) h
          refine ⟨p, by rw [e1, hl, List.length_cons]; congr 4; omega, ?_⟩
          rw [hd, e2, hl, List.length_cons]; congr 1; omega
        · rw [if_neg (show ¬ (bad b e).2.2.2.2.2 = 0 from g3)] at h
          simp only [bad, Prod.mk.injEq] at h
          exact absurd h.2.2 g3
theorem toksL_at0 : ∀ (n : Nat) (s : List UInt8) (i : Nat) (out : List Tok), s.length < n → (toksL n s i out).2.2 = 0 → (toksL n s i out).2.1 = 0
  | 0, s, i, out, h, _ => absurd h (by omega)
  | n + 1, [], i, out, _, _ => by simp [toksL]
  | n + 1, c :: r, i, out, h, h0 => by
    simp only [List.length_cons] at h
    simp only [toksL] at h0 ⊢
    split
    · rename_i hb; rw [if_pos hb] at h0; exact toksL_at0 n r _ _ (by omega) h0
    · rename_i hb
      rw [if_neg hb] at h0
      split
      · rename_i hp
        rw [if_pos hp] at h0
        split at h0
        · simp at h0
        · rename_i q hq
          have hbd := rem_bound _ _ _ _ hq
          exact toksL_at0 n _ _ _ (by simp only [List.length_drop, List.length_cons]; omega) h0
      · rename_i hp
        rw [if_neg hp] at h0
        have hf := tokR_fine (s := c :: r) (by simp)
        generalize tokR (c :: r) = T at hf h0
        rcases hf with ⟨k, y, q, rfl, g1, g2, g3⟩ | ⟨b, e, rfl, g1, g2, g3⟩
        · simp only [good, if_true, Int.toNat_natCast] at h0 ⊢
          exact toksL_at0 n _ _ _ (by simp only [List.length_drop, List.length_cons]; omega) h0
        · rw [if_neg (show ¬ (bad b e).2.2.2.2.2 = 0 from g3)] at h0
          exact absurd h0 g3
theorem tokens_join {a b : List UInt8} (hl : a.length + b.length ≤ 1999) (ha : (tokens a).2.2 = 0) :
    (tokens b).2.2 = (tokens (a ++ 10 :: b)).2.2 ∧
    ((tokens b).2.2 = 0 → (tokens (a ++ 10 :: b)).1 = (tokens a).1.dropLast ++ (tokens b).1.map (sh (a.length + 1)) ∧ (tokens a).1 ≠ []) ∧
    ((tokens b).2.2 ≠ 0 → (tokens (a ++ 10 :: b)).2.1 = (tokens b).2.1 + ((a.length + 1 : Nat) : Int)) := by
  have e1 : tokens a = toksL (a.length + 1) a 0 [] := by unfold tokens; rw [if_neg (by omega)]
  have e2 : tokens b = toksL (b.length + 1) b 0 [] := by unfold tokens; rw [if_neg (by omega)]
  have e3 : tokens (a ++ 10 :: b) = toksL ((a ++ 10 :: b).length + 1) (a ++ 10 :: b) 0 [] := by unfold tokens; rw [if_neg (by simp only [List.length_append, List.length_cons]; omega)]
  have h0 : toksL (a.length + 1) a 0 [] = ((tokens a).1, 0, 0) := by
    rw [← e1]
    have h1 := toksL_at0 (a.length + 1) a 0 [] (by omega) (by rw [← e1]; exact ha)
    rw [← e1] at h1
    exact Prod.ext rfl (Prod.ext h1 ha)
  obtain ⟨p, g1, g2⟩ := toksL_join b (a.length + 1) ((a ++ 10 :: b).length + 1) a 0 [] _ (by omega) (by simp only [List.length_append, List.length_cons]; omega) h0
  have hs := toksL_sh (a.length + 1) p (b.length + 1) b 0 [] (by omega)
  simp only [List.map_nil, List.append_nil] at hs
  rw [show 0 + a.length + 1 = 0 + (a.length + 1) by omega] at g2
  rw [e3, g2, e2, g1]
  refine ⟨hs.1, fun h => ⟨?_, by simp⟩, hs.2.2⟩
  rw [hs.2.1 h]
  simp

/-! ## a remark ahead -/
def calm (b : UInt8) : Bool := b != 40 && b != 42 && b != 41
theorem rem_calm (d : Int) (hd : d ≠ 0) (x : List UInt8) : ∀ (r : List UInt8) (i : Nat), (∀ b ∈ r, calm b = true) → rem (r ++ 42 :: 41 :: x) d i = if d - 1 = 0 then some (i + r.length + 2) else rem x (d - 1) (i + r.length + 2)
  | [], i, _ => by simp [rem]
  | a :: r, i, h => by
    have ha := h a (by simp)
    simp only [calm, Bool.and_eq_true, bne_iff_ne, ne_eq] at ha
    have ih := rem_calm d hd x r (i + 1) (fun b hb => h b (by simp [hb]))
    have step : rem (a :: (r ++ 42 :: 41 :: x)) d i = rem (r ++ 42 :: 41 :: x) d (i + 1) := by
      cases hr : r ++ 42 :: 41 :: x with
      | nil => simp at hr
      | cons b t =>
        simp only [rem]
        rw [if_neg (fun hh => ha.1.1 hh.1), if_neg (fun hh => ha.1.2 hh.1)]
    rw [List.cons_append, step, ih, List.length_cons, show i + 1 + r.length + 2 = i + (r.length + 1) + 2 by omega]
theorem rem_remark (r x : List UInt8) (h : ∀ b ∈ r, calm b = true) : rem (40 :: 42 :: 32 :: 40 :: 42 :: (r ++ 42 :: 41 :: 32 :: 42 :: 41 :: x)) 0 0 = some (10 + r.length) := by
  have h1 : rem (40 :: 42 :: 32 :: 40 :: 42 :: (r ++ 42 :: 41 :: 32 :: 42 :: 41 :: x)) 0 0 = rem (r ++ 42 :: 41 :: 32 :: 42 :: 41 :: x) 2 5 := by simp [rem]
  rw [h1, rem_calm 2 (by decide) _ r 5 h]
  simp [rem]; omega
theorem tokens_remark {s r : List UInt8} (hl : s.length ≤ 900) (hr : r.length ≤ 900) (h : ∀ b ∈ r, calm b = true) :
    let t := 40 :: 42 :: 32 :: 40 :: 42 :: (r ++ [42, 41, 32, 42, 41])
    (tokens s).2.2 = (tokens (t ++ s)).2.2 ∧ ((tokens s).2.2 = 0 → (tokens (t ++ s)).1 = (tokens s).1.map (sh t.length)) ∧ ((tokens s).2.2 ≠ 0 → (tokens (t ++ s)).2.1 = (tokens s).2.1 + (t.length : Int)) := by
  intro t
  have ht : t.length = 10 + r.length := by simp [t]; omega
  have e2 : tokens s = toksL (s.length + 1) s 0 [] := by unfold tokens; rw [if_neg (by omega)]
  have e3 : tokens (t ++ s) = toksL ((t ++ s).length + 1) (t ++ s) 0 [] := by unfold tokens; rw [if_neg (by simp only [List.length_append]; omega)]
  have hrem : rem (t ++ s) 0 0 = some t.length := by
    rw [ht]
    have := rem_remark r s h
    simpa [t] using this
  have hcons : t ++ s = 40 :: (42 :: 32 :: 40 :: 42 :: (r ++ [42, 41, 32, 42, 41]) ++ s) := rfl
  have e4 : toksL ((t ++ s).length + 1) (t ++ s) 0 [] = toksL (t ++ s).length s t.length [] := by
    have hd : (t ++ s).drop t.length = s := List.drop_left
    rw [hcons] at hrem hd ⊢
    simp only [toksL, show isBlank 40 = false by decide, Bool.false_eq_true, if_false]
    rw [if_pos (by simp [pre]), hrem]
    simp only [hd, Nat.zero_add]
  have e5 : toksL (t ++ s).length s t.length [] = toksL (s.length + 1) s (0 + t.length) [] := by
    rw [Nat.zero_add]
    exact toksL_fuel _ _ _ _ _ (by simp only [List.length_append]; omega) (by omega)
  have hs := toksL_sh t.length [] (s.length + 1) s 0 [] (by omega)
  simp only [List.map_nil, List.append_nil, List.nil_append] at hs
  rw [e3, e4, e5, e2]
  exact hs
end Go.Lx
