/- The law of places. -/
import Derived.Test.YtdamanhpnbefgaaDoorTrydBC
import Derived.Test.YtdamanhpnbefgaaDoorTrydS7
set_option linter.unusedSimpArgs false
set_option linter.unusedVariables false
namespace Go.Proofs.Tryd
open Go Go.Am Go.Lx
variable {E : List PanicEntry → AW → Prop} {aw aw0 : AW}

/-- what a token's text says of the text that it was read from -/
def Says (s : List UInt8) (k : Int) (t : ByteArray) : Prop := k = 5 ∨ ∃ x, t = mkB x ∧ s.take x.length = x
theorem take_self {s : List UInt8} (n : Nat) : s.take (s.take n).length = s.take n := by
  rw [List.length_take]
  rcases Nat.le_total n s.length with h | h
  · rw [Nat.min_eq_left h]
  · rw [Nat.min_eq_right h, List.take_of_length_le (Nat.le_refl _), List.take_of_length_le h]
theorem says_good (s : List UInt8) (k : Int) (n m : Nat) : Says s (good k (s.take n) m).1 (good k (s.take n) m).2.1 := .inr ⟨_, rfl, take_self n⟩
theorem signR_says (s : List UInt8) : ∀ l : List (List UInt8), (signR l s).2.2.2.2.2 = 0 → Says s (signR l s).1 (signR l s).2.1
  | [], h => by simp [signR, bad] at h
  | g :: r, h => by
    simp only [signR] at h ⊢
    split
    · rename_i hp; exact .inr ⟨g, rfl, of_decide_eq_true hp⟩
    · rename_i hp; rw [if_neg hp] at h; exact signR_says s r h
theorem nameR_says (s : List UInt8) (n : Nat) (h : (nameR (s.take n)).2.2.2.2.2 = 0) : Says s (nameR (s.take n)).1 (nameR (s.take n)).2.1 := by
  unfold nameR at h ⊢
  split at h
  · simp [bad] at h
  · rename_i h1
    rw [if_neg h1]
    split at h
    · rename_i h2; rw [if_pos h2]; exact says_good _ _ _ _
    · rename_i h2
      rw [if_neg h2]
      split at h
      · rename_i h3
        rw [if_pos h3]
        split at h
        · rename_i h4; rw [if_pos h4]; exact says_good _ _ _ _
        · simp [bad] at h
      · rename_i h3
        rw [if_neg h3]
        split
        · exact says_good _ _ _ _
        · exact says_good _ _ _ _
theorem numR_says (s : List UInt8) (h : (numR s).2.2.2.2.2 = 0) : Says s (numR s).1 (numR s).2.1 := by
  unfold numR at h ⊢
  split at h
  · simp [bad] at h
  · rename_i h1
    rw [if_neg h1]
    split at h
    · rename_i h2; rw [if_pos h2]; exact says_good _ _ _ _
    · simp [bad] at h
theorem textL_kind : ∀ (s : List UInt8) (q : Bool) (i : Nat) (acc : List UInt8), (textL q s i acc).2.2.2.2.2 = 0 → (textL q s i acc).1 = 5
  | [], q, i, acc, h => by simp [textL, bad] at h
  | c :: r, q, i, acc, h => by
    simp only [textL] at h ⊢
    split
    · rename_i hq
      rw [if_pos hq] at h
      split
      · rename_i x hx; rw [hx] at h; exact textL_kind _ _ _ _ h
      · rename_i hx; rw [hx] at h; simp [bad] at h
    · rename_i hq
      rw [if_neg hq] at h
      split
      · rfl
      · rename_i h1
        rw [if_neg h1] at h
        split
        · rename_i h2; rw [if_pos h2] at h; exact textL_kind _ _ _ _ h
        · rename_i h2; rw [if_neg h2] at h; exact textL_kind _ _ _ _ h
theorem tokR_says (s : List UInt8) (h : (tokR s).2.2.2.2.2 = 0) : Says s (tokR s).1 (tokR s).2.1 := by
  cases s with
  | nil => simp [tokR, bad] at h
  | cons c r =>
    simp only [tokR] at h ⊢
    split at h
    · rename_i h1; rw [if_pos h1]; exact nameR_says _ _ h
    · rename_i h1
      rw [if_neg h1]
      split at h
      · rename_i h2; rw [if_pos h2]; exact numR_says _ h
      · rename_i h2
        rw [if_neg h2]
        split at h
        · rename_i h3; rw [if_pos h3]; exact .inl (textL_kind _ _ _ _ h)
        · rename_i h3; rw [if_neg h3]; exact signR_says _ _ h

/-- a token stands in its text -/
def Stands (s : List UInt8) (t : Tok) (top : Nat) : Prop := ∃ a : Nat, t.at' = a ∧ a < top ∧ t.kind ≠ 0 ∧ (t.kind = 5 ∨ ∃ x, t.text = mkB x ∧ a + x.length ≤ s.length ∧ (s.drop a).take x.length = x)
def Rising (l : List Tok) : Prop := ∀ i t u, l[i]? = some t → l[i + 1]? = some u → t.at' < u.at'
theorem rising_snoc {l : List Tok} {t : Tok} (h : Rising l) (k : ∀ u ∈ l, u.at' < t.at') : Rising (l ++ [t]) := by
  intro i a b h1 h2
  rcases Nat.lt_or_ge (i + 1) l.length with hi | hi
  · rw [List.getElem?_append_left (by omega)] at h1
    rw [List.getElem?_append_left hi] at h2
    exact h i a b h1 h2
  · have hb : i + 1 < (l ++ [t]).length := (List.getElem?_eq_some_iff.1 h2).1
    simp only [List.length_append, List.length_cons, List.length_nil] at hb
    have e : i + 1 = l.length := by omega
    rw [List.getElem?_append_left (by omega)] at h1
    rw [e, List.getElem?_append_right (Nat.le_refl _)] at h2
    simp at h2; subst h2
    exact k a (List.mem_of_getElem? h1)
structure Covers (s : List UInt8) (r : Res) : Prop where
  bad : r.2.2 ≠ 0 → r.1 = [] ∧ 0 ≤ r.2.1 ∧ r.2.1 ≤ s.length
  good : r.2.2 = 0 → r.2.1 = 0 ∧ ∃ out, r.1 = out ++ [⟨0, mkB [], (s.length : Nat)⟩] ∧ (∀ t ∈ out, Stands s t s.length) ∧ Rising r.1
theorem toksL_covers (s : List UInt8) : ∀ (n i : Nat) (out : List Tok), s.length < i + n → i ≤ s.length → (∀ t ∈ out, Stands s t i) → Rising out → Covers s (toksL n (s.drop i) i out)
  | 0, i, out, hn, hi, _, _ => absurd hn (by omega)
  | n + 1, i, out, hn, hi, ho, hr => by
    have ih := toksL_covers s n
    have up : ∀ {t j}, i ≤ j → Stands s t i → Stands s t j := fun hj ⟨a, h1, h2, h3⟩ => ⟨a, h1, by omega, h3⟩
    rcases Nat.lt_or_ge i s.length with hlt | hge
    · obtain ⟨c, r, hcr⟩ : ∃ c r, s.drop i = c :: r := ⟨_, _, List.drop_eq_getElem_cons hlt⟩
      have hlen : (c :: r).length = s.length - i := by rw [← hcr]; simp
      have hdrop : ∀ m, (c :: r).drop m = s.drop (i + m) := fun m => by rw [← hcr, List.drop_drop]
      rw [hcr]
      simp only [toksL]
      split
      · have := ih (i + 1) out (by omega) (by omega) (fun t ht => up (by omega) (ho t ht)) hr
        rw [← hdrop 1] at this
        exact this
      · split
        · split
          · exact ⟨fun _ => ⟨rfl, by simp, by simp; omega⟩, fun h => by simp at h⟩
          · rename_i m hm
            have hb := rem_bound _ _ _ _ hm
            rw [hdrop]
            exact ih (i + m) out (by omega) (by omega) (fun t ht => up (by omega) (ho t ht)) hr
        · have hf := tokR_fine (s := c :: r) (by simp)
          have hs := tokR_says (c :: r)
          generalize tokR (c :: r) = T at hf hs
          rcases hf with ⟨k, x, m, rfl, h1, h2, h3⟩ | ⟨b, e, rfl, h1, h2, h3⟩
          · rw [if_pos (show (Lx.good k x m).2.2.2.2.2 = 0 from rfl)]
            have hs := hs rfl
            simp only [Lx.good, Int.toNat_natCast] at hs ⊢
            rw [hdrop]
            refine ih (i + m) _ (by omega) (by omega) ?_ ?_
            · intro t ht
              rcases List.mem_append.1 ht with ht | ht
              · exact up (by omega) (ho t ht)
              · simp at ht; subst ht
                refine ⟨i, rfl, by omega, h3, ?_⟩
                rcases hs with hs | ⟨y, hy, hy2⟩
                · exact .inl hs
                · refine .inr ⟨y, hy, ?_, by rw [hcr]; exact hy2⟩
                  have := congrArg List.length hy2
                  simp only [List.length_take] at this
                  omega
            · refine rising_snoc hr fun u hu => ?_
              obtain ⟨a, e1, e2, _⟩ := ho u hu
              show u.at' < (i : Int)
              omega
          · rw [if_neg (show ¬ (Lx.bad b e).2.2.2.2.2 = 0 from h3)]
            exact ⟨fun _ => ⟨rfl, by simp only [Lx.bad]; omega, by simp only [Lx.bad]; omega⟩, fun h => absurd h h3⟩
    · obtain rfl : i = s.length := by omega
      rw [List.drop_length]
      simp only [toksL]
      refine ⟨fun h => absurd rfl h, fun _ => ⟨rfl, out, rfl, ho, rising_snoc hr fun u hu => ?_⟩⟩
      obtain ⟨a, e1, e2, _⟩ := ho u hu
      show u.at' < (s.length : Int)
      omega
theorem tokens_covers (s : List UInt8) : Covers s (tokens s) := by
  unfold tokens
  split
  · exact ⟨fun _ => ⟨rfl, by simp, by simp⟩, fun h => by simp at h⟩
  · have := toksL_covers s (s.length + 1) 0 [] (by omega) (by omega) (fun t ht => by simp at ht) (fun i t u h => by simp at h)
    simpa using this
theorem toksL_len : ∀ (n : Nat) (s : List UInt8) (i : Nat) (out : List Tok), (toksL n s i out).1.length ≤ out.length + s.length + 1
  | 0, s, i, out => by simp [toksL]
  | n + 1, [], i, out => by simp [toksL]
  | n + 1, c :: r, i, out => by
    simp only [toksL]
    split
    · have := toksL_len n r (i + 1) out; simp only [List.length_cons]; omega
    · split
      · split
        · simp
        · rename_i m hm
          have hb := rem_bound _ _ _ _ hm
          have := toksL_len n ((c :: r).drop m) (i + m) out
          simp only [List.length_drop] at this
          omega
      · split
        · rename_i h0
          have hf := tokR_fine (s := c :: r) (by simp)
          generalize tokR (c :: r) = T at hf h0
          rcases hf with ⟨k, x, m, rfl, h1, h2, h3⟩ | ⟨b, e, rfl, h1, h2, h3⟩
          · simp only [Lx.good, Int.toNat_natCast]
            have := toksL_len n ((c :: r).drop m) (i + m) (out ++ [⟨k, mkB x, i⟩])
            simp only [List.length_drop, List.length_append, List.length_cons, List.length_nil] at this ⊢
            simp only [List.length_cons] at h2
            omega
          · exact absurd h0 h3
        · simp
theorem tokens_len (s : List UInt8) : (tokens s).1.length ≤ 2001 := by
  unfold tokens
  split
  · simp
  · have := toksL_len (s.length + 1) s 0 []
    simp only [List.length_nil] at this
    omega
/-- each token, as the law asks it -/
structure Place (s : List UInt8) (l : List Tok) (i : Nat) (t : Tok) : Prop where
  up : ∀ u, 0 < i → l[i - 1]? = some u → u.at' < t.at'
  le : ∃ a : Nat, t.at' = a ∧ a ≤ s.length ∧ (t.kind ≠ 5 → t.kind ≠ 0 → ∃ x, t.text = mkB x ∧ a + x.length ≤ s.length ∧ (s.drop a).take x.length = x)
  fin : t.kind = 0 ↔ i + 1 = l.length
theorem Covers.place {s : List UInt8} {r : Res} (h : Covers s r) (h0 : r.2.2 = 0) {i : Nat} {t : Tok} (hi : r.1[i]? = some t) : Place s r.1 i t := by
  obtain ⟨_, out, ho, hs, hr⟩ := h.good h0
  refine ⟨fun u hp hu => hr (i - 1) u t hu (by rw [Nat.sub_add_cancel hp]; exact hi), ?_, ?_⟩
  · rw [ho] at hi
    rcases Nat.lt_or_ge i out.length with hlt | hge
    · rw [List.getElem?_append_left hlt] at hi
      obtain ⟨a, e1, e2, e3, e4⟩ := hs t (List.mem_of_getElem? hi)
      exact ⟨a, e1, by omega, fun h5 _ => e4.resolve_left h5⟩
    · have hb := (List.getElem?_eq_some_iff.1 hi).1
      simp only [List.length_append, List.length_cons, List.length_nil] at hb
      rw [List.getElem?_append_right hge, show i - out.length = 0 by omega] at hi
      simp at hi; subst hi
      exact ⟨s.length, rfl, Nat.le_refl _, fun _ h => absurd rfl h⟩
  · rw [ho] at hi ⊢
    have hb := (List.getElem?_eq_some_iff.1 hi).1
    simp only [List.length_append, List.length_cons, List.length_nil] at hb ⊢
    rcases Nat.lt_or_ge i out.length with hlt | hge
    · rw [List.getElem?_append_left hlt] at hi
      obtain ⟨a, e1, e2, e3, e4⟩ := hs t (List.mem_of_getElem? hi)
      exact ⟨fun h => absurd h e3, fun h => by omega⟩
    · rw [List.getElem?_append_right hge, show i - out.length = 0 by omega] at hi
      simp at hi; subst hi
      exact ⟨fun _ => by omega, fun _ => rfl⟩
theorem T_covers2 {nx : ByteArray → Value → Int → Int → AW → Prop} (s : List UInt8) {l : List Tok} {i : Nat} {t : Tok} (hp : Place s l i t) (hs : s.length ≤ reachBytes) {v : Value} {b : Nat} {q : Bool} (hq : q = false)
    (g0 : aw.get b 0 = some (.int .u8 t.kind)) (g1 : aw.get b 1 = some (.string t.text)) (g2 : aw.get b 2 = some (.int .i64 t.at')) (hK : nx (mkB s) v 0 ((i : Int) + 1) aw) (hi : i < 100000) :
    S5_2 (fun r _ => r = true) E nx (mkB s) v 0 i (.pointer (some ⟨b, 0, none⟩)) q aw := by
  subst hq
  unfold S5_2
  have hreach : reachBytes = 140737488351232 := rfl
  rw [i64_in (n := (i : Int) + 1) (by omega) (by omega)]
  obtain ⟨a, e1, e2, e3⟩ := hp.le
  refine cnd_false rfl (fldA_i (ldI_i g0 (cnd_i (fun c1 => ?_) (fun c1 => hK))))
  refine fldA_i (ldI_i g0 (cnd_i (fun c2 => ?_) (fun c2 => hK)))
  obtain ⟨x, f1, f2, f3⟩ := e3 (by simpa using c1) (by simpa using c2)
  rw [f1] at g1
  rw [e1] at g2
  refine fldA_i (ldI_i g2 (fldA_i (ldS_i g1 ?_)))
  rw [mkB_size, mkB_size, i64_in (n := (s.length : Int) - (a : Int)) (by omega) (by omega)]
  refine cnd_false (by simp; omega) (fldA_i (ldI_i g2 (fldA_i (ldI_i g2 (fldA_i (ldS_i g1 ?_))))))
  rw [mkB_size, i64_in (n := (a : Int) + (x.length : Int)) (by omega) (by omega)]
  refine cutS_i (a := a) (d := a + x.length) rfl (by omega) (by omega) (by omega) ?_
  refine fldA_i (ldS_i g1 ?_)
  rw [show a + x.length - a = x.length by omega, f3]
  exact cnd_false (by simp) hK
theorem T_covers_loop (s : List UInt8) (hs : s.length ≤ reachBytes) {l : List Tok} {v : Value} (hl0 : l.length < 100000) (hne : l ≠ []) (hp : ∀ i t, l[i]? = some t → Place s l i t) (hlast : ∀ t, l[l.length - 1]? = some t → t.at' = s.length) :
    ∀ (n i : Nat) (aw : AW), TokS aw0 aw v l → l.length < i + n → i ≤ l.length → S5_1 (fun r _ => r = true) E n (mkB s) v 0 i aw
  | 0, i, aw, hv, hn, hi => absurd hn (by omega)
  | n + 1, i, aw, hv, hn, hi => by
    have ih := T_covers_loop s hs (v := v) hl0 hne hp hlast n
    show S5_1s _ E _ _ _ _ _ _
    unfold S5_1s
    have hlp : 0 < l.length := List.length_pos_iff.2 hne
    have hreach : reachBytes = 140737488351232 := rfl
    obtain ⟨g, rfl, hat⟩ := TokS.at hv hne
    refine slen_i (cnd_i (fun c1 => ?_) (fun c1 => ?_))
    · have c1 : i < l.length := by have := of_decide_eq_true c1; omega
      obtain ⟨t, ht⟩ : ∃ t, l[i]? = some t := ⟨_, List.getElem?_eq_getElem c1⟩
      obtain ⟨a0, a1, a2⟩ := hat i t ht
      have hpl := hp i t ht
      refine ixS_i (j := i) rfl c1 ⟨g, 0 + i * 3, t.kind, t.text, t.at', rfl, by simpa using a0, by simpa using a1, by simpa using a2, alc_i (st_i (AW.alloc_new _ _ _ _) rfl (by simp) (Nat.zero_le _) rfl ?_)⟩
      have he : Ext aw ((aw.alloc [.int .u8 0, .string (⟨#[]⟩ : ByteArray), .int .i64 0] 33 0).lay aw.next ⟨putL [.int .u8 0, .string (⟨#[]⟩ : ByteArray), .int .i64 0] 0 [.int .u8 t.kind, .string t.text, .int .i64 t.at'], 33, 0, true, 0⟩) :=
        ((Ext.refl aw).alloc _ _ _).lay _ (Nat.le_refl _)
      have b0 : ((aw.alloc [.int .u8 0, .string (⟨#[]⟩ : ByteArray), .int .i64 0] 33 0).lay aw.next ⟨putL [.int .u8 0, .string (⟨#[]⟩ : ByteArray), .int .i64 0] 0 [.int .u8 t.kind, .string t.text, .int .i64 t.at'], 33, 0, true, 0⟩).get aw.next 0 = some (.int .u8 t.kind) := by simp [AW.get, putL]
      have b1 : ((aw.alloc [.int .u8 0, .string (⟨#[]⟩ : ByteArray), .int .i64 0] 33 0).lay aw.next ⟨putL [.int .u8 0, .string (⟨#[]⟩ : ByteArray), .int .i64 0] 0 [.int .u8 t.kind, .string t.text, .int .i64 t.at'], 33, 0, true, 0⟩).get aw.next 1 = some (.string t.text) := by simp [AW.get, putL]
      have b2 : ((aw.alloc [.int .u8 0, .string (⟨#[]⟩ : ByteArray), .int .i64 0] 33 0).lay aw.next ⟨putL [.int .u8 0, .string (⟨#[]⟩ : ByteArray), .int .i64 0] 0 [.int .u8 t.kind, .string t.text, .int .i64 t.at'], 33, 0, true, 0⟩).get aw.next 2 = some (.int .i64 t.at') := by simp [AW.get, putL]
      simp only [AW.alloc_new]
      generalize (aw.alloc [.int .u8 0, .string (⟨#[]⟩ : ByteArray), .int .i64 0] 33 0).lay aw.next ⟨putL [.int .u8 0, .string (⟨#[]⟩ : ByteArray), .int .i64 0] 0 [.int .u8 t.kind, .string t.text, .int .i64 t.at'], 33, 0, true, 0⟩ = aw3 at he b0 b1 b2 ⊢
      have hv3 : TokS aw0 aw3 (.slice (some ⟨g, 0, none⟩) l.length UNK) l := Own.ext hv he
      obtain ⟨g', hg', hat3⟩ := TokS.at hv3 hne
      obtain rfl : g = g' := by simpa using hg'
      obtain ⟨a, e1, e2, _⟩ := hpl.le
      have hend : ∀ q, q = (!((decide (t.kind = 0)) == (decide ((i : Int) = (IntKind.i64.wrap ((l.length : Int) - 1)))))) → S5_2 (fun r _ => r = true) E (S5_1 (fun r _ => r = true) E n) (mkB s) (.slice (some ⟨g, 0, none⟩) l.length UNK) 0 i (.pointer (some ⟨aw.next, 0, none⟩)) q aw3 := by
        intro q hq
        refine T_covers2 s hpl hs ?_ b0 b1 b2 (ih (i + 1) aw3 hv3 (by omega) (by omega)) (by omega)
        rw [hq, i64_in (n := (l.length : Int) - 1) (by omega) (by omega)]
        have := hpl.fin
        by_cases hk : t.kind = 0
        · have := this.1 hk
          simp [hk]; omega
        · have h2 : ¬ i + 1 = l.length := fun h => hk (this.2 h)
          simp [hk]; omega
      have rest : fldA (.pointer (some ⟨aw.next, 0, none⟩)) 2 fun p161 =>
          ldI .i64 aw3 p161 fun x169 =>
          cnd (decide (((mkB s).size : Int) < x169)) (S5_2 (fun r _ => r = true) E (S5_1 (fun r _ => r = true) E n) (mkB s) (.slice (some ⟨g, 0, none⟩) l.length UNK) 0 i (.pointer (some ⟨aw.next, 0, none⟩)) true aw3) (fldA (.pointer (some ⟨aw.next, 0, none⟩)) 0 fun p172 =>
          ldI .u8 aw3 p172 fun x180 =>
          slen (.slice (some ⟨g, 0, none⟩) l.length UNK) fun n182 =>
          S5_2 (fun r _ => r = true) E (S5_1 (fun r _ => r = true) E n) (mkB s) (.slice (some ⟨g, 0, none⟩) l.length UNK) 0 i (.pointer (some ⟨aw.next, 0, none⟩)) (!((decide (x180 = 0)) == (decide ((i : Int) = (IntKind.i64.wrap (n182 - 1)))))) aw3) :=
        fldA_i (ldI_i b2 (cnd_false (decide_eq_false (by rw [mkB_size, e1]; omega)) (fldA_i (ldI_i b0 (slen_i (hend _ rfl))))))
      refine cnd_i (fun c2 => ?_) (fun c2 => rest)
      have c2 : 0 < i := by have := of_decide_eq_true c2; omega
      obtain ⟨u, hu⟩ : ∃ u, l[i - 1]? = some u := ⟨_, List.getElem?_eq_getElem (by omega)⟩
      obtain ⟨_, _, u2⟩ := hat3 (i - 1) u hu
      have hup := hpl.up u c2 hu
      rw [i64_in (n := (i : Int) - 1) (by omega) (by omega)]
      refine fldA_i (ldI_i b2 (ixS_i (j := i - 1) (by omega) (by omega) (fldA_i (ldI_i (n := u.at') (by simpa using u2) (cnd_false (by simp; omega) rest)))))
    · have c1 : i = l.length := by have := of_decide_eq_false c1; omega
      subst c1
      obtain ⟨t, ht⟩ : ∃ t, l[l.length - 1]? = some t := ⟨_, List.getElem?_eq_getElem (by omega)⟩
      obtain ⟨_, _, u2⟩ := hat _ t ht
      refine cnd_true rfl (slen_i (cnd_true (by simp; omega) (slen_i ?_)))
      rw [i64_in (n := (l.length : Int) - 1) (by omega) (by omega)]
      refine ixS_i (j := l.length - 1) (by omega) (by omega) (fldA_i (ldI_i (n := t.at') (by simpa using u2) ?_))
      simp [hlast t ht]
theorem T_covers {s : List UInt8} (hG : G0 aw) (hs : s.length ≤ reachBytes) : CallP prog 5 [.string (mkB s)] aw sh5 (fun r _ => r = true) (fun _ _ => False) :=
  F5_ok _ _ (by
    unfold S5_0
    refine T_awake hG fun aw1 he1 => ?_
    simp only [Bool.not_true, cnd_ff]
    refine T_tokens s (hG.ext he1) fun aw2 v he2 hv => ?_
    have hc := tokens_covers s
    refine cnd_i (fun c1 => ?_) (fun c1 => ?_)
    · obtain ⟨b1, b2, b3⟩ := hc.bad (by simpa using c1)
      rw [b1] at hv
      obtain ⟨q, c, rfl⟩ := TokS.len hv
      exact slen_i (cnd_true (by simp) (cnd_true (by simpa using b2) (decide_eq_true (by simpa using b3))))
    · have c1 : (tokens s).2.2 = 0 := by simpa using c1
      obtain ⟨b1, out, b2, b3, b4⟩ := hc.good c1
      rw [b1]
      have hlen : (tokens s).1.length ≤ 2001 := tokens_len s
      refine ⟨(tokens s).1.length + 1, T_covers_loop s hs (by omega) (by rw [b2]; simp) (fun i t ht => hc.place c1 ht) (fun t ht => ?_) _ 0 _ hv (by omega) (by omega)⟩
      rw [b2] at ht
      simp at ht; subst ht; rfl)
end Go.Proofs.Tryd
