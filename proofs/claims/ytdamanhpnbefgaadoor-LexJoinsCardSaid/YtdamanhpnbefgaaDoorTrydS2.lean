/- What lex.name computes. -/
import Derived.Test.YtdamanhpnbefgaaDoorTrydS1
set_option linter.unusedSimpArgs false
set_option linter.unusedVariables false
namespace Go.Proofs.Tryd
open Go Go.Am Go.Lx
variable {E : List PanicEntry → AW → Prop} {aw aw0 : AW}

/-- what the program's variables hold -/
def G0 (aw : AW) : Prop := 9 ≤ aw.next ∧ (∃ t, aw.m 0 = some ⟨strV Lx.signs, t, 0, false, 0⟩) ∧ (∃ t, aw.m 1 = some ⟨strV Lx.words, t, 0, false, 0⟩) ∧ ∃ t u p, aw.m 4 = some ⟨[.iface u (.pointer (some p))], t, 0, false, 0⟩
theorem G0.ext {aw aw' : AW} (h : G0 aw) (e : Ext aw aw') : G0 aw' := by
  obtain ⟨h0, ⟨t1, h1⟩, ⟨t2, h2⟩, t4, u, p, h4⟩ := h
  exact ⟨Nat.le_trans h0 e.next, ⟨t1, e.get (by omega) h1⟩, ⟨t2, e.get (by omega) h2⟩, t4, u, p, e.get (by omega) h4⟩
/-- a token is stored, and read as the result -/
theorem res3 {b T : Nat} {u v w : Value} {k a : Int} {t : ByteArray} {K : Int → ByteArray → Int → AW → Prop} (hB : aw.m b = some ⟨[u, v, w], T, 0, true, 0⟩) (hb : aw0.next ≤ b) (he : Ext aw0 aw)
    (hQ : ∀ aw', Ext aw0 aw' → K k t a aw') :
    st aw (.pointer (some ⟨b, 0, none⟩)) [.int .u8 k, .string t, .int .i64 a] fun aw1 => ∃ b' i c1 c2 c3, (.pointer (some ⟨b, 0, none⟩) : Value) = .pointer (some ⟨b', i, none⟩) ∧ aw1.get b' i = some (.int .u8 c1) ∧
      aw1.get b' (i + 1) = some (.string c2) ∧ aw1.get b' (i + 2) = some (.int .i64 c3) ∧ K c1 c2 c3 aw1 := by
  refine st_i hB rfl (by simp) (by simp) rfl ?_
  exact ⟨b, 0, k, t, a, rfl, by simp [AW.get, putL], by simp [AW.get, putL], by simp [AW.get, putL], hQ _ (he.lay _ hb)⟩
theorem strV_get {l : List (List UInt8)} {i : Nat} {x : List UInt8} (h : l[i]? = some x) : (strV l)[i]? = some (.string (mkB x)) := by
  simp [strV, h, mkB]
theorem T_name_loop {Q : Tk → AW → Prop} (s : List UInt8) (h1 : 1 ≤ s.length) (h24 : s.length ≤ 24) {b T : Nat} {u v w : Value} (hB : aw.m b = some ⟨[u, v, w], T, 0, true, 0⟩) (hb : aw0.next ≤ b) (he : Ext aw0 aw)
    (hQ : ∀ aw', Ext aw0 aw' → Q (nameR s) aw') : ∀ (n i : Nat), 15 < i + n → i ≤ 15 → (∀ j x, j < i → words[j]? = some x → x ≠ s) →
    S24_1 Q E n (mkB s) (s.length : Int) (.pointer (some ⟨b, 0, none⟩)) (strV words) i aw
  | 0, i, hn, hi, _ => absurd hn (by omega)
  | n + 1, i, hn, hi, hno => by
    have ih := T_name_loop s h1 h24 hB hb he hQ n
    show S24_1s Q E _ _ _ _ _ _ _
    unfold S24_1s
    refine cnd_i (fun c => ?_) (fun c => ?_)
    · have c : i < 15 := by have := of_decide_eq_true c; omega
      have hw : i < words.length := c
      refine ⟨Nat.le_refl 15, by omega, _, strV_get (List.getElem?_eq_getElem hw), ?_⟩
      refine cnd_i (fun e => ?_) (fun e => ?_)
      · have e : words[i] = s := by simpa using of_decide_eq_true e
        refine res3 (K := fun c1 c2 c3 aw' => Q (c1, c2, c3, (s.length : Int), 0, 0) aw') hB hb he fun aw' he' => ?_
        have := hQ aw' he'
        have hc : words.contains s = true := by
          simp only [List.contains_eq_mem, decide_eq_true_eq]
          rw [← e]; exact List.getElem_mem hw
        simp only [nameR, if_neg (show ¬ 24 < s.length by omega), hc, if_true, good] at this
        exact this
      · have e : words[i] ≠ s := by simpa using of_decide_eq_false e
        rw [i64_in (n := (i : Int) + 1) (by omega) (by omega)]
        refine ih (i + 1) (by omega) (by omega) ?_
        intro j x hj hx
        rcases Nat.lt_or_ge j i with h | h
        · exact hno j x h hx
        · have : j = i := by omega
          subst this
          rw [List.getElem?_eq_getElem hw] at hx
          rw [← Option.some.inj hx]; exact e
    · have c : i = 15 := by have := of_decide_eq_false c; omega
      have hc : words.contains s = false := by
        simp only [List.contains_eq_mem, decide_eq_false_iff_not]
        intro hm
        obtain ⟨j, hj, e⟩ := List.getElem_of_mem hm
        have hj' : j < 15 := hj
        exact hno j _ (by omega) (List.getElem?_eq_getElem hj) e
      have hR : nameR s = (if s.head? = some 39 then (if (s.drop 1).head?.any small then good 3 s s.length else bad 1 4) else if s.head?.any great then good 2 s s.length else good 1 s s.length) := by
        simp only [nameR, if_neg (show ¬ 24 < s.length by omega), hc, Bool.false_eq_true, if_false]
      obtain ⟨a, r, rfl⟩ : ∃ a r, s = a :: r := by
        cases s with
        | nil => simp at h1
        | cons a r => exact ⟨a, r, rfl⟩
      rw [hR] at hQ
      simp only [List.head?_cons, Option.some.injEq, List.drop_succ_cons, List.drop_zero, Option.any_some] at hQ
      refine chr_i (j := 0) (x := a) rfl rfl ?_
      have fin : ∀ (k : Int) (aw1 : AW), aw1.m b = some ⟨[u, v, w], T, 0, true, 0⟩ → Ext aw0 aw1 → (∀ aw', Ext aw0 aw' → Q (k, mkB (a :: r), 0, ((a :: r).length : Int), 0, 0) aw') →
          S24_2 Q E (mkB (a :: r)) ((a :: r).length : Int) (.pointer (some ⟨b, 0, none⟩)) k aw1 := by
        intro k aw1 hB1 he1 h
        unfold S24_2
        exact res3 (K := fun c1 c2 c3 aw' => Q (c1, c2, c3, ((a :: r).length : Int), 0, 0) aw') hB1 hb he1 h
      refine cnd_i (fun e => ?_) (fun e => ?_)
      · have e : a = 39 := by
          have := of_decide_eq_true e
          exact (bn_eq a 39).1 this
        subst e
        simp only [if_true] at hQ
        refine cnd_i (fun e => ?_) (fun e => ?_)
        · have e := of_decide_eq_true e
          have : r = [] := by
            cases r with
            | nil => rfl
            | cons x y => simp at e; omega
          subst this
          refine res3 (K := fun c1 c2 c3 aw' => Q (c1, c2, c3, 0, (min ((([39] : List UInt8).length : Int)) 1), 4) aw') hB hb he fun aw' he' => ?_
          have := hQ aw' he'
          simp only [List.head?_nil, Option.any_none, Bool.false_eq_true, if_false, bad] at this
          exact this
        · have e := of_decide_eq_false e
          obtain ⟨x, y, rfl⟩ : ∃ x y, r = x :: y := by
            cases r with
            | nil => simp at e
            | cons x y => exact ⟨x, y, rfl⟩
          refine chr_i (j := 1) (x := x) rfl rfl ?_
          refine T_small x ?_
          simp only [List.head?_cons, Option.any_some] at hQ
          have hmin : min (((39 : UInt8) :: x :: y).length : Int) 1 = 1 := by simp; omega
          rw [hmin]
          cases hs : small x
          · simp only [Bool.not_false, cnd_tt]
            refine res3 (K := fun c1 c2 c3 aw' => Q (c1, c2, c3, 0, 1, 4) aw') hB hb he fun aw' he' => ?_
            have := hQ aw' he'
            simp only [hs, Bool.false_eq_true, if_false, bad] at this
            exact this
          · simp only [Bool.not_true, cnd_ff]
            refine fin 3 aw hB he fun aw' he' => ?_
            have := hQ aw' he'
            simpa [hs, good] using this
      · have e : a ≠ 39 := by
          have := of_decide_eq_false e
          intro h; exact this ((bn_eq a 39).2 h)
        simp only [if_neg e] at hQ
        refine chr_i (j := 0) (x := a) rfl rfl ?_
        refine T_great a ?_
        cases hg : great a
        · simp only [cnd_ff]
          refine fin 1 aw hB he fun aw' he' => ?_
          have := hQ aw' he'
          simpa [hg, good] using this
        · simp only [cnd_tt]
          refine fin 2 aw hB he fun aw' he' => ?_
          have := hQ aw' he'
          simpa [hg, good] using this
theorem T_name {Q : Tk → AW → Prop} (s : List UInt8) (h1 : 1 ≤ s.length) (hs : s.length ≤ 2000) (hG : G0 aw) (hQ : ∀ aw', Ext aw aw' → Q (nameR s) aw') :
    CallP prog 24 [.string (mkB s), .int .i64 s.length] aw sh24 Q E :=
  F24_ok _ _ _ (by
    unfold S24_0
    refine alc_i ?_
    have he := (Ext.refl aw).alloc [.int .u8 0, .string (⟨#[]⟩ : ByteArray), .int .i64 0] 33 0
    refine cnd_i (fun c => ?_) (fun c => ?_)
    · have c := of_decide_eq_true c
      refine res3 (K := fun c1 c2 c3 aw' => Q (c1, c2, c3, 0, 0, 2) aw') (AW.alloc_new _ _ _ _) (Nat.le_refl _) he fun aw' he' => ?_
      have := hQ aw' he'
      simp only [nameR, if_pos (show 24 < s.length by omega), bad] at this
      exact this
    · have c := of_decide_eq_false c
      obtain ⟨h0, _, ⟨t, hw⟩, _⟩ := hG.ext he
      refine ⟨_, _, strV words, rfl, ?_, ⟨17, T_name_loop s h1 (by omega) (AW.alloc_new _ _ _ _) (Nat.le_refl _) he hQ 17 0 (by omega) (by omega) (fun j x hj => by omega)⟩⟩
      have := AW.getN_of (aw := aw.alloc [.int .u8 0, .string (⟨#[]⟩ : ByteArray), .int .i64 0] 33 0) (b := 1) (cs := strV words) (i := 0) (fun j u hj => by simp [AW.get, hw, hj])
      exact this)
end Go.Proofs.Tryd
