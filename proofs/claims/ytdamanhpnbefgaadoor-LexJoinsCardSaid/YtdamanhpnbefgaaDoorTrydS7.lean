/- The example, and the reference's words. -/
import Derived.Test.YtdamanhpnbefgaaDoorTrydB
import Derived.Test.YtdamanhpnbefgaaDoorTrydS6
set_option linter.unusedSimpArgs false
set_option linter.unusedVariables false
set_option linter.unusedSectionVars false
namespace Go.Proofs.Tryd
open Go Go.Am Go.Lx
variable {E : List PanicEntry → AW → Prop} {aw aw0 : AW}

theorem flat_get : ∀ {l : List Tok} {i : Nat} {t : Tok}, l[i]? = some t → (l.flatMap cellsT)[i * 3]? = some (.int .u8 t.kind) ∧ (l.flatMap cellsT)[i * 3 + 1]? = some (.string t.text) ∧ (l.flatMap cellsT)[i * 3 + 2]? = some (.int .i64 t.at')
  | [], i, t, h => by simp at h
  | a :: l, 0, t, h => by simp at h; subst h; exact ⟨rfl, rfl, rfl⟩
  | a :: l, i + 1, t, h => by
    have := flat_get (l := l) (i := i) (t := t) (by simpa using h)
    rw [show (i + 1) * 3 = i * 3 + 3 by omega]
    exact this
theorem TokS.at {v : Value} {l : List Tok} (h : TokS aw0 aw v l) (hne : l ≠ []) : ∃ g, v = .slice (some ⟨g, 0, none⟩) l.length UNK ∧
    ∀ i t, l[i]? = some t → aw.get g (i * 3) = some (.int .u8 t.kind) ∧ aw.get g (i * 3 + 1) = some (.string t.text) ∧ aw.get g (i * 3 + 2) = some (.int .i64 t.at') := by
  unfold TokS at h
  generalize hn : l.length = n at h
  generalize hc : l.flatMap cellsT = cs at h
  cases h with
  | emp => exact absurd (List.length_eq_zero_iff.1 hn) hne
  | own hg hl hm hnn =>
    rename_i g
    refine ⟨g, rfl, fun i t hi => ?_⟩
    have := flat_get hi
    rw [hc] at this
    simpa [AW.get, hm] using this
theorem TokS.len {v : Value} {l : List Tok} (h : TokS aw0 aw v l) : ∃ q c, v = .slice q l.length c := Own.lenV h
theorem awake_tokens : tokens [102, 32, 39, 97, 40, 42, 42, 41, 120, 49] = ([⟨1, mkB [102], 0⟩, ⟨3, mkB [39, 97], 2⟩, ⟨1, mkB [120, 49], 8⟩, ⟨0, mkB [], 10⟩], 0, 0) := by decide +kernel
theorem T_awake {Q : Bool → AW → Prop} (hG : G0 aw) (hQ : ∀ aw', Ext aw aw' → Q true aw') : CallP prog 9 [] aw sh9 Q E :=
  F9_ok _ (by
    unfold S9_0
    refine T_tokens [102, 32, 39, 97, 40, 42, 42, 41, 120, 49] hG fun aw2 v he hv => ?_
    rw [awake_tokens] at hv ⊢
    obtain ⟨g, rfl, hat⟩ := hv.at (by simp)
    obtain ⟨a0, a1, a2⟩ := hat 0 _ rfl
    obtain ⟨b0, b1, b2⟩ := hat 1 _ rfl
    obtain ⟨c0, c1, c2⟩ := hat 2 _ rfl
    obtain ⟨d0, d1, d2⟩ := hat 3 _ rfl
    refine cnd_true rfl (slen_i (cnd_true rfl (ixS_i (j := 0) rfl (by decide) ?_)))
    refine ⟨g, 0, 1, mkB [102], 0, rfl, a0, a1, a2, cnd_true rfl (ixS_i (j := 1) rfl (by decide) (fldA_i (ldI_i b0 (cnd_true rfl (ixS_i (j := 2) rfl (by decide) ?_)))))⟩
    refine ⟨g, 2 * 3, 1, mkB [120, 49], 8, by simp, c0, c1, c2, cnd_true rfl (ixS_i (j := 3) rfl (by decide) (fldA_i (ldI_i d0 ?_)))⟩
    exact hQ _ he)
theorem T_refWord_loop {Q : Bool → AW → Prop} (s : List UInt8) {g c : Nat} (hm : ∀ i x, words[i]? = some x → aw.get g i = some (.string (mkB x))) (hQ : Q (words.contains s) aw) : ∀ (n i : Nat), 15 < i + n → i ≤ 15 → (∀ j x, j < i → words[j]? = some x → x ≠ s) →
    S13_1 Q E n (mkB s) (.slice (some ⟨g, 0, none⟩) 15 c) i aw
  | 0, i, hn, hi, _ => absurd hn (by omega)
  | n + 1, i, hn, hi, hno => by
    have ih := T_refWord_loop (c := c) s hm hQ n
    show S13_1s Q E _ _ _ _ _
    unfold S13_1s
    refine slen_i (cnd_i (fun c1 => ?_) (fun c1 => ?_))
    · have c1 : i < 15 := by have := of_decide_eq_true c1; omega
      have hw : i < words.length := c1
      refine ixS_i (j := i) rfl c1 (ldS_i (n := mkB words[i]) (by have := hm i _ (List.getElem?_eq_getElem hw); simpa using this) ?_)
      refine cnd_i (fun e => ?_) (fun e => ?_)
      · have e : words[i] = s := by simpa using of_decide_eq_true e
        have hc : words.contains s = true := by
          simp only [List.contains_eq_mem, decide_eq_true_eq]
          rw [← e]; exact List.getElem_mem hw
        rw [hc] at hQ; exact hQ
      · have e : words[i] ≠ s := by simpa using of_decide_eq_false e
        rw [i64_in (n := (i : Int) + 1) (by omega) (by omega)]
        refine ih (i + 1) (by omega) (by omega) ?_
        intro j x hj hx
        rcases Nat.lt_or_ge j i with h | h
        · exact hno j x h hx
        · have : j = i := by omega
          subst this
          rw [List.getElem?_eq_getElem hw] at hx
          rw [← Option.some.inj hx]; exact e
    · have c1 : i = 15 := by have := of_decide_eq_false c1; omega
      have hc : words.contains s = false := by
        simp only [List.contains_eq_mem, decide_eq_false_iff_not]
        intro hm
        obtain ⟨j, hj, e⟩ := List.getElem_of_mem hm
        have hj' : j < 15 := hj
        exact hno j _ (by omega) (List.getElem?_eq_getElem hj) e
      rw [hc] at hQ; exact hQ
theorem T_refWord {Q : Bool → AW → Prop} (s : List UInt8) (hQ : ∀ aw', Ext aw aw' → Q (words.contains s) aw') : CallP prog 13 [.string (mkB s)] aw sh13 Q E :=
  F13_ok _ _ (by
    unfold S13_0
    refine alcS_i ⟨17, T_refWord_loop (c := 15) s (fun i x hi => ?_) (hQ _ ((Ext.refl aw).alloc _ _ _)) 17 0 (by omega) (by omega) (fun j x hj => by omega)⟩
    have := strV_get hi
    simp only [AW.get, AW.alloc_new, Option.bind_some]
    exact this)
end Go.Proofs.Tryd
