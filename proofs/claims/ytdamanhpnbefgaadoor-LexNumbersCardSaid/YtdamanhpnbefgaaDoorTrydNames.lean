/- The law of names. -/
import Derived.Test.YtdamanhpnbefgaaDoorTrydS7
set_option linter.unusedSimpArgs false
set_option linter.unusedVariables false
set_option linter.unusedSectionVars false
namespace Go.Proofs.Tryd
open Go Go.Am Go.Lx
variable {E : List PanicEntry → AW → Prop} {aw aw0 : AW} {ok : Bool}

theorem tw_all {p : UInt8 → Bool} : ∀ {l : List UInt8}, (∀ b ∈ l, p b = true) → l.takeWhile p = l
  | [], _ => rfl
  | a :: l, h => by
    rw [List.takeWhile_cons, if_pos (h a (by simp)), tw_all fun b hb => h b (by simp [hb])]
theorem in_blank (b : UInt8) (h : isIn b = true) : isBlank b = false := by
  have := all8 (p := fun b => !isIn b || !isBlank b) (by decide +kernel) b
  simpa [h] using this
theorem in_paren (b : UInt8) (h : isIn b = true) : b ≠ 40 := by
  have := all8 (p := fun b => !isIn b || !(b == 40)) (by decide +kernel) b
  simpa [h] using this
/-- a text of such letters alone is one name -/
theorem tokens_name {s : List UInt8} (h1 : 1 ≤ s.length) (hs : s.length ≤ 2000) (hin : ∀ b ∈ s, isIn b = true) (hc : ∀ c, s.head? = some c → (small c || great c || c == 39) = true) :
    tokens s = if (nameR s).2.2.2.2.2 = 0 then ([⟨(nameR s).1, (nameR s).2.1, 0⟩, ⟨0, mkB [], s.length⟩], 0, 0) else ([], (nameR s).2.2.2.2.1, (nameR s).2.2.2.2.2) := by
  obtain ⟨a, r, rfl⟩ : ∃ a r, s = a :: r := by
    cases s with
    | nil => simp at h1
    | cons a r => exact ⟨a, r, rfl⟩
  have ha := hin a (by simp)
  have hp : pre [40, 42] (a :: r) = false := by
    simp only [pre, decide_eq_false_iff_not]
    intro h
    have : a = 40 := by
      have := congrArg List.head? h
      simpa using this
    exact in_paren a ha this
  have hsp : span isIn (a :: r) = (a :: r).length := by
    unfold span
    simp only [List.drop_succ_cons, List.drop_zero, List.length_cons]
    rw [tw_all fun b hb => hin b (by simp [hb])]; omega
  have htok : tokR (a :: r) = nameR (a :: r) := by
    simp only [tokR]
    rw [if_pos (hc a rfl), hsp, List.take_length]
  have hfine := nameR_fine h1
  unfold tokens
  rw [if_neg (by omega)]
  simp only [toksL, in_blank a ha, hp, Bool.false_eq_true, if_false, htok]
  rcases hfine with ⟨k, x, n, hn, h2, h3, h4⟩ | ⟨b, e, hn, h2, h3, h4⟩
  · have hlen : n = (a :: r).length := by
      unfold nameR at hn
      split at hn
      · exact absurd (congrArg (fun t : Tk => t.2.2.2.2.2) hn) (by simp [bad, good])
      · have g : ∀ k' : Int, good k' (a :: r) (a :: r).length = good k x n → n = (a :: r).length := fun k' e => by
          have := congrArg (fun t : Tk => t.2.2.2.1) e
          simp only [good] at this; omega
        split at hn
        · exact g _ hn
        · split at hn
          · split at hn
            · exact g _ hn
            · exact absurd (congrArg (fun t : Tk => t.2.2.2.2.2) hn) (by simp [bad, good])
          · split at hn
            · exact g _ hn
            · exact g _ hn
    rw [hn]
    have hq0 : (good k x n).2.2.2.2.2 = 0 := rfl
    rw [if_pos hq0, if_pos hq0]
    simp only [good, Int.toNat_natCast]
    rw [hlen, List.drop_length]
    simp [toksL]
  · rw [hn]
    have hne : ¬ (bad b e).2.2.2.2.2 = 0 := h4
    rw [if_neg hne, if_neg hne]
    simp [bad]
def letters : List UInt8 := [97, 98, 99, 120, 121, 122, 65, 66, 88, 89, 90, 48, 49, 56, 57, 95, 39]
def letter (b : UInt8) : UInt8 := letters.getD (b.toNat % 17) 0
theorem letter_in (b : UInt8) : isIn (letter b) = true := all8 (p := fun b => isIn (letter b)) (by decide +kernel) b
theorem words_head : ∀ w ∈ words, w.head? ≠ some 39 := by decide +kernel
theorem T_names4 {Q : Bool → AW → Prop} (hQ : ∀ r, r = true → Q r aw) (s : List UInt8) {v : Value} {at' e : Int} (h : (∃ t, TokS aw0 aw v [⟨3, mkB s, 0⟩, t] ∧ e = 0) ∧ ok = true ∨ (at' = 1 ∧ e = 4) ∧ ok = false) :
    S6_4 Q E (mkB s) v at' e ok aw := by
  unfold S6_4
  rcases h with ⟨⟨t, hv, rfl⟩, rfl⟩ | ⟨⟨rfl, rfl⟩, rfl⟩
  · obtain ⟨g, rfl, hat⟩ := hv.at (by simp)
    obtain ⟨a0, a1, _⟩ := hat 0 _ rfl
    exact cnd_true rfl (cnd_true rfl (slen_i (cnd_true rfl (ixS_i (j := 0) rfl (by simp) (fldA_i (ldI_i a0 (cnd_true rfl (ixS_i (j := 0) rfl (by simp) (fldA_i (ldS_i a1 (cnd_true (by simp) (hQ _ rfl))))))))))))
  · exact cnd_false rfl (cnd_true rfl (cnd_true rfl (hQ _ rfl)))
theorem T_names3 {Q : Bool → AW → Prop} (hQ : ∀ aw' r, Ext aw aw' → r = true → Q r aw') (s : List UInt8) {v : Value} {k want : Int} {t : Tok} (hv : TokS aw0 aw v [⟨k, mkB s, 0⟩, t]) (hk : k = want ∨ words.contains s = true) :
    S6_3 Q E (mkB s) v 0 want aw := by
  unfold S6_3
  obtain ⟨g, rfl, hat⟩ := hv.at (by simp)
  obtain ⟨a0, a1, _⟩ := hat 0 _ rfl
  refine cnd_true rfl (slen_i (cnd_true rfl (ixS_i (j := 0) rfl (by simp) (fldA_i (ldS_i a1 (cnd_true (by simp) (ixS_i (j := 0) rfl (by simp) (fldA_i (ldI_i a0 ?_)))))))))
  refine cnd_i (fun c => hQ _ _ (Ext.refl aw) rfl) (fun c => ?_)
  rcases hk with rfl | hk
  · exact absurd rfl (of_decide_eq_false c)
  · exact T_refWord s fun aw' he => hQ _ _ he hk
theorem T_names_end {Q : Bool → AW → Prop} (hQ : ∀ aw' r, Ext aw0 aw' → r = true → Q r aw') (hG : G0 aw0) (he : Ext aw0 aw) (s : List UInt8) (h1 : 1 ≤ s.length) (hs : s.length ≤ 60) (hin : ∀ b ∈ s, isIn b = true) (c : UInt8) (hc : s.head? = some c) (q : Bool)
    (hq : q = (digit c || decide (bn c = 95))) : S6_2 Q E (mkB s) (bn c) q aw := by
  unfold S6_2
  have hsz : (mkB s).size = s.length := rfl
  cases q
  · simp only [cnd_ff]
    have hin0 : isIn c = true := hin c (List.mem_of_head? hc)
    have hcc : (small c || great c || c == 39) = true := by
      unfold isIn at hin0
      have hq := hq.symm
      simp only [Bool.or_eq_false_iff] at hq
      rw [hq.1, hq.2] at hin0
      simp only [Bool.or_false] at hin0
      rcases h39 : decide (bn c = 39)
      · rw [h39] at hin0; simp only [Bool.or_false] at hin0; rw [hin0]; rfl
      · have : c = 39 := (bn_eq c 39).1 (of_decide_eq_true h39)
        subst this; rfl
    have htk := tokens_name h1 (by omega) hin (fun c' h => by rw [hc] at h; rw [← Option.some.inj h]; exact hcc)
    refine T_tokens s (hG.ext he) fun aw2 v he2 hv => ?_
    rw [htk] at hv ⊢
    have he3 := he.trans he2
    refine cnd_i (fun c1 => ?_) (fun c1 => ?_)
    · have c1 := of_decide_eq_true c1
      have hn : nameR s = bad 0 2 := by unfold nameR; rw [if_pos (by omega)]
      rw [hn] at hv ⊢
      have hne : ¬ (bad 0 2).2.2.2.2.2 = 0 := by decide
      rw [if_neg hne]
      exact cnd_true rfl (hQ _ _ he3 rfl)
    · have c1 := of_decide_eq_false c1
      have h24 : ¬ 24 < s.length := by omega
      have hnr : nameR s = (if words.contains s then good 6 s s.length else if s.head? = some 39 then (if (s.drop 1).head?.any small then good 3 s s.length else bad 1 4) else if s.head?.any great then good 2 s s.length else good 1 s s.length) := by
        simp only [nameR, if_neg h24]
      refine cnd_i (fun c2 => ?_) (fun c2 => ?_)
      · have c2 : c = 39 := (bn_eq c 39).1 (of_decide_eq_true c2)
        subst c2
        have hw : words.contains s = false := by
          simp only [List.contains_eq_mem, decide_eq_false_iff_not]
          intro hm; exact words_head s hm hc
        rw [hw, hc] at hnr
        simp only [Bool.false_eq_true, if_false, if_true] at hnr
        have key : ∀ ok, ok = (s.drop 1).head?.any small → S6_4 Q E (mkB s) v (if (nameR s).2.2.2.2.2 = 0 then ([⟨(nameR s).1, (nameR s).2.1, 0⟩, ⟨0, mkB [], s.length⟩], 0, 0) else ([], (nameR s).2.2.2.2.1, (nameR s).2.2.2.2.2) : Res).2.1 (if (nameR s).2.2.2.2.2 = 0 then ([⟨(nameR s).1, (nameR s).2.1, 0⟩, ⟨0, mkB [], s.length⟩], 0, 0) else ([], (nameR s).2.2.2.2.1, (nameR s).2.2.2.2.2) : Res).2.2 ok aw2 := by
          intro ok hok
          refine T_names4 (aw0 := aw) (fun r hr => hQ _ _ he3 hr) s ?_
          rw [← hok] at hnr
          cases ok
          · simp only [Bool.false_eq_true, if_false] at hnr
            rw [hnr]
            exact .inr ⟨⟨rfl, rfl⟩, rfl⟩
          · simp only [if_true] at hnr
            rw [hnr] at hv ⊢
            exact .inl ⟨⟨_, hv, rfl⟩, rfl⟩
        refine cnd_i (fun c3 => ?_) (fun c3 => ?_)
        · have c3 := of_decide_eq_true c3
          obtain ⟨a, b, r, rfl⟩ : ∃ a b r, s = a :: b :: r := by
            rcases s with _ | ⟨a, _ | ⟨b, r⟩⟩
            · simp at c3
            · simp at c3
            · exact ⟨a, b, r, rfl⟩
          have hok : ((a :: b :: r).drop 1).head?.any small = small b := rfl
          refine chr_i (j := 1) (x := b) rfl rfl ?_
          refine cnd_i (fun c4 => ?_) (fun c4 => ?_)
          · refine chr_i (j := 1) (x := b) rfl rfl (key _ ?_)
            rw [hok]; unfold small; rw [c4]; rfl
          · refine key _ ?_
            rw [hok]; unfold small; rw [c4]; rfl
        · have c3 := of_decide_eq_false c3
          refine key _ ?_
          rcases s with _ | ⟨a, _ | ⟨b, r⟩⟩
          · rfl
          · rfl
          · simp at c3; omega
      · have c2 : c ≠ 39 := fun h => of_decide_eq_false c2 ((bn_eq c 39).2 h)
        rw [hc] at hnr
        simp only [Option.some.injEq, if_neg c2, Option.any_some] at hnr
        have key : ∀ want : Int, want = (if great c then 2 else 1) → S6_3 Q E (mkB s) v (if (nameR s).2.2.2.2.2 = 0 then ([⟨(nameR s).1, (nameR s).2.1, 0⟩, ⟨0, mkB [], s.length⟩], 0, 0) else ([], (nameR s).2.2.2.2.1, (nameR s).2.2.2.2.2) : Res).2.2 want aw2 := by
          intro want hwant
          obtain ⟨k, hk1, hk2⟩ : ∃ k, nameR s = good k s s.length ∧ (k = want ∨ words.contains s = true) := by
            rw [hnr, hwant]
            by_cases hw : words.contains s = true
            · exact ⟨6, by rw [if_pos hw], .inr hw⟩
            · by_cases hg : great c = true
              · exact ⟨2, by rw [if_neg hw, if_pos hg], .inl (by rw [if_pos hg])⟩
              · exact ⟨1, by rw [if_neg hw, if_neg hg], .inl (by rw [if_neg hg])⟩
          rw [hk1] at hv ⊢
          exact T_names3 (aw0 := aw) (fun aw' r he' hr => hQ _ _ (he3.trans he') hr) s hv hk2
        refine cnd_i (fun c3 => ?_) (fun c3 => ?_)
        · refine cnd_i (fun c4 => ?_) (fun c4 => ?_)
          · exact key 2 (by unfold great; rw [c3, c4]; rfl)
          · exact key 1 (by unfold great; rw [c3, c4]; rfl)
        · exact key 1 (by unfold great; rw [c3]; rfl)
  · simp only [cnd_tt]
    exact hQ _ _ he rfl
theorem T_names_loop {Q : Bool → AW → Prop} (hQ : ∀ aw' r, Ext aw0 aw' → r = true → Q r aw') (hG : G0 aw0) (he : Ext aw0 aw) (l : List UInt8) (h1 : 1 ≤ l.length) (hl : l.length ≤ 60) {g c : Nat} (hm : aw.getN g 0 l.length = some (bytesV l)) :
    ∀ (n i : Nat), l.length < i + n → i ≤ l.length → S6_1 Q E n (.slice (some ⟨g, 0, none⟩) l.length c) (mkB letters) (mkB ((l.take i).map letter)) i aw
  | 0, i, hn, hi => absurd hn (by omega)
  | n + 1, i, hn, hi => by
    have ih := T_names_loop (c := c) hQ hG he l h1 hl hm n
    show S6_1s Q E _ _ _ _ _ _
    unfold S6_1s
    refine slen_i (cnd_i (fun c1 => ?_) (fun c1 => ?_))
    · have c1 : i < l.length := by have := of_decide_eq_true c1; omega
      obtain ⟨x, hx⟩ : ∃ x, l[i]? = some x := ⟨_, List.getElem?_eq_getElem c1⟩
      have hg : aw.get g (0 + i * 1) = some (.int .u8 (bn x)) := by
        have := AW.getN_get hm (j := i) (u := .int .u8 (bn x)) (by simp [bytesV, hx])
        simpa using this
      refine ixS_i (j := i) rfl c1 (ldI_i hg ?_)
      have hx8 : x.toNat < 256 := x.toNat_lt
      rw [i64_in (n := bn x) (by simp only [bn]; omega) (by simp only [bn]; omega)]
      have e17 : ((mkB letters).size : Int) = 17 := rfl
      have emod : Int.tmod (bn x) ((mkB letters).size : Int) = ((x.toNat % 17 : Nat) : Int) := by
        rw [e17, IntWalk.rem_in _ _ (by simp only [bn]; omega)]
        simp only [bn]; omega
      rw [emod]
      have hlt : x.toNat % 17 < 17 := Nat.mod_lt _ (by decide)
      refine ⟨by rw [e17]; decide, ?_⟩
      rw [i64_in (n := ((x.toNat % 17 : Nat) : Int) + 1) (by omega) (by omega)]
      refine cutS_i (a := x.toNat % 17) (d := x.toNat % 17 + 1) rfl (by omega) (by omega) (show x.toNat % 17 + 1 ≤ 17 by omega) ?_
      have hcut : ((letters.drop (x.toNat % 17)).take (x.toNat % 17 + 1 - x.toNat % 17)) = [letter x] := by
        rw [show x.toNat % 17 + 1 - x.toNat % 17 = 1 by omega]
        have hlt' : x.toNat % 17 < letters.length := hlt
        have e : letter x = letters[x.toNat % 17] := by simp [letter, List.getD, hlt']
        rw [e, List.drop_eq_getElem_cons hlt', List.take_succ_cons, List.take_zero]
      rw [hcut, mkB_append]
      have hnext : (l.take i).map letter ++ [letter x] = (l.take (i + 1)).map letter := by
        rw [List.take_add_one, hx]; simp
      rw [hnext]
      refine ⟨by simp only [mkB_size, List.length_map, List.length_take, List.length_cons, List.length_nil]; omega, ?_⟩
      rw [i64_in (n := (i : Int) + 1) (by omega) (by omega)]
      exact ih (i + 1) (by omega) (by omega)
    · have c1 : i = l.length := by have := of_decide_eq_false c1; omega
      subst c1
      rw [List.take_length]
      obtain ⟨a, r, rfl⟩ : ∃ a r, l = a :: r := by
        cases l with
        | nil => simp at h1
        | cons a r => exact ⟨a, r, rfl⟩
      refine chr_i (j := 0) (x := letter a) rfl rfl ?_
      have hend := fun q hq => T_names_end (E := E) hQ hG he ((a :: r).map letter) (by simp) (by simpa using hl) (fun b hb => by
        obtain ⟨y, _, rfl⟩ := List.mem_map.1 hb; exact letter_in y) (letter a) rfl q hq
      refine cnd_i (fun c2 => ?_) (fun c2 => ?_)
      · refine cnd_i (fun c3 => ?_) (fun c3 => ?_)
        · exact hend true (by unfold digit; rw [c2, c3]; rfl)
        · exact hend _ (by unfold digit; rw [c2, c3]; rfl)
      · exact hend _ (by unfold digit; rw [c2]; rfl)
theorem T_names {l : List UInt8} {v : Value} (hG : G0 aw) (hB : BytesIn aw v l) : CallP prog 6 [v] aw sh6 (fun r _ => r = true) (fun _ _ => False) :=
  F6_ok _ _ (by
    unfold S6_0
    refine T_awake hG fun aw1 he1 => ?_
    simp only [Bool.not_true, cnd_ff]
    obtain ⟨q, c, rfl⟩ : ∃ q c, v = .slice q l.length c := by
      rcases hB with ⟨rfl, rfl⟩ | ⟨b, rfl, _⟩
      · exact ⟨_, _, rfl⟩
      · exact ⟨_, _, rfl⟩
    refine slen_i (cnd_i (fun c1 => ?_) (fun c1 => ?_))
    · exact T_awake (hG.ext he1) fun aw2 he2 => rfl
    have c1 := of_decide_eq_false c1
    refine slen_i (cnd_i (fun c2 => ?_) (fun c2 => ?_))
    · exact T_awake (hG.ext he1) fun aw2 he2 => rfl
    have c2 := of_decide_eq_false c2
    rcases hB with ⟨h, rfl⟩ | ⟨b, h, hb, hm⟩
    · exact absurd rfl c1
    · rw [h]
      have hm1 : aw1.getN b 0 l.length = some (bytesV l) := by
        have := AW.getN_of (aw := aw1) (b := b) (cs := bytesV l) (i := 0) (fun j u hj => by
          have := AW.getN_get hm hj
          simp only [AW.get] at this ⊢
          rw [he1.m b hb]; exact this)
        simpa [bytesV] using this
      exact ⟨l.length + 1, T_names_loop (aw0 := aw1) (fun _ _ _ h => h) (hG.ext he1) (Ext.refl aw1) l (by omega) (by omega) hm1 _ 0 (by omega) (by omega)⟩)
end Go.Proofs.Tryd
