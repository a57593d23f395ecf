/- strings.Builder, and what lex.text computes. -/
import Derived.Test.YtdamanhpnbefgaaDoorTrydS2
import Derived.Test.YtdamanhpnbefgaaDoorAm15
set_option linter.unusedSimpArgs false
set_option linter.unusedVariables false
namespace Go.Proofs.Tryd
open Go Go.Am Go.Lx
variable {E : List PanicEntry → AW → Prop} {aw aw0 : AW}

/-- a builder that a call has made -/
def BuildAt (aw0 aw : AW) (b : Nat) (bs : List UInt8) : Prop := aw0.next ≤ b ∧ b < aw.next ∧ ∃ ad v, aw.m b = some ⟨[ad, v], 55, 0, true, 0⟩ ∧ (ad = .pointer none ∨ ad = .pointer (some ⟨b, 0, none⟩)) ∧
  Own aw0 aw 5 1 v bs.length (bytesV bs) ∧ blkOf v ≠ some b ∧ (bs = [] → v = .slice none 0 0)
theorem T_check {Q : Unit → AW → Prop} {b : Nat} {bs : List UInt8} (hB : BuildAt aw0 aw b bs) (he : Ext aw0 aw) (hQ : ∀ aw', BuildAt aw0 aw' b bs → Ext aw0 aw' → Q () aw') :
    CallP prog 38 [.pointer (some ⟨b, 0, none⟩)] aw sh38 Q E :=
  F38_ok _ _ (by
    unfold S38_0
    have hB' := hB
    obtain ⟨hb, hl, ad, v, hm, had, hv, hne, hz⟩ := hB
    refine nck_i (fldA_i (ldV_i (v := ad) (by simp [AW.get, hm]) ?_))
    rcases had with rfl | rfl
    · refine ⟨true, rfl, rfl, ?_⟩
      simp only [cnd_tt]
      have hw : Whole aw 55 2 (.pointer (some ⟨b, 0, none⟩)) := ⟨b, _, rfl, hm, rfl, rfl, rfl, by decide⟩
      refine ⟨hw, hw, nck_i (fldA_i (st_i hm rfl (by simp) (by simp) rfl ?_))⟩
      refine hQ _ ⟨hb, hl, .pointer (some ⟨b, 0, none⟩), v, by simp [putL], .inr rfl, hv.keep (Nat.le_refl _) (fun c hc hcv => AW.lay_old _ _ (fun e => hne (by rw [hcv, e]))), hne, hz⟩ (he.lay _ hb)
    · refine ⟨false, rfl, rfl, ?_⟩
      simp only [cnd_ff]
      refine nck_i (fldA_i (ldV_i (v := .pointer (some ⟨b, 0, none⟩)) (by simp [AW.get, hm]) ?_))
      exact ⟨⟨rfl, b, 0, rfl⟩, hQ _ hB' he⟩)
theorem bytesV_app (a b : List UInt8) : bytesV (a ++ b) = bytesV a ++ bytesV b := by simp [bytesV]
theorem bytesV_one (l : List UInt8) : (bytesV l).all one = true := by
  simp only [bytesV, List.all_map, List.all_eq_true]
  intro b _; rfl
theorem T_writeByte {Q : Value → AW → Prop} {b : Nat} {bs : List UInt8} (c : UInt8) (hB : BuildAt aw0 aw b bs) (he : Ext aw0 aw) (hl : bs.length ≤ 2 ^ 40) (hQ : ∀ aw', BuildAt aw0 aw' b (bs ++ [c]) → Ext aw0 aw' → Q .nilIface aw') :
    CallP prog 32 [.pointer (some ⟨b, 0, none⟩), .int .u8 (bn c)] aw sh32 Q E :=
  F32_ok _ _ _ (by
    unfold S32_0
    refine T_check hB he fun aw1 hB1 he1 => ?_
    obtain ⟨hb, hlt, ad, v, hm, had, hv, hne, _⟩ := hB1
    refine nck_i (fldA_i (ldV_i (v := v) (by simp [AW.get, hm]) (alcS_i ?_)))
    have hv2 := hv.ext ((Ext.refl aw1).alloc [.int .u8 (bn c)] 5 1)
    have hsrc : Src (aw1.alloc [.int .u8 (bn c)] 5 1) 1 (.slice (some ⟨aw1.next, 0, none⟩) 1 1) 1 (bytesV [c]) :=
      .slice (by have := getN_whole (AW.alloc_new aw1 [.int .u8 (bn c)] 5 1); exact this)
    refine app_own hv2 (he1.alloc _ _ _) hsrc (by omega) (bytesV_one _) fun v' aw' hv' he' hn' hk' hc' => ?_
    have hmb : aw'.m b = some ⟨[ad, v], 55, 0, true, 0⟩ := by
      rw [hk' b (by simp; omega) hne, AW.alloc_old _ _ _ _ (by omega), hm]
    refine nck_i (fldA_i (st_i hmb rfl (by simp) (by simp) ?_ ?_))
    · obtain ⟨q, c2, rfl⟩ := hv'.lenV; rfl
    have hne' : blkOf v' ≠ some b := by
      intro h
      rcases hc' b h with h | h
      · exact hne h
      · simp at h; omega
    simp only [AW.alloc_next] at hn'
    refine hQ _ ⟨hb, by simp; omega, ad, v', by simp [putL], had, ?_, hne', fun h => by simp at h⟩ (he'.lay _ hb)
    have := hv'.keep (aw' := aw'.lay b ⟨putL [ad, v] (0 + 1) [v'], 55, 0, true, 0⟩) (Nat.le_refl _) (fun c hc hcv => AW.lay_old _ _ (fun e => hne' (by rw [hcv, e])))
    rw [bytesV_app]; simpa using this)
theorem T_string {Q : ByteArray → AW → Prop} {b : Nat} {bs : List UInt8} (hB : BuildAt aw0 aw b bs) (he : Ext aw0 aw) (hl : bs.length ≤ 2 ^ 40) (hQ : ∀ aw', Ext aw0 aw' → Q (mkB bs) aw') :
    CallP prog 31 [.pointer (some ⟨b, 0, none⟩)] aw sh31 Q E :=
  F31_ok _ _ (by
    unfold S31_0
    obtain ⟨hb, hlt, ad, v, hm, had, hv, hne, hz⟩ := hB
    refine nck_i (fldA_i (ldV_i (v := v) (by simp [AW.get, hm]) ?_))
    by_cases hl0 : bs = []
    · have hz := hz hl0
      subst hz; subst hl0
      refine ⟨.pointer none, .inr rfl, rfl, nck_i (fldA_i (ldV_i (v := .slice none 0 0) (by simp [AW.get, hm]) (slen_i ?_)))⟩
      exact ⟨_, aw, .inl ⟨rfl, ⟨_, rfl⟩, rfl, rfl⟩, hQ aw he⟩
    · have hpos : 0 < bs.length := List.length_pos_iff.2 hl0
      obtain ⟨g, rfl, hg, hgm⟩ : ∃ g, v = .slice (some ⟨g, 0, none⟩) bs.length UNK ∧ aw0.next ≤ g ∧ aw.m g = some ⟨bytesV bs, 5, 1, true, 0⟩ := by
        generalize hn : bs.length = n at hv
        generalize hc : bytesV bs = cs at hv
        cases hv with
        | emp => simp at hn; exact absurd hn hl0
        | own hg hl hm hn => exact ⟨_, rfl, hg, hm⟩
      refine ⟨.pointer (some ⟨g, 0, none⟩), .inl ⟨_, _, _, _, rfl, hpos⟩, rfl, nck_i (fldA_i (ldV_i (v := .slice (some ⟨g, 0, none⟩) bs.length UNK) (by simp [AW.get, hm]) (slen_i ?_)))⟩
      refine ⟨_, aw.kill g, .inr ⟨bs, g, _, hl0, rfl, by omega, rfl, ?_, hgm, rfl, rfl, rfl, rfl⟩, hQ _ (he.kill hg)⟩
      have := getN_whole hgm
      have e : (bytesV bs).length = bs.length := by simp [bytesV]
      simp only [e] at this; exact this)
theorem esc_idx (b : UInt8) : match esc b with
    | none => firstIdx (mkB [110, 34, 92, 116]) b < 0
    | some x => ∃ k : Nat, firstIdx (mkB [110, 34, 92, 116]) b = (k : Int) ∧ ([10, 34, 92, 9] : List UInt8)[k]? = some x := by
  have := all8 (p := fun b => match esc b with
    | none => decide (firstIdx (mkB [110, 34, 92, 116]) b < 0)
    | some x => decide (0 ≤ firstIdx (mkB [110, 34, 92, 116]) b) && decide (([10, 34, 92, 9] : List UInt8)[(firstIdx (mkB [110, 34, 92, 116]) b).toNat]? = some x)) (by decide +kernel) b
  cases he : esc b with
  | none => simpa [he] using this
  | some x =>
    simp only [he, Bool.and_eq_true, decide_eq_true_eq] at this
    exact ⟨_, (Int.toNat_of_nonneg this.1).symm, this.2⟩
theorem T_text_loop {Q : Tk → AW → Prop} {aw1 : AW} (s : List UInt8) (hs : s.length ≤ 2000) {tb b T : Nat} {u v w : Value} (htb : aw0.next ≤ tb) (htl : tb < aw1.next) (htm : aw1.m tb = some ⟨[u, v, w], T, 0, true, 0⟩) (h01 : Ext aw0 aw1) :
    ∀ (n i : Nat) (acc : List UInt8) (aw : AW), s.length < i + n → i ≤ s.length → acc.length ≤ i → BuildAt aw1 aw b acc → Ext aw1 aw → (∀ aw', Ext aw0 aw' → Q (textL false (s.drop i) i acc) aw') →
      S27_1 Q E n (mkB s) (.pointer (some ⟨tb, 0, none⟩)) (.pointer (some ⟨b, 0, none⟩)) i aw
  | 0, i, acc, aw, hn, hi, _, _, _, _ => absurd hn (by omega)
  | n + 1, i, acc, aw, hn, hi, ha, hB, he, hQ => by
    have ih := T_text_loop (Q := Q) (b := b) s hs htb htl htm h01 n
    have fin : ∀ (k a n' bd er : Int) (t : ByteArray) (aw2 : AW), Ext aw1 aw2 → (∀ aw', Ext aw0 aw' → Q (k, t, a, n', bd, er) aw') →
        st aw2 (.pointer (some ⟨tb, 0, none⟩)) [.int .u8 k, .string t, .int .i64 a] fun aw1 => ∃ b' i c1 c2 c3, (.pointer (some ⟨tb, 0, none⟩) : Value) = .pointer (some ⟨b', i, none⟩) ∧ aw1.get b' i = some (.int .u8 c1) ∧
          aw1.get b' (i + 1) = some (.string c2) ∧ aw1.get b' (i + 2) = some (.int .i64 c3) ∧ Q (c1, c2, c3, n', bd, er) aw1 := fun k a n' bd er t aw2 he2 h =>
      res3 (K := fun c1 c2 c3 aw' => Q (c1, c2, c3, n', bd, er) aw') (he2.get htl htm) htb (h01.trans he2) h
    show S27_1s Q E _ _ _ _ _ _
    unfold S27_1s
    have hsz : (mkB s).size = s.length := rfl
    refine cnd_i (fun c => ?_) (fun c => ?_)
    · have c : i < s.length := by have := of_decide_eq_true c; omega
      have hr : s.drop i = s[i] :: s.drop (i + 1) := List.drop_eq_getElem_cons c
      generalize hx : s[i] = x at hr
      have hxi : s[i]? = some x := by rw [List.getElem?_eq_getElem c, hx]
      rw [hr] at hQ
      refine chr_i rfl hxi ?_
      refine cnd_i (fun e => ?_) (fun e => ?_)
      · have e : x = 34 := (bn_eq x 34).1 (of_decide_eq_true e)
        refine T_string hB he (by omega) fun aw2 he2 => ?_
        rw [i64_in (n := (i : Int) + 1) (by omega) (by omega)]
        refine fin 5 0 ((i : Int) + 1) 0 0 (mkB acc) aw2 he2 fun aw' he' => ?_
        have := hQ aw' he'
        rw [show textL false (x :: s.drop (i + 1)) i acc = good 5 acc (i + 1) by simp [textL, e]] at this
        simpa only [good, Int.natCast_add, Int.natCast_one] using this
      · have e : x ≠ 34 := fun h => of_decide_eq_false e ((bn_eq x 34).2 h)
        refine cnd_i (fun e2 => ?_) (fun e2 => ?_)
        · have e2 : x = 92 := (bn_eq x 92).1 (of_decide_eq_true e2)
          rw [i64_in (n := (i : Int) + 1) (by omega) (by omega)]
          rw [show textL false (x :: s.drop (i + 1)) i acc = textL true (s.drop (i + 1)) (i + 1) acc by simp [textL, e, e2]] at hQ
          refine cnd_i (fun c2 => ?_) (fun c2 => ?_)
          · have c2 : i + 1 < s.length := by have := of_decide_eq_true c2; omega
            have hr2 : s.drop (i + 1) = s[i + 1] :: s.drop (i + 2) := List.drop_eq_getElem_cons c2
            generalize hy : s[i + 1] = y at hr2
            have hyi : s[i + 1]? = some y := by rw [List.getElem?_eq_getElem c2, hy]
            rw [hr2] at hQ
            refine chr_i (j := i + 1) (by omega) hyi ?_
            refine T_idx [110, 34, 92, 116] y ?_
            have hidx := esc_idx y
            unfold S27_2
            cases hes : esc y with
            | none =>
              simp only [hes] at hidx
              rw [show textL true (y :: s.drop (i + 2)) (i + 1) acc = bad ((i + 1 : Nat) : Int) 4 by simp [textL, hes]] at hQ
              rw [decide_eq_true hidx]; simp only [cnd_tt]
              refine fin 0 0 0 ((i : Int) + 1) 4 (mkB []) aw he fun aw' he' => ?_
              have := hQ aw' he'
              simpa only [bad, Int.natCast_add, Int.natCast_one] using this
            | some z =>
              simp only [hes] at hidx
              rw [show textL true (y :: s.drop (i + 2)) (i + 1) acc = textL false (s.drop (i + 2)) (i + 1 + 1) (acc ++ [z]) by simp [textL, hes]] at hQ
              obtain ⟨k, hk1, hk2⟩ := hidx
              rw [hk1, decide_eq_false (show ¬ (k : Int) < 0 by omega)]; simp only [cnd_ff]
              refine chr_i (s := [10, 34, 92, 9]) rfl hk2 ?_
              refine T_writeByte z hB he (by omega) fun aw2 hB2 he2 => ?_
              unfold S27_3
              rw [i64_in (n := (i : Int) + 1 + 1) (by omega) (by omega)]
              exact ih (i + 2) (acc ++ [z]) aw2 (by omega) (by omega) (by simp; omega) hB2 he2 hQ
          · have c2 : i + 1 = s.length := by have := of_decide_eq_false c2; omega
            have hr2 : s.drop (i + 1) = [] := List.drop_eq_nil_of_le (by omega)
            rw [hr2] at hQ
            unfold S27_2
            rw [decide_eq_true (show (-1 : Int) < 0 by decide)]; simp only [cnd_tt]
            refine fin 0 0 0 ((i : Int) + 1) 4 (mkB []) aw he fun aw' he' => ?_
            have := hQ aw' he'
            simpa only [textL, bad, Int.natCast_add, Int.natCast_one] using this
        · have e2 : x ≠ 92 := fun h => of_decide_eq_false e2 ((bn_eq x 92).2 h)
          rw [show textL false (x :: s.drop (i + 1)) i acc = textL false (s.drop (i + 1)) (i + 1) (acc ++ [x]) by simp [textL, e, e2]] at hQ
          refine chr_i rfl hxi ?_
          refine T_writeByte x hB he (by omega) fun aw2 hB2 he2 => ?_
          unfold S27_3
          rw [i64_in (n := (i : Int) + 1) (by omega) (by omega)]
          exact ih (i + 1) (acc ++ [x]) aw2 (by omega) (by omega) (by simp; omega) hB2 he2 hQ
    · have c : i = s.length := by have := of_decide_eq_false c; omega
      have hr : s.drop i = [] := List.drop_eq_nil_of_le (by omega)
      rw [hr] at hQ
      refine fin 0 0 0 (s.length : Int) 4 (mkB []) aw he fun aw' he' => ?_
      have := hQ aw' he'
      simp only [textL, bad, c] at this
      exact this
theorem T_text {Q : Tk → AW → Prop} (s : List UInt8) (h1 : 1 ≤ s.length) (hs : s.length ≤ 2000) (hQ : ∀ aw', Ext aw aw' → Q (textR s) aw') : CallP prog 27 [.string (mkB s)] aw sh27 Q E :=
  F27_ok _ _ (by
    unfold S27_0
    refine alc_i (alc_i ?_)
    have e1 := (Ext.refl aw).alloc [.int .u8 0, .string (⟨#[]⟩ : ByteArray), .int .i64 0] 33 0
    refine ⟨s.length + 1, T_text_loop (aw0 := aw) s hs (tb := aw.next) (Nat.le_refl _) (by simp) (AW.alloc_new _ _ _ _) e1 _ 1 [] _ (by omega) h1 (by simp) ?_ ((Ext.refl _).alloc _ _ _) hQ⟩
    exact ⟨Nat.le_refl _, by simp, .pointer none, .slice none 0 0, AW.alloc_new _ _ _ _, .inl rfl, .emp, by simp [blkOf], fun _ => rfl⟩)
end Go.Proofs.Tryd
