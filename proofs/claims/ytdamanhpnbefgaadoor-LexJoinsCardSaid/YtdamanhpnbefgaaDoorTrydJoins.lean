/- The laws of joins and of remarks. -/
import Derived.Test.YtdamanhpnbefgaaDoorTrydBJ
import Derived.Test.YtdamanhpnbefgaaDoorTrydCovers
import Derived.Test.YtdamanhpnbefgaaDoorAm16
import Derived.Test.YtdamanhpnbefgaaDoorLxJ
set_option linter.unusedSimpArgs false
set_option linter.unusedVariables false
namespace Go.Proofs.Tryd
open Go Go.Am Go.Lx
variable {E : List PanicEntry → AW → Prop} {aw aw0 aw1 : AW}

theorem T_same_loop {Q : Bool → AW → Prop} {v w : Value} {l : List Tok} (hv : TokS aw0 aw v l) (hw : TokS aw1 aw w l) (hl : l.length ≤ 100000) (h : Q true aw) : ∀ (n i : Nat), l.length < i + n → i ≤ l.length →
    S12_1 Q E n v w i aw
  | 0, i, hn, hi => absurd hn (by omega)
  | n + 1, i, hn, hi => by
    have ih := T_same_loop hv hw hl h n
    show S12_1s Q E _ _ _ _ _
    unfold S12_1s
    obtain ⟨q, c, hq⟩ := hv.len
    refine (fun h => by rw [hq]; exact slen_i (by rw [← hq]; exact h)) (cnd_i (fun c1 => ?_) (fun c1 => h))
    have c1 : i < l.length := by have := of_decide_eq_true c1; omega
    obtain ⟨t, ht⟩ : ∃ t, l[i]? = some t := ⟨_, List.getElem?_eq_getElem c1⟩
    have hne : l ≠ [] := fun e => by rw [e] at c1; simp at c1
    obtain ⟨g, hvg, hat⟩ := hv.at hne
    obtain ⟨g2, hwg, hat2⟩ := hw.at hne
    obtain ⟨a0, a1, a2⟩ := hat i t ht
    obtain ⟨b0, b1, b2⟩ := hat2 i t ht
    rw [hvg, hwg]
    refine ixS_i (j := i) rfl c1 ⟨_, _, _, _, _, rfl, by simpa using a0, by simpa using a1, by simpa using a2, ixS_i (j := i) rfl c1 ⟨_, _, _, _, _, rfl, by simpa using b0, by simpa using b1, by simpa using b2, ?_⟩⟩
    rw [← hvg, ← hwg, i64_in (n := (i : Int) + 1) (by omega) (by omega)]
    exact cnd_false (by simp) (ih (i + 1) (by omega) (by omega))
theorem T_same {Q : Bool → AW → Prop} {v w : Value} {l : List Tok} (hv : TokS aw0 aw v l) (hw : TokS aw1 aw w l) (hl : l.length ≤ 100000) (h : Q true aw) : CallP prog 12 [v, w] aw sh12 Q E :=
  F12_ok _ _ _ (by
    unfold S12_0
    obtain ⟨q, c, hq⟩ := hv.len
    obtain ⟨q2, c2, hq2⟩ := hw.len
    have := T_same_loop (E := E) hv hw hl h (l.length + 1) 0 (by omega) (by omega)
    rw [hq, hq2] at this ⊢
    exact slen_i (slen_i (cnd_false (by simp) ⟨_, this⟩)))
theorem T_moved_loop {Q : Value → AW → Prop} {v : Value} {l : List Tok} (k : Nat) (hv : TokS aw1 aw0 v l) (hl : l.length ≤ 90000) (hk : k ≤ 100000) (hb : ∀ t ∈ l, 0 ≤ t.at' ∧ t.at' ≤ 100000)
    (hQ : ∀ aw' v', Ext aw0 aw' → TokS aw0 aw' v' (l.map (sh k)) → Q v' aw') : ∀ (n i : Nat) (aw : AW) (m : Value), l.length < i + n → i ≤ l.length → Ext aw0 aw → TokS aw0 aw m ((l.take i).map (sh k)) →
    S11_1 Q E n v k m i aw
  | 0, i, aw, m, hn, hi, _, _ => absurd hn (by omega)
  | n + 1, i, aw, m, hn, hi, he, hm => by
    have ih := T_moved_loop k hv hl hk hb hQ n
    show S11_1s Q E _ _ _ _ _ _
    unfold S11_1s
    have hva : TokS aw1 aw v l := Own.ext hv he
    obtain ⟨q, c, hq⟩ := hv.len
    refine (fun h => by rw [hq]; exact slen_i (by rw [← hq]; exact h)) (cnd_i (fun c1 => ?_) (fun c1 => ?_))
    · have c1 : i < l.length := by have := of_decide_eq_true c1; omega
      obtain ⟨t, ht⟩ : ∃ t, l[i]? = some t := ⟨_, List.getElem?_eq_getElem c1⟩
      have hne : l ≠ [] := fun e => by rw [e] at c1; simp at c1
      obtain ⟨g, hvg, hat⟩ := hva.at hne
      obtain ⟨a0, a1, a2⟩ := hat i t ht
      obtain ⟨b1, b2⟩ := hb t (List.mem_of_getElem? ht)
      rw [hvg]
      refine ixS_i (j := i) rfl c1 (fldA_i (ldI_i (n := t.kind) (by simpa using a0) (ixS_i (j := i) rfl c1 (fldA_i (ldS_i (n := t.text) (by simpa using a1) (ixS_i (j := i) rfl c1 (fldA_i (ldI_i (n := t.at') (by simpa using a2) ?_))))))))
      rw [← hvg, i64_in (n := t.at' + (k : Int)) (by omega) (by omega)]
      refine app_tok (t := sh k t) hm he (by simp; omega) fun v' aw' hv' he' => ?_
      unfold S11_2
      rw [i64_in (n := (i : Int) + 1) (by omega) (by omega)]
      refine ih (i + 1) aw' v' (by omega) (by omega) he' ?_
      rw [List.take_add_one, ht]
      simpa using hv'
    · have c1 : i = l.length := by have := of_decide_eq_false c1; omega
      subst c1
      rw [List.take_length] at hm
      exact hQ _ _ he hm
theorem T_moved {Q : Value → AW → Prop} {v : Value} {l : List Tok} (k : Nat) (hv : TokS aw1 aw v l) (hl : l.length ≤ 90000) (hk : k ≤ 100000) (hb : ∀ t ∈ l, 0 ≤ t.at' ∧ t.at' ≤ 100000)
    (hQ : ∀ aw' v', Ext aw aw' → TokS aw aw' v' (l.map (sh k)) → Q v' aw') : CallP prog 11 [v, .int .i64 k] aw sh11 Q E :=
  F11_ok _ _ _ (by
    unfold S11_0
    exact ⟨_, T_moved_loop (E := E) k hv hl hk hb hQ (l.length + 1) 0 aw _ (by omega) (by omega) (Ext.refl aw) TokS.nil⟩)
theorem at_bounds {s : List UInt8} (hs : s.length ≤ 2000) (h0 : (tokens s).2.2 = 0) : ∀ t ∈ (tokens s).1, 0 ≤ t.at' ∧ t.at' ≤ 100000 := by
  intro t ht
  obtain ⟨i, hi⟩ := List.getElem?_of_mem ht
  obtain ⟨a, e1, e2, _⟩ := ((tokens_covers s).place h0 hi).le
  omega
theorem TokS.blk {v : Value} {l : List Tok} (h : TokS aw0 aw v l) (hne : l ≠ []) : ∃ g, v = .slice (some ⟨g, 0, none⟩) l.length UNK ∧ aw.m g = some ⟨l.flatMap cellsT, 33, 3, true, 0⟩ ∧ aw0.next ≤ g ∧ g < aw.next := by
  unfold TokS at h
  generalize hn : l.length = n at h
  generalize hc : l.flatMap cellsT = cs at h
  cases h with
  | emp => exact absurd (List.length_eq_zero_iff.1 hn) hne
  | own hg hl hm hnn => exact ⟨_, rfl, hm, hg, hl⟩
theorem T_joins1 {a b : List UInt8} (hG : G0 aw) (hl : a.length + b.length ≤ 1999) : S3_1 (fun r _ => r = true) (fun _ _ => False) (mkB a) (mkB b) false aw := by
  unfold S3_1
  refine cnd_false rfl (T_tokens a hG fun aw5 v1 he5 hv1 => T_tokens b (hG.ext he5) fun aw7 v2 he7 hv2 => ⟨by simp only [mkB_size, show ((⟨#[10]⟩ : ByteArray)).size = 1 from rfl]; omega, ?_, ?_⟩)
  · rw [show (⟨#[10]⟩ : ByteArray) = mkB [10] from rfl, mkB_append]; simp only [mkB_size, List.length_append, List.length_cons, List.length_nil]; omega
  rw [show (⟨#[10]⟩ : ByteArray) = mkB [10] from rfl, mkB_append, mkB_append, show a ++ [10] ++ b = a ++ 10 :: b by simp]
  refine T_tokens _ (hG.ext (he5.trans he7)) fun aw11 v3 he11 hv3 => ?_
  refine cnd_i (fun _ => rfl) (fun c1 => ?_)
  have c1 : (tokens a).2.2 = 0 := by simpa using c1
  obtain ⟨j1, j2, j3⟩ := tokens_join hl c1
  refine cnd_i (fun c2 => ?_) (fun c2 => ?_)
  · have c2 : (tokens b).2.2 ≠ 0 := by simpa using c2
    obtain ⟨_, d1, d2⟩ := (tokens_covers b).bad c2
    refine cnd_true (by simp [j1]) ?_
    have := j3 c2
    generalize (tokens (a ++ 10 :: b)).2.1 = x at this ⊢
    show decide (x = IntKind.i64.wrap (IntKind.i64.wrap (((mkB a).size : Int) + 1) + (tokens b).2.1)) = true
    generalize (tokens b).2.1 = y at this d1 d2 ⊢
    rw [mkB_size, i64_in (n := (a.length : Int) + 1) (by omega) (by omega), i64_in (n := (a.length : Int) + 1 + y) (by omega) (by omega)]
    exact decide_eq_true (by omega)
  · have c2 : (tokens b).2.2 = 0 := by simpa using c2
    obtain ⟨k1, k2⟩ := j2 c2
    have hlen1 := tokens_len a
    have hlen2 := tokens_len b
    have hv1' := Own.ext (Own.ext hv1 he7) he11
    obtain ⟨g, rfl, hm, hg1, hg2⟩ := TokS.blk hv1' k2
    refine slen_i ?_
    have hp : 0 < (tokens a).1.length := List.length_pos_iff.2 k2
    rw [i64_in (n := ((tokens a).1.length : Int) - 1) (by omega) (by omega)]
    refine cutV_i (lo := 0) (hi := (tokens a).1.length - 1) rfl (by omega) (by omega) (by omega) ⟨_, hm, rfl⟩ ?_
    have hcut : Src aw11 3 (.slice (some ⟨g, 0 + 0 * 3, none⟩) ((tokens a).1.length - 1 - 0) UNK) ((tokens a).1.length - 1 - 0) ((tokens a).1.dropLast.flatMap cellsT) := by
      refine .slice ?_
      have hcl : ∀ l : List Tok, (l.flatMap cellsT).length = l.length * 3 := fun l => by
        induction l with
        | nil => rfl
        | cons t l ih => simp only [List.flatMap_cons, List.length_append, ih, List.length_cons, show (cellsT t).length = 3 from rfl]; omega
      have := AW.getN_of (aw := aw11) (b := g) (cs := (tokens a).1.dropLast.flatMap cellsT) (i := 0) (fun j u hj => by
        have hsplit := List.dropLast_concat_getLast k2
        rw [Nat.zero_add, get_of hm]
        show ((tokens a).1.flatMap cellsT)[j]? = some u
        rw [← hsplit, List.flatMap_append, List.getElem?_append_left (List.getElem?_eq_some_iff.1 hj).1]
        exact hj)
      rw [hcl, List.length_dropLast] at this
      exact this
    refine app_own (aw0 := aw) (n := 0) (cs := []) .emp ((he5.trans he7).trans he11) hcut (by omega) (by
      simp only [List.all_flatMap, List.all_eq_true]
      intro t _ x hx
      simp only [cellsT, List.mem_cons, List.not_mem_nil, or_false] at hx
      rcases hx with rfl | rfl | rfl <;> rfl) fun v23 aw24 hv23 he24 hn24 hk24 hb24 => ?_
    have hv2' : TokS aw5 aw24 v2 (tokens b).1 := Own.keep (Own.ext hv2 he11) hn24 (fun c hc _ => hk24 c hc (by simp [blkOf]))
    have hv3' : TokS aw7 aw24 v3 (tokens (a ++ 10 :: b)).1 := Own.keep hv3 hn24 (fun c hc _ => hk24 c hc (by simp [blkOf]))
    rw [mkB_size, i64_in (n := (a.length : Int) + 1) (by omega) (by omega), show (a.length : Int) + 1 = ((a.length + 1 : Nat) : Int) by omega]
    refine T_moved (a.length + 1) hv2' (by omega) (by omega) (at_bounds (by omega) c2) fun aw27 v26 he27 hv26 => ?_
    refine app_own (aw0 := aw) (Own.ext hv23 he27) (he24.trans he27) (Own.src hv26) (by simp only [List.length_map]; omega) (by
      simp only [List.all_flatMap, List.all_eq_true]
      intro t _ x hx
      simp only [cellsT, List.mem_cons, List.not_mem_nil, or_false] at hx
      rcases hx with rfl | rfl | rfl <;> rfl) fun v28 aw29 hv28 he29 hn29 hk29 hb29 => ?_
    refine cnd_true (by simp [← j1, c2]) ?_
    have hv3b : TokS aw7 aw29 v3 (tokens (a ++ 10 :: b)).1 := Own.keep (Own.ext hv3' he27) hn29 (fun c hc hbc => hk29 c hc (fun h => by
      rcases hb24 c h with h | h
      · simp [blkOf] at h
      · have := (Own.blk hv3 hbc).2
        omega))
    have hw : TokS aw aw29 v28 (tokens (a ++ 10 :: b)).1 := by
      unfold TokS
      rw [k1, List.flatMap_append, List.length_append, List.length_dropLast]
      simpa using hv28
    have hlen3 := tokens_len (a ++ 10 :: b)
    exact T_same hv3b hw (by omega) rfl
theorem T_joins {a b : List UInt8} (hG : G0 aw) (ha : a.length ≤ reachBytes) (hb : b.length ≤ reachBytes) : CallP prog 3 [.string (mkB a), .string (mkB b)] aw sh3 (fun r _ => r = true) (fun _ _ => False) :=
  F3_ok _ _ _ (by
    unfold S3_0
    have hreach : reachBytes = 140737488351232 := rfl
    refine T_awake hG fun aw1 he1 => ?_
    simp only [Bool.not_true, cnd_ff]
    rw [mkB_size, mkB_size, i64_in (n := (a.length : Int) + b.length) (by omega) (by omega)]
    by_cases hl : 1999 < (a.length : Int) + b.length
    · rw [decide_eq_true hl]
      unfold S3_1
      exact cnd_true rfl (T_awake (hG.ext he1) fun aw2 he2 => rfl)
    · rw [decide_eq_false hl]
      exact T_joins1 (hG.ext he1) (by omega))

/-- what a remark may hold -/
theorem T_remarks_end {s r : List UInt8} (hG : G0 aw) (hs : s.length ≤ 900) (hr : r.length ≤ 900) (hc : ∀ b ∈ r, calm b = true) {v : Value} (hv : Src aw 1 v r.length (bytesV r)) (hq : ∃ q m c, v = .slice q m c) : toS aw v fun s76 =>
  (⟨#[40, 42, 32, 40, 42]⟩ : ByteArray).size + s76.size ≤ 2 ^ 62 ∧ ((⟨#[40, 42, 32, 40, 42]⟩ : ByteArray) ++ s76).size + (⟨#[42, 41, 32, 42, 41]⟩ : ByteArray).size ≤ 2 ^ 62 ∧ CallP prog 10 [.string (mkB s)] aw sh10 (fun r84 aw85 =>
  (((⟨#[40, 42, 32, 40, 42]⟩ : ByteArray) ++ s76) ++ (⟨#[42, 41, 32, 42, 41]⟩ : ByteArray)).size + (mkB s).size ≤ 2 ^ 62 ∧ CallP prog 10 [.string ((((⟨#[40, 42, 32, 40, 42]⟩ : ByteArray) ++ s76) ++ (⟨#[42, 41, 32, 42, 41]⟩ : ByteArray)) ++ (mkB s))] aw85 sh10 (fun r87 aw88 =>
  cnd (!decide (r84.2.2 = r87.2.2)) ((fun r _ => r = true) false aw88) (cnd (!decide (r84.2.2 = 0)) (cnd (!decide (r87.2.1 = (IntKind.i64.wrap (r84.2.1 + ((((⟨#[40, 42, 32, 40, 42]⟩ : ByteArray) ++ s76) ++ (⟨#[42, 41, 32, 42, 41]⟩ : ByteArray)).size : Int))))) ((fun r _ => r = true) false aw88) ((fun r _ => r = true) true aw88)) (CallP prog 11 [r84.1, .int .i64 ((((⟨#[40, 42, 32, 40, 42]⟩ : ByteArray) ++ s76) ++ (⟨#[42, 41, 32, 42, 41]⟩ : ByteArray)).size : Int)] aw88 sh11 (fun r94 aw95 =>
  CallP prog 12 [r87.1, r94] aw95 sh12 (fun r96 aw97 =>
  (fun r _ => r = true) r96 aw97) E) E))) E) E := by
  refine toS_i hv hq ?_
  rw [show (⟨#[40, 42, 32, 40, 42]⟩ : ByteArray) = mkB [40, 42, 32, 40, 42] from rfl, show (⟨#[42, 41, 32, 42, 41]⟩ : ByteArray) = mkB [42, 41, 32, 42, 41] from rfl]
  simp only [mkB_append, mkB_size]
  rw [show [40, 42, 32, 40, 42] ++ r ++ [42, 41, 32, 42, 41] = 40 :: 42 :: 32 :: 40 :: 42 :: (r ++ [42, 41, 32, 42, 41]) by simp]
  have hk := tokens_remark hs hr hc
  simp only at hk
  have ht : (40 :: 42 :: 32 :: 40 :: 42 :: (r ++ [42, 41, 32, 42, 41]) : List UInt8).length = 10 + r.length := by simp; omega
  generalize (40 :: 42 :: 32 :: 40 :: 42 :: (r ++ [42, 41, 32, 42, 41]) : List UInt8) = t at hk ht ⊢
  obtain ⟨j1, j2, j3⟩ := hk
  refine ⟨by simp only [List.length_cons, List.length_nil]; omega, by simp only [List.length_cons, List.length_append, List.length_nil]; omega, T_tokens s hG fun aw5 v1 he5 hv1 => ⟨by omega, T_tokens _ (hG.ext he5) fun aw7 v2 he7 hv2 => ?_⟩⟩
  refine cnd_false (by simp [j1]) (cnd_i (fun c2 => ?_) (fun c2 => ?_))
  · have c2 : (tokens s).2.2 ≠ 0 := by simpa using c2
    obtain ⟨_, d1, d2⟩ := (tokens_covers s).bad c2
    have := j3 c2
    refine cnd_false ?_ trivial
    show (!decide ((tokens (t ++ s)).2.1 = IntKind.i64.wrap ((tokens s).2.1 + (t.length : Int)))) = false
    rw [i64_in (n := (tokens s).2.1 + (t.length : Int)) (by omega) (by omega), this]
    simp
  · have c2 : (tokens s).2.2 = 0 := by simpa using c2
    have hlen1 := tokens_len s
    have hlen2 := tokens_len (t ++ s)
    refine T_moved t.length (Own.ext hv1 he7) (by omega) (by omega) (at_bounds (by omega) c2) fun aw9 v3 he9 hv3 => ?_
    rw [← j2 c2] at hv3
    exact T_same (Own.ext hv2 he9) hv3 (by omega) rfl
theorem T_remarks_loop {s l : List UInt8} (hG : G0 aw0) (hs : s.length ≤ 900) (hl : l.length ≤ 900) {v : Value} (hB : BytesAt aw0 v l) : ∀ (n i : Nat) (aw : AW) (m : Value) (r : List UInt8), l.length < i + n → i ≤ l.length → Ext aw0 aw →
    r.length ≤ i → (∀ b ∈ r, calm b = true) → Own aw0 aw 5 1 m r.length (bytesV r) → S4_1 (fun r _ => r = true) E n (mkB s) v m i aw
  | 0, i, aw, m, r, hn, hi, _, _, _, _ => absurd hn (by omega)
  | n + 1, i, aw, m, r, hn, hi, he, hr, hc, hm => by
    have ih := T_remarks_loop hG hs hl hB n
    show S4_1s _ E _ _ _ _ _ _
    unfold S4_1s
    obtain ⟨q, c, hq⟩ := hB.len
    refine (fun h => by rw [hq]; exact slen_i (by rw [← hq]; exact h)) (cnd_i (fun c1 => ?_) (fun c1 => ?_))
    · have c1 : i < l.length := by have := of_decide_eq_true c1; omega
      obtain ⟨y, hy⟩ : ∃ y, l[i]? = some y := ⟨_, List.getElem?_eq_getElem c1⟩
      obtain ⟨g, hv, hes, hgt⟩ := (hB.ext he).get hy
      have skip : S4_2 (fun r _ => r = true) E (S4_1 (fun r _ => r = true) E n) (mkB s) v m i aw := by
        unfold S4_2
        rw [i64_in (n := (i : Int) + 1) (by omega) (by omega)]
        exact ih (i + 1) aw m r (by omega) (by omega) he (by omega) hc hm
      rw [hv]
      refine ixS_i (j := i) rfl c1 (ldI_i hgt (cnd_i (fun d1 => ?_) (fun d1 => by rw [← hv]; exact skip)))
      refine ixS_i (j := i) rfl c1 (ldI_i hgt (cnd_i (fun d2 => ?_) (fun d2 => by rw [← hv]; exact skip)))
      refine ixS_i (j := i) rfl c1 (ldI_i hgt (cnd_i (fun d3 => ?_) (fun d3 => by rw [← hv]; exact skip)))
      refine ixS_i (j := i) rfl c1 (ldI_i hgt (alcS_i ?_))
      rw [← hv]
      have hy2 : calm y = true := by
        have e : ∀ k : UInt8, (!decide (bn y = bn k)) = true → (y != k) = true := fun k h => by
          simp only [Bool.not_eq_true', decide_eq_false_iff_not, bn_eq] at h
          simpa using h
        unfold calm
        rw [e 40 d1, e 42 d2, e 41 d3]; rfl
      have hsrc : Src (aw.alloc [.int .u8 (bn y)] 5 1) 1 (.slice (some ⟨aw.next, 0, none⟩) 1 1) 1 (bytesV [y]) := .slice (getN_whole (AW.alloc_new aw [.int .u8 (bn y)] 5 1))
      refine app_own (Own.ext hm ((Ext.refl aw).alloc _ _ _)) (he.alloc _ _ _) hsrc (by omega) rfl fun v' aw' hv' he' _ _ _ => ?_
      unfold S4_2
      rw [i64_in (n := (i : Int) + 1) (by omega) (by omega)]
      refine ih (i + 1) aw' v' (r ++ [y]) (by omega) (by omega) he' (by simp; omega) (fun b hb => ?_) ?_
      · rcases List.mem_append.1 hb with h | h
        · exact hc b h
        · simp at h; subst h; exact hy2
      · simpa [bytesV] using hv'
    · exact T_remarks_end (hG.ext he) hs (by omega) hc (Own.src hm) (by obtain ⟨q, c, h⟩ := hm.lenV; exact ⟨_, _, _, h⟩)
theorem T_remarks {s l : List UInt8} {v : Value} (hG : G0 aw) (hB : BytesAt aw v l) : CallP prog 4 [.string (mkB s), v] aw sh4 (fun r _ => r = true) (fun _ _ => False) :=
  F4_ok _ _ _ (by
    unfold S4_0
    refine T_awake hG fun aw1 he1 => ?_
    simp only [Bool.not_true, cnd_ff]
    refine cnd_i (fun c0 => ?_) (fun c0 => ?_)
    · exact T_awake (hG.ext he1) fun aw2 he2 => rfl
    have c0 := of_decide_eq_false c0
    rw [mkB_size] at c0
    obtain ⟨q, c, hv⟩ := hB.len
    refine (fun h => by rw [hv]; exact slen_i (by rw [← hv]; exact h)) (cnd_i (fun c1 => ?_) (fun c1 => ?_))
    · exact T_awake (hG.ext he1) fun aw2 he2 => rfl
    have c1 := of_decide_eq_false c1
    exact ⟨l.length + 1, T_remarks_loop (hG.ext he1) (by omega) (by omega) (hB.ext he1) _ 0 aw1 _ [] (by omega) (by omega) (Ext.refl _) (by simp) (fun b hb => by simp at hb) .emp⟩)
end Go.Proofs.Tryd
