/- octet: what its functions do: bytes copied and compared; the reader. -/
import Derived.Test.YtfgihmgeplcfoaaGreatDoorL5
import Derived.Test.YtfgihmgeplcfoaaGreatDoorNaA
set_option linter.unusedSimpArgs false
set_option linter.unusedVariables false
set_option linter.unusedSectionVars false
namespace Go.Proofs.Tryz
open Go Go.Am Go.RowKit Go.Oc
variable [SymE]
section
variable {aw0 aw : AW} {own : List Nat} {ro l S S' : List (Nat × Blk)} {E : List PanicEntry → AW → Prop} {v w pv : Value} {bs cs : List UInt8} {rb : Nat} {bad : Bool} {st : Oc.St}
theorem clone_x {Q : Value → AW → Prop} (M : Hp aw0 own ro aw l) (hR : Rs aw0 own ro S v bs) (hS : ∀ p ∈ S, p ∈ l) (hb : bs.length < 2 ^ 44) (h : ∀ v' L aw', Ob 5 v' bs L → (v = .slice none 0 0 ↔ v' = .slice none 0 0) → Hp aw0 own ro aw' (L ++ l) → Q v' aw') :
    CallP prog 32 [v] aw sh32 Q E := by
  refine F32_ok _ aw ?_
  unfold S32_0
  have go : v ≠ .slice none 0 0 → (isNil v).getD false = false → nilFits (.slice 5) v (.slice none 0 0) = true → nilB (.slice 5) v (.slice none 0 0) fun q1 => cnd q1 (Q (.slice none 0 0) aw) (alcS aw [] 5 1 0 fun p5 aw6 => app aw6 5 1 1 p5 v fun v9 aw10 => Q v9 aw10) := by
    intro hne hn hf
    refine nilB_x hf hn (cnd_0x rfl (alcS_x M fun b aw' M' => ?_))
    have ho : Ob 5 (.slice (some ⟨b, 0, none⟩) 0 0) [] [(b, ⟨bytesV [], 5, 1, true, 0⟩)] := .blk rfl (.inl rfl)
    by_cases h0 : bs = []
    · subst h0
      exact app_none (hR _ _ M' fun p hp => List.mem_cons_of_mem _ (hS p hp)).src (h _ _ _ ho ⟨fun h => absurd h hne, fun h => by cases h⟩ M')
    · refine app_ob (bs := []) (cs := bs) ho M' (hR _ _ M' fun p hp => List.mem_cons_of_mem _ (hS p hp)).src (by simpa using hb) fun v' L' aw2 h1 h2 M2 => ?_
      exact h v' L' aw2 h1 ⟨fun h => absurd h hne, fun h => absurd h (h2 (.inr h0))⟩ M2
  have hr := hR aw l M hS
  cases hr with
  | nil => exact nilB_x rfl rfl (cnd_1x rfl (h _ [] _ .nil ⟨fun _ => rfl, fun _ => rfl⟩ M))
  | emp => exact go (fun h => by cases h) rfl rfl
  | «at» => exact go (fun h => by cases h) rfl rfl
abbrev P0 (b : Nat) : Value := .pointer (some ⟨b, 0, none⟩)
abbrev RBk (pv : Value) (bad : Bool) : Blk := ⟨[pv, .bool bad], 84, 0, true, 0⟩
inductive RdS (aw0 : AW) (own : List Nat) (ro S : List (Nat × Blk)) : Oc.St → Value → Bool → Prop
  | ok {pv : Value} {rest : List UInt8} (h : Rs aw0 own ro S pv rest) (ho : one pv = true) (hl : rest.length < 2 ^ 44) : RdS aw0 own ro S (some rest) pv false
  | bad {pv : Value} (ho : one pv = true) : RdS aw0 own ro S none pv true
theorem RdS.one' (h : RdS aw0 own ro S st pv bad) : one pv = true := by
  cases h with
  | ok _ ho _ => exact ho
  | bad ho => exact ho
theorem rb_one (h : Rb aw v bs) : one v = true := by
  cases h <;> rfl
theorem fail_x {Q : Unit → AW → Prop} (M : Hp aw0 own ro aw ((rb, RBk pv bad) :: l)) (h : ∀ aw', Hp aw0 own ro aw' ((rb, RBk pv true) :: l) → Q () aw') : CallP prog 35 [P0 rb] aw sh35 Q E := by
  refine F35_ok _ aw ?_
  unfold S35_0
  refine nilB_x rfl rfl (cnd_1x rfl (nck_x (fldA_x (st_x M .here (by repeat constructor) rfl rfl rfl fun aw' M' => h aw' M'))))
theorem bad_x {Q : Bool → AW → Prop} (M : Hp aw0 own ro aw ((rb, RBk pv bad) :: l)) (h : Q bad aw) : CallP prog 21 [P0 rb] aw sh21 Q E := by
  refine F21_ok _ aw ?_
  unfold S21_0
  exact nilB_x rfl rfl (cnd_0x rfl (nck_x (fldA_x (ldB_x (M.im .here) (by repeat constructor) h))))
theorem end_x {Q : Bool → AW → Prop} (M : Hp aw0 own ro aw ((rb, RBk pv bad) :: l)) (hr : RdS aw0 own ro S st pv bad) (hS : ∀ p ∈ S, p ∈ l) (h : Q (decide (st = some [])) aw) : CallP prog 22 [P0 rb] aw sh22 Q E := by
  refine F22_ok _ aw ?_
  unfold S22_0
  refine nilB_x rfl rfl (cnd_1x rfl (nck_x (fldA_x (ldB_x (M.im .here) (by repeat constructor) ?_))))
  cases hr with
  | bad => exact cnd_0x rfl (by simpa using h)
  | ok hR ho hl =>
    rename_i rest
    refine cnd_1x rfl (nck_x (fldA_x (ldV_x (M.im .here) (by repeat constructor) (slen_b (hR aw _ M fun p hp => List.mem_cons_of_mem _ (hS p hp)) ?_))))
    have e : decide ((rest.length : Int) = 0) = decide (some rest = some ([] : List UInt8)) := by
      rw [decide_eq_decide]
      constructor
      · intro h; have : rest = [] := List.eq_nil_of_length_eq_zero (by omega); rw [this]
      · intro h; injection h with h; rw [h]; rfl
    rw [e]; exact h
theorem newReader_x {Q : Value → AW → Prop} (M : Hp aw0 own ro aw l) (ho : one v = true) (h : ∀ b aw', Hp aw0 own ro aw' ((b, RBk v false) :: l) → Q (P0 b) aw') : CallP prog 17 [v] aw sh17 Q E := by
  refine F17_ok _ aw ?_
  unfold S17_0
  exact ⟨ho, alc_x M fun b aw' M' => h b aw' M'⟩
end
section
variable {aw0 aw : AW} {own : List Nat} {ro l S : List (Nat × Blk)} {E : List PanicEntry → AW → Prop} {pv : Value} {rb : Nat} {bad : Bool} {st : Oc.St} {Q : Int → AW → Prop}
theorem uint_loop {vb : Value} {l8 rest : List UInt8} {k : Nat} (hk : k = l8.length) (h8 : k ≤ 8) (hrest : k + 1 ≤ rest.length) (hl : rest.length < 2 ^ 44) (M : Hp aw0 own ro aw ((rb, RBk pv bad) :: l)) (hv : Rb aw vb l8) (hR : Rs aw0 own ro S pv rest) (hS : ∀ p ∈ S, p ∈ l)
    (hQ : ∀ pv' aw', Rs aw0 own ro S pv' (rest.drop (k + 1)) → one pv' = true → Hp aw0 own ro aw' ((rb, RBk pv' bad) :: l) → Q ((be 0 l8 : Nat) : Int) aw') :
    ∀ n i, i + n = k → S33_2 Q E (n + 1) (P0 rb) (k : Int) ((be 0 (l8.take i) : Nat) : Int) vb (k : Int) (i : Int) aw
  | 0, i, hi => by
    show S33_2s Q E (S33_2 Q E 0) _ _ _ _ _ _ aw
    unfold S33_2s
    refine cnd_0x (decide_eq_false (by omega)) (nck_x (fldA_x (ldV_x (M.im .here) (by repeat constructor) ?_)))
    have hr := hR aw _ M fun p hp => List.mem_cons_of_mem _ (hS p hp)
    rw [hr.lenV, show (1 : Int) + (k : Int) = ((k + 1 : Nat) : Int) by omega, i64_nat (by omega)]
    refine cut_rs hR M (fun p hp => List.mem_cons_of_mem _ (hS p hp)) rfl rfl hrest (Nat.le_refl _) fun v' hR' => ?_
    have e : (rest.drop (k + 1)).take (rest.length - (k + 1)) = rest.drop (k + 1) := List.take_of_length_le (by simp)
    rw [e] at hR'
    have ho := rb_one (hR' aw _ M fun p hp => List.mem_cons_of_mem _ (hS p hp))
    refine nck_x (fldA_x (st_x M .here (by repeat constructor) rfl rfl (by simp [ho]) fun aw' M' => ?_))
    have e2 : l8.take i = l8 := List.take_of_length_le (by omega)
    rw [e2]
    exact hQ v' aw' hR' ho M'
  | n + 1, i, hi => by
    show S33_2s Q E (S33_2 Q E (n + 1)) _ _ _ _ _ _ aw
    unfold S33_2s
    have hlt : i < l8.length := by omega
    refine cnd_1x (decide_eq_true (by omega)) (ix_b hv rfl (List.getElem?_eq_getElem hlt) (fun p h => h) ?_)
    have hbe : be 0 (l8.take i) < 2 ^ 56 := by
      have h1 := be_lt (l8.take i) 0
      have h2 : (l8.take i).length ≤ 7 := by rw [List.length_take]; omega
      have h3 : 256 ^ (l8.take i).length ≤ 256 ^ 7 := Nat.pow_le_pow_right (by decide) h2
      have h4 : (256 : Nat) ^ 7 = 2 ^ 56 := by decide
      omega
    rw [or_b hbe, i64_in (n := (i : Int) + 1) (by omega) (by omega)]
    have e : be 0 (l8.take i) * 256 + l8[i].toNat = be 0 (l8.take (i + 1)) := by
      rw [List.take_add_one, List.getElem?_eq_getElem hlt, be_append]; rfl
    rw [e]
    exact uint_loop hk h8 hrest hl M hv hR hS hQ n (i + 1) (by omega)
theorem uint_x (M : Hp aw0 own ro aw ((rb, RBk pv bad) :: l)) (hr : RdS aw0 own ro S st pv bad) (hS : ∀ p ∈ S, p ∈ l)
    (h : ∀ pv' bad' aw', RdS aw0 own ro S (rU st).2 pv' bad' → Hp aw0 own ro aw' ((rb, RBk pv' bad') :: l) → Q ((rU st).1 : Int) aw') : CallP prog 33 [P0 rb] aw sh33 Q E := by
  have hS' : ∀ p ∈ S, p ∈ (rb, RBk pv bad) :: l := fun p hp => List.mem_cons_of_mem _ (hS p hp)
  refine F33_ok _ aw ?_
  unfold S33_0
  refine nilB_x rfl rfl (cnd_0x rfl (nck_x (fldA_x (ldB_x (M.im .here) (by repeat constructor) ?_))))
  cases hr with
  | bad ho =>
    refine cnd_1x rfl ?_
    unfold S33_1
    exact cnd_1x rfl (fail_x M fun aw' M' => h pv true aw' (.bad ho) M')
  | ok hR ho hl =>
    rename_i rest
    refine cnd_0x rfl (nck_x (fldA_x (ldV_x (M.im .here) (by repeat constructor) ?_)))
    have hb := hR aw _ M hS'
    refine slen_b hb ?_
    have failed : rdU rest = none → ∀ aw', Hp aw0 own ro aw' ((rb, RBk pv true) :: l) → Q 0 aw' := fun hn aw' M' => by
      have := h pv true aw'
      have e : rU (some rest) = (0, none) := by
        show (match rdU rest with | none => ((0, none) : Nat × Oc.St) | some (n, r) => (n, some r)) = _
        rw [hn]
      rw [e] at this
      exact this (.bad ho) M'
    unfold S33_1
    cases hrest : rest with
    | nil =>
      refine cnd_1x rfl (fail_x M fun aw' M' => ?_)
      exact failed (by rw [hrest]; rfl) aw' M'
    | cons kb tl =>
      have hx0 : rest[0]? = some kb := by rw [hrest]; rfl
      have hlen : rest.length = tl.length + 1 := by rw [hrest]; rfl
      refine cnd_0x (decide_eq_false (by simp; omega)) (nck_x (fldA_x (ldV_x (M.im .here) (by repeat constructor) (ix_b hb (i := 0) rfl hx0 (fun p h => h) ?_))))
      have hk : kb.toNat < 256 := kb.toNat_lt
      rw [i64_nat (by omega)]
      have hrd : rdU rest = if 8 < kb.toNat ∨ tl.length < kb.toNat ∨ (0 < kb.toNat ∧ tl.head? = some 0) then none else some (be 0 (tl.take kb.toNat), tl.drop kb.toNat) := by rw [hrest]; rfl
      by_cases h8 : 8 < kb.toNat
      · refine cnd_1x (decide_eq_true (by omega)) (fail_x M fun aw' M' => failed (by rw [hrd, if_pos (.inl h8)]) aw' M')
      refine cnd_0x (decide_eq_false (by omega)) (nck_x (fldA_x (ldV_x (M.im .here) (by repeat constructor) (slen_b hb ?_))))
      rw [show (1 : Int) + (kb.toNat : Int) = ((kb.toNat + 1 : Nat) : Int) by omega, i64_nat (by omega)]
      by_cases hsh : tl.length < kb.toNat
      · refine cnd_1x (decide_eq_true (by omega)) (fail_x M fun aw' M' => failed (by rw [hrd, if_pos (.inr (.inl hsh))]) aw' M')
      refine cnd_0x (decide_eq_false (by omega)) ?_
      have fin : ¬ (0 < kb.toNat ∧ tl.head? = some 0) → nck (P0 rb) (fldA (P0 rb) 0 fun p125 => ldV aw p125 fun x133 => cutV aw 1 x133 1 ((kb.toNat + 1 : Nat) : Int) fun v135 => slen v135 fun n137 => ∃ n, S33_2 Q E n (P0 rb) (kb.toNat : Int) 0 v135 n137 0 aw) := by
        intro hno
        refine nck_x (fldA_x (ldV_x (M.im .here) (by repeat constructor) ?_))
        refine cut_b hb (lo := 1) (hi := kb.toNat + 1) rfl rfl (by omega) (by omega) fun v' _ hv' => ?_
        have e1 : (rest.drop 1).take (kb.toNat + 1 - 1) = tl.take kb.toNat := by rw [hrest]; simp
        rw [e1] at hv'
        refine slen_b hv' ⟨kb.toNat + 1, ?_⟩
        have hlk : (tl.take kb.toNat).length = kb.toNat := by rw [List.length_take]; omega
        rw [hlk]
        refine uint_loop (l8 := tl.take kb.toNat) (rest := rest) (k := kb.toNat) hlk.symm (by omega) (by omega) hl M hv' hR hS (fun pv' aw' hR' ho' M' => ?_) kb.toNat 0 (by omega)
        have e2 : rest.drop (kb.toNat + 1) = tl.drop kb.toNat := by rw [hrest]; rfl
        rw [e2] at hR'
        have := h pv' false aw'
        have e : rU (some rest) = (be 0 (tl.take kb.toNat), some (tl.drop kb.toNat)) := by
          show (match rdU rest with | none => ((0, none) : Nat × Oc.St) | some (n, r) => (n, some r)) = _
          rw [hrd, if_neg (fun h => h.elim h8 fun h => h.elim hsh hno)]
        rw [e] at this
        exact this (.ok hR' ho' (by simp; omega)) M'
      by_cases hk0 : 0 < kb.toNat
      · refine cnd_1x (decide_eq_true (by omega)) (nck_x (fldA_x (ldV_x (M.im .here) (by repeat constructor) ?_)))
        obtain ⟨x, t2, ht⟩ : ∃ x t2, tl = x :: t2 := by
          cases tl with
          | nil => simp at hsh; omega
          | cons x t2 => exact ⟨x, t2, rfl⟩
        have hx1 : rest[1]? = some x := by rw [hrest, ht]; rfl
        refine ix_b hb (i := 1) rfl hx1 (fun p h => h) ?_
        by_cases hz : x = 0
        · refine cnd_1x (decide_eq_true (by rw [hz]; rfl)) (fail_x M fun aw' M' => failed (by rw [hrd, if_pos (.inr (.inr ⟨hk0, by rw [ht, hz]; rfl⟩))]) aw' M')
        · refine cnd_0x (decide_eq_false fun hh => hz (UInt8.toNat_inj.1 (by simpa using hh))) (fin fun hh => hz ?_)
          rw [ht] at hh
          simpa using hh.2
      · exact cnd_0x (decide_eq_false (by omega)) (fin fun hh => hk0 hh.1)
theorem int_x (M : Hp aw0 own ro aw ((rb, RBk pv bad) :: l)) (hr : RdS aw0 own ro S st pv bad) (hS : ∀ p ∈ S, p ∈ l)
    (h : ∀ pv' bad' aw', RdS aw0 own ro S (rI st).2 pv' bad' → Hp aw0 own ro aw' ((rb, RBk pv' bad') :: l) → Q (rI st).1 aw') : CallP prog 18 [P0 rb] aw sh18 Q E := by
  refine F18_ok _ aw ?_
  unfold S18_0
  refine uint_x M hr hS fun pv' bad' aw' hr' M' => ?_
  rw [zag_eq (rU_lt st)]
  exact h pv' bad' aw' hr' M'
theorem upto_x {most : Nat} (hm : most < 2 ^ 62) (M : Hp aw0 own ro aw ((rb, RBk pv bad) :: l)) (hr : RdS aw0 own ro S st pv bad) (hS : ∀ p ∈ S, p ∈ l)
    (h : ∀ pv' bad' aw', RdS aw0 own ro S (rUp most st).2 pv' bad' → Hp aw0 own ro aw' ((rb, RBk pv' bad') :: l) → Q ((rUp most st).1 : Int) aw') : CallP prog 20 [P0 rb, .int .i64 (most : Int)] aw sh20 Q E := by
  refine F20_ok _ _ aw ?_
  unfold S20_0
  refine uint_x M hr hS fun pv' bad' aw' hr' M' => ?_
  refine nilB_x rfl rfl (cnd_0x rfl (nck_x (fldA_x (ldB_x (M'.im .here) (by repeat constructor) ?_))))
  have hone : one pv' = true := hr'.one'
  generalize hst : rU st = q at hr'
  obtain ⟨n, s'⟩ := q
  simp only at hr'
  have hn : n < 2 ^ 64 := by have := rU_lt st; rw [hst] at this; exact this
  cases hr' with
  | bad ho =>
    refine cnd_1x rfl (fail_x M' fun aw2 M2 => ?_)
    have := h pv' true aw2
    have e : rUp most st = (0, none) := by unfold rUp; rw [hst, if_pos (.inl rfl)]
    rw [e] at this
    exact this (.bad hone) M2
  | ok hR ho hl =>
    rename_i rest
    refine cnd_0x rfl (cnd_0x (decide_eq_false (by omega)) ?_)
    rw [u64_nat (by omega)]
    by_cases hc : most < n
    · refine cnd_1x (decide_eq_true (by omega)) (fail_x M' fun aw2 M2 => ?_)
      have := h pv' true aw2
      have e : rUp most st = (0, none) := by unfold rUp; rw [hst, if_pos (.inr hc)]
      rw [e] at this
      exact this (.bad hone) M2
    · refine cnd_0x (decide_eq_false (by omega)) ?_
      rw [i64_nat (by omega)]
      have := h pv' false aw'
      have e : rUp most st = (n, some rest) := by unfold rUp; rw [hst, if_neg (by simp; omega)]
      rw [e] at this
      exact this (.ok hR ho hl) M'
end
section
variable {aw0 aw : AW} {own : List Nat} {ro l S : List (Nat × Blk)} {E : List PanicEntry → AW → Prop} {pv : Value} {rb : Nat} {bad : Bool} {st : Oc.St} {Q : Value → AW → Prop}
theorem bytes_x {most : Nat} (hm : most < 2 ^ 62) (M : Hp aw0 own ro aw ((rb, RBk pv bad) :: l)) (hr : RdS aw0 own ro S st pv bad) (hS : ∀ p ∈ S, p ∈ l)
    (h : ∀ v L pv' bad' aw', Ob 5 v (rB most st).1 L → RdS aw0 own ro S (rB most st).2 pv' bad' → Hp aw0 own ro aw' ((rb, RBk pv' bad') :: (L ++ l)) → Q v aw') : CallP prog 34 [P0 rb, .int .i64 (most : Int)] aw sh34 Q E := by
  refine F34_ok _ _ aw ?_
  unfold S34_0
  refine upto_x hm M hr hS fun pv' bad' aw' hr' M' => ?_
  refine nilB_x rfl rfl (cnd_0x rfl (nck_x (fldA_x (ldB_x (M'.im .here) (by repeat constructor) ?_))))
  have hone : one pv' = true := hr'.one'
  generalize hst : rUp most st = q at hr'
  obtain ⟨n, s'⟩ := q
  simp only at hr'
  have hn : n ≤ most := by have := rUp_le most st; rw [hst] at this; exact this
  have fails : rB most st = ([], none) → ∀ b aw2, Hp aw0 own ro aw2 ((rb, RBk pv' b) :: l) → S34_1 Q E (P0 rb) (n : Int) true aw2 := fun e b aw2 M2 => by
    unfold S34_1
    refine cnd_1x rfl (fail_x M2 fun aw3 M3 => ?_)
    have := h (.slice none 0 0) [] pv' true aw3
    rw [e] at this
    exact this .nil (.bad hone) M3
  cases hr' with
  | bad ho =>
    refine cnd_1x rfl ?_
    exact fails (by unfold rB; rw [hst]) _ _ M'
  | ok hR ho hl =>
    rename_i rest
    refine cnd_0x rfl (nck_x (fldA_x (ldV_x (M'.im .here) (by repeat constructor) ?_)))
    have hS' : ∀ p ∈ S, p ∈ (rb, RBk pv' false) :: l := fun p hp => List.mem_cons_of_mem _ (hS p hp)
    have hb := hR aw' _ M' hS'
    refine slen_b hb ?_
    by_cases hc : rest.length < n
    · rw [decide_eq_true (by omega)]
      exact fails (by unfold rB; rw [hst]; simp only; rw [if_pos hc]) _ _ M'
    · rw [decide_eq_false (by omega)]
      unfold S34_1
      refine cnd_0x rfl (nck_x (fldA_x (ldV_x (M'.im .here) (by repeat constructor) ?_)))
      refine cut_rs hR M' hS' (lo := 0) (hi := n) rfl rfl (Nat.zero_le _) (by omega) fun v2 hR2 => ?_
      simp only [List.drop_zero, Nat.sub_zero] at hR2
      refine clone_x M' hR2 hS' (by rw [List.length_take]; omega) fun v3 L aw3 hO _ M3 => ?_
      have M3 : Hp aw0 own ro aw3 ((rb, RBk pv' false) :: (L ++ l)) := M3.perm List.perm_middle
      refine nck_x (fldA_x (ldV_x (M3.im .here) (by repeat constructor) ?_))
      have hS3 : ∀ p ∈ S, p ∈ (rb, RBk pv' false) :: (L ++ l) := fun p hp => List.mem_cons_of_mem _ (List.mem_append.2 (.inr (hS p hp)))
      have hb3 := hR aw3 _ M3 hS3
      rw [hb3.lenV]
      refine cut_rs hR M3 hS3 (lo := n) (hi := rest.length) rfl rfl (by omega) (Nat.le_refl _) fun v4 hR4 => ?_
      have e4 : (rest.drop n).take (rest.length - n) = rest.drop n := List.take_of_length_le (by simp)
      rw [e4] at hR4
      have ho4 := rb_one (hR4 aw3 _ M3 hS3)
      refine nck_x (fldA_x (st_x M3 .here (by repeat constructor) rfl rfl (by simp [ho4]) fun aw4 M4 => ?_))
      have e : rB most st = (rest.take n, some (rest.drop n)) := by
        unfold rB; rw [hst]; simp only; rw [if_neg hc]
      have := h v3 L v4 false aw4
      rw [e] at this
      exact this hO (.ok hR4 ho4 (by simp; omega)) M4
end
end Go.Proofs.Tryz
