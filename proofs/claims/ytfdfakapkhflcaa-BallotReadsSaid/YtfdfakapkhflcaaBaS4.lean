/- The document's reader. -/
import Derived.Test.YtfdfakapkhflcaaBaS3
import Derived.Test.YtfdfakapkhflcaaBaB2
set_option linter.unusedSimpArgs false
set_option linter.unusedVariables false
set_option linter.unusedSectionVars false
namespace Go.Proofs.Try
open Go Go.Am Go.RowKit Go.Oc
variable [SymE]
abbrev FBk (pv : Value) (at_ : Int) : Blk := ⟨[pv, .int .i64 at_], 94, 0, true, 0⟩
inductive RfS (ps : List UInt8) : Oc.St → Int → Prop
  | ok {a : Nat} (h : a ≤ ps.length) : RfS ps (some (ps.drop a)) (a : Int)
  | bad : RfS ps none (-1)
section
variable {aw0 aw : AW} {own : List Nat} {ro l S : List (Nat × Blk)} {E : List PanicEntry → AW → Prop} {pv : Value} {rb : Nat} {at_ : Int} {sx : Oc.St} {ps : List UInt8}
theorem set_at {X : AW → Prop} {n : Int} (M : Hp aw0 own ro aw ((rb, FBk pv at_) :: l)) (h : ∀ aw', Hp aw0 own ro aw' ((rb, FBk pv n) :: l) → X aw') : nck (P0 rb) (fldA (P0 rb) 1 fun p => st aw p [.int .i64 n] X) :=
  nck_x (fldA_x (st_x M .here (by repeat constructor) rfl rfl rfl fun aw' M' => h aw' M'))
theorem get_at {X : Int → Prop} (M : Hp aw0 own ro aw ((rb, FBk pv at_) :: l)) (h : X at_) : nck (P0 rb) (fldA (P0 rb) 1 fun p => ldI .i64 aw p X) :=
  nck_x (fldA_x (ldI_x (M.im .here) (by repeat constructor) h))
theorem get_p {X : Value → Prop} (M : Hp aw0 own ro aw ((rb, FBk pv at_) :: l)) (h : X pv) : nck (P0 rb) (fldA (P0 rb) 0 fun p => ldV aw p X) :=
  nck_x (fldA_x (ldV_x (M.im .here) (by repeat constructor) h))
theorem f_loop {Q : Int → AW → Prop} {a k : Nat} {kb : UInt8} {tl : List UInt8} (hps : ps.drop a = kb :: tl) (hk : kb.toNat = k) (h8 : k ≤ 8) (hkl : k ≤ tl.length) (hl : ps.length < 2 ^ 44) (M : Hp aw0 own ro aw ((rb, FBk pv (a : Int)) :: l)) (hR : Rs aw0 own ro S pv ps) (hS : ∀ p ∈ S, p ∈ l)
    (hbad : (0 < k ∧ tl.head? = some 0) → ∀ aw', Hp aw0 own ro aw' ((rb, FBk pv (-1)) :: l) → Q 0 aw')
    (hok : ¬ (0 < k ∧ tl.head? = some 0) → ∀ aw', Hp aw0 own ro aw' ((rb, FBk pv ((a + (k + 1) : Nat) : Int)) :: l) → Q ((be 0 (tl.take k) : Nat) : Int) aw') :
    ∀ m i, i + m = k → S43_1 Q E (m + 1) (P0 rb) ((be 0 (tl.take i) : Nat) : Int) (k : Int) ((i + 1 : Nat) : Int) aw
  | 0, i, hi => by
    show S43_1s Q E (S43_1 Q E 0) _ _ _ _ aw
    unfold S43_1s
    obtain rfl : i = k := by omega
    have hS' : ∀ p ∈ S, p ∈ (rb, FBk pv (a : Int)) :: l := fun p hp => List.mem_cons_of_mem _ (hS p hp)
    have hlen : ps.length = a + (tl.length + 1) := by
      have := congrArg List.length hps
      simp at this
      omega
    refine cnd_0x (decide_eq_false (by omega)) (nck_x (fldA_x (ldV_x (M.im .here) (by repeat constructor) (nck_x (fldA_x (ldI_x (M.im .here) (by repeat constructor) (nck_x (fldA_x (ldI_x (M.im .here) (by repeat constructor) ?_)))))))))
    rw [show (a : Int) + (i : Int) = ((a + i : Nat) : Int) by omega, i64_nat (by omega), show ((a + i : Nat) : Int) + 1 = ((a + i + 1 : Nat) : Int) by omega, i64_nat (by omega)]
    have hn : be 0 (tl.take i) < 2 ^ 64 := by
      have h1 := be_lt (tl.take i) 0
      have h2 : (tl.take i).length ≤ 8 := by rw [List.length_take]; omega
      have h3 : 256 ^ (tl.take i).length ≤ 256 ^ 8 := Nat.pow_le_pow_right (by decide) h2
      have h4 : (256 : Nat) ^ 8 = 2 ^ 64 := by decide
      omega
    refine cut_rs2 hR M hS' (lo := a) (hi := a + i + 1) rfl rfl (by omega) (by omega) fun v' hR' hcut => ?_
    have e1 : (ps.drop a).take (a + i + 1 - a) = kb :: tl.take i := by
      rw [hps, show a + i + 1 - a = i + 1 by omega, List.take_succ_cons]
    rw [e1] at hR'
    refine toS_b (hR' aw _ M hS') (r_uint hn M fun v2 L2 aw2 h2 M2 => ?_)
    have M3 : Hp aw0 own ro aw2 ((rb, FBk pv (a : Int)) :: (L2 ++ l)) := M2.perm List.perm_middle
    have hS2 : ∀ p ∈ S, p ∈ L2 ++ ((rb, FBk pv (a : Int)) :: l) := fun p hp => List.mem_append.2 (.inr (hS' p hp))
    refine again_x (M3.im .here) (by repeat constructor) (again_x (M3.im .here) (by repeat constructor) (again_x (M3.im .here) (by repeat constructor) ⟨hcut aw2 _ M2 hS2, ?_⟩))
    refine againS_b (hR' aw2 _ M2 hS2) (toS_b (h2.rs aw2 _ M2 fun p hp => List.mem_append.2 (.inl hp)) ?_)
    rw [arr_eq]
    have hen := enc_eq (k := kb) (tl := tl) (by omega) (by omega)
    rw [hk] at hen
    have Mg : Hp aw0 own ro aw2 ((rb, FBk pv (a : Int)) :: l) := M2.dropL
    by_cases hq : 0 < i ∧ tl.head? = some 0
    · refine cnd_1x ?_ (set_at Mg fun aw' M' => hbad hq aw' M')
      rw [decide_eq_false (fun h => (hen.1 h) hq)]; rfl
    · refine cnd_0x ?_ (get_at Mg ?_)
      · rw [decide_eq_true (hen.2 hq)]; rfl
      · rw [show (i : Int) + 1 = ((i + 1 : Nat) : Int) by omega, i64_nat (by omega), show (a : Int) + ((i + 1 : Nat) : Int) = ((a + (i + 1) : Nat) : Int) by omega, i64_nat (by omega)]
        exact set_at Mg fun aw' M' => hok hq aw' M'
  | m + 1, i, hi => by
    show S43_1s Q E (S43_1 Q E (m + 1)) _ _ _ _ aw
    unfold S43_1s
    have hS' : ∀ p ∈ S, p ∈ (rb, FBk pv (a : Int)) :: l := fun p hp => List.mem_cons_of_mem _ (hS p hp)
    have hlen : ps.length = a + (tl.length + 1) := by
      have := congrArg List.length hps
      simp at this
      omega
    refine cnd_1x (decide_eq_true (by omega)) (get_p M (get_at M ?_))
    rw [show (a : Int) + ((i + 1 : Nat) : Int) = ((a + (i + 1) : Nat) : Int) by omega, i64_nat (by omega)]
    have hit : i < tl.length := by omega
    have hx : ps[a + (i + 1)]? = some tl[i] := by
      have h1 : (ps.drop a)[i + 1]? = some tl[i] := by rw [hps, List.getElem?_cons_succ, List.getElem?_eq_getElem hit]
      rwa [List.getElem?_drop] at h1
    refine ix_b (hR aw _ M hS') rfl hx (fun p h => h) ?_
    have hbe : be 0 (tl.take i) < 2 ^ 56 := by
      have h1 := be_lt (tl.take i) 0
      have h2 : (tl.take i).length ≤ 7 := by rw [List.length_take]; omega
      have h3 : 256 ^ (tl.take i).length ≤ 256 ^ 7 := Nat.pow_le_pow_right (by decide) h2
      have h4 : (256 : Nat) ^ 7 = 2 ^ 56 := by decide
      omega
    have hb : tl[i].toNat < 256 := tl[i].toNat_lt
    have e : IntKind.u64.wrap (IntKind.u64.wrap (((be 0 (tl.take i) : Nat) : Int) * 256) + IntKind.u64.wrap ((tl[i].toNat : Nat) : Int)) = ((be 0 (tl.take (i + 1)) : Nat) : Int) := by
      rw [List.take_add_one, List.getElem?_eq_getElem hit, be_append]
      show _ = ((be 0 (tl.take i) * 256 + tl[i].toNat : Nat) : Int)
      rw [wrap_u64, wrap_u64, wrap_u64]
      omega
    rw [e, show ((i + 1 : Nat) : Int) + 1 = ((i + 1 + 1 : Nat) : Int) by omega, i64_nat (by omega)]
    exact f_loop hps hk h8 hkl hl M hR hS hbad hok m (i + 1) (by omega)
theorem f_uint {Q : Int → AW → Prop} (hl : ps.length < 2 ^ 44) (M : Hp aw0 own ro aw ((rb, FBk pv at_) :: l)) (hR : Rs aw0 own ro S pv ps) (hr : RfS ps sx at_) (hS : ∀ p ∈ S, p ∈ l)
    (h : ∀ at' aw', RfS ps (rU sx).2 at' → Hp aw0 own ro aw' ((rb, FBk pv at') :: l) → Q ((rU sx).1 : Int) aw') : CallP prog 43 [P0 rb] aw sh43 Q E := by
  have hS' : ∀ p ∈ S, p ∈ (rb, FBk pv at_) :: l := fun p hp => List.mem_cons_of_mem _ (hS p hp)
  refine F43_ok _ aw ?_
  unfold S43_0
  refine get_at M ?_
  cases hr with
  | bad => exact cnd_1x (by decide) (set_at M fun aw' M' => h _ aw' .bad M')
  | ok ha =>
    rename_i a
    have hb := hR aw _ M hS'
    refine cnd_0x (decide_eq_false (by omega)) (get_at M (get_p M (slen_b hb ?_)))
    have failed : rdU (ps.drop a) = none → ∀ aw', Hp aw0 own ro aw' ((rb, FBk pv (-1)) :: l) → Q 0 aw' := fun hn aw' M' => by
      have := h (-1) aw'
      have e : rU (some (ps.drop a)) = (0, none) := by
        show (match rdU (ps.drop a) with | none => ((0, none) : Nat × Oc.St) | some (n, r) => (n, some r)) = _
        rw [hn]
      rw [e] at this
      exact this .bad M'
    cases hd : ps.drop a with
    | nil =>
      have : ps.length ≤ a := by
        have := congrArg List.length hd
        simp at this
        omega
      refine cnd_1x (decide_eq_true (by omega)) (set_at M fun aw' M' => failed (by rw [hd]; rfl) aw' M')
    | cons kb tl =>
      have hlen : ps.length = a + (tl.length + 1) := by
        have := congrArg List.length hd
        simp at this
        omega
      have hx : ps[a]? = some kb := by
        have h1 : (ps.drop a)[0]? = some kb := by rw [hd]; rfl
        rwa [List.getElem?_drop] at h1
      have hk : kb.toNat < 256 := kb.toNat_lt
      have hrd : rdU (ps.drop a) = if 8 < kb.toNat ∨ tl.length < kb.toNat ∨ (0 < kb.toNat ∧ tl.head? = some 0) then none else some (be 0 (tl.take kb.toNat), tl.drop kb.toNat) := by rw [hd]; rfl
      refine cnd_0x (decide_eq_false (by omega)) (get_p M (get_at M (ix_b hb rfl hx (fun p h => h) ?_)))
      by_cases h8 : 8 < kb.toNat
      · exact cnd_1x (decide_eq_true (by omega)) (set_at M fun aw' M' => failed (by rw [hrd, if_pos (.inl h8)]) aw' M')
      refine cnd_0x (decide_eq_false (by omega)) (get_p M (get_at M (ix_b hb rfl hx (fun p h => h) (get_p M (slen_b hb (get_at M ?_))))))
      rw [i64_nat (by omega), i64_in (n := (ps.length : Int) - (a : Int)) (by omega) (by omega)]
      by_cases hsh : tl.length < kb.toNat
      · exact cnd_1x (decide_eq_true (by omega)) (set_at M fun aw' M' => failed (by rw [hrd, if_pos (.inr (.inl hsh))]) aw' M')
      refine cnd_0x (decide_eq_false (by omega)) (get_p M (get_at M (ix_b hb rfl hx (fun p h => h) ⟨kb.toNat + 1, ?_⟩)))
      rw [i64_nat (by omega)]
      refine f_loop (a := a) (k := kb.toNat) (kb := kb) (tl := tl) hd rfl (by omega) (by omega) hl M hR hS (fun hq aw' M' => failed (by rw [hrd, if_pos (.inr (.inr hq))]) aw' M') (fun hq aw' M' => ?_) kb.toNat 0 (by omega)
      have e : rU (some (ps.drop a)) = (be 0 (tl.take kb.toNat), some (ps.drop (a + (kb.toNat + 1)))) := by
        show (match rdU (ps.drop a) with | none => ((0, none) : Nat × Oc.St) | some (n, r) => (n, some r)) = _
        rw [hrd, if_neg (fun h => h.elim h8 fun h => h.elim hsh hq)]
        simp only
        rw [← List.drop_drop, hd, List.drop_succ_cons]
      have := h ((a + (kb.toNat + 1) : Nat) : Int) aw'
      rw [e] at this
      exact this (.ok (by omega)) M'
theorem f_int {Q : Int → AW → Prop} (hl : ps.length < 2 ^ 44) (M : Hp aw0 own ro aw ((rb, FBk pv at_) :: l)) (hR : Rs aw0 own ro S pv ps) (hr : RfS ps sx at_) (hS : ∀ p ∈ S, p ∈ l)
    (h : ∀ at' aw', RfS ps (rI sx).2 at' → Hp aw0 own ro aw' ((rb, FBk pv at') :: l) → Q (rI sx).1 aw') : CallP prog 42 [P0 rb] aw sh42 Q E := by
  refine F42_ok _ aw ?_
  unfold S42_0
  refine f_uint hl M hR hr hS fun at' aw' hr' M' => ?_
  have hn := rU_lt sx
  have hq := h at' aw' hr' M'
  unfold rI zag at hq
  simp only at hq
  have t2 := tmod_n (rU sx).1 2
  have d2 := tdiv_n (rU sx).1 2
  rw [show ((2 : Nat) : Int) = 2 from rfl] at t2 d2
  rw [t2, d2, u64_nat (by omega), i64_nat (by omega), i64_in (n := -(((rU sx).1 / 2 : Nat) : Int)) (by omega) (by omega), i64_in (n := -(((rU sx).1 / 2 : Nat) : Int) - 1) (by omega) (by omega)]
  by_cases hm : (rU sx).1 % 2 = 1
  · rw [if_pos hm] at hq
    exact cnd_1x (decide_eq_true (by omega)) hq
  · rw [if_neg hm] at hq
    exact cnd_0x (decide_eq_false (by omega)) hq
theorem f_upto {Q : Int → AW → Prop} {most : Nat} (hm : most < 2 ^ 62) (hl : ps.length < 2 ^ 44) (M : Hp aw0 own ro aw ((rb, FBk pv at_) :: l)) (hR : Rs aw0 own ro S pv ps) (hr : RfS ps sx at_) (hS : ∀ p ∈ S, p ∈ l)
    (h : ∀ at' aw', RfS ps (rUp most sx).2 at' → Hp aw0 own ro aw' ((rb, FBk pv at') :: l) → Q ((rUp most sx).1 : Int) aw') : CallP prog 41 [P0 rb, .int .i64 (most : Int)] aw sh41 Q E := by
  refine F41_ok _ _ aw ?_
  unfold S41_0
  refine f_uint hl M hR hr hS fun at' aw' hr' M' => get_at M' ?_
  generalize hst : rU sx = q at hr'
  obtain ⟨n, s'⟩ := q
  simp only at hr'
  have hn : n < 2 ^ 64 := by have := rU_lt sx; rw [hst] at this; exact this
  cases hr' with
  | bad =>
    refine cnd_1x (by decide) (set_at M' fun aw2 M2 => ?_)
    have := h (-1) aw2
    have e : rUp most sx = (0, none) := by unfold rUp; rw [hst, if_pos (.inl rfl)]
    rw [e] at this
    exact this .bad M2
  | ok ha =>
    rename_i a
    refine cnd_0x (decide_eq_false (by omega)) (cnd_0x (decide_eq_false (by omega)) ?_)
    rw [u64_nat (by omega)]
    by_cases hc : most < n
    · refine cnd_1x (decide_eq_true (by omega)) (set_at M' fun aw2 M2 => ?_)
      have := h (-1) aw2
      have e : rUp most sx = (0, none) := by unfold rUp; rw [hst, if_pos (.inr hc)]
      rw [e] at this
      exact this .bad M2
    · refine cnd_0x (decide_eq_false (by omega)) ?_
      rw [i64_nat (by omega)]
      have := h (a : Int) aw'
      have e : rUp most sx = (n, some (ps.drop a)) := by unfold rUp; rw [hst, if_neg (by simp; omega)]
      rw [e] at this
      exact this (.ok ha) M'
theorem f_bytes {Q : Value → AW → Prop} {most : Nat} (hm : most < 2 ^ 62) (hl : ps.length < 2 ^ 44) (M : Hp aw0 own ro aw ((rb, FBk pv at_) :: l)) (hR : Rs aw0 own ro S pv ps) (hr : RfS ps sx at_) (hS : ∀ p ∈ S, p ∈ l)
    (h : ∀ v at' aw', Rs aw0 own ro S v (rB most sx).1 → RfS ps (rB most sx).2 at' → Hp aw0 own ro aw' ((rb, FBk pv at') :: l) → Q v aw') : CallP prog 44 [P0 rb, .int .i64 (most : Int)] aw sh44 Q E := by
  refine F44_ok _ _ aw ?_
  unfold S44_0
  refine f_upto hm hl M hR hr hS fun at' aw' hr' M' => get_at M' ?_
  generalize hst : rUp most sx = q at hr'
  obtain ⟨n, s'⟩ := q
  simp only at hr'
  have hn : n ≤ most := by have := rUp_le most sx; rw [hst] at this; exact this
  have fails : rB most sx = ([], none) → S44_1 Q E (P0 rb) (n : Int) true aw' := fun e => by
    unfold S44_1
    refine cnd_1x rfl (set_at M' fun aw2 M2 => ?_)
    have := h (.slice none 0 0) (-1) aw2
    rw [e] at this
    exact this (fun _ _ _ _ => .nil) .bad M2
  cases hr' with
  | bad =>
    refine cnd_1x (by decide) ?_
    exact fails (by unfold rB; rw [hst])
  | ok ha =>
    rename_i a
    have hS' : ∀ p ∈ S, p ∈ (rb, FBk pv (a : Int)) :: l := fun p hp => List.mem_cons_of_mem _ (hS p hp)
    have hb := hR aw' _ M' hS'
    refine cnd_0x (decide_eq_false (by omega)) (get_p M' (slen_b hb (get_at M' ?_)))
    rw [i64_in (n := (ps.length : Int) - (a : Int)) (by omega) (by omega)]
    have hdl : (ps.drop a).length = ps.length - a := by simp
    by_cases hc : ps.length - a < n
    · rw [decide_eq_true (by omega)]
      exact fails (by unfold rB; rw [hst]; simp only; rw [if_pos (by rw [hdl]; exact hc)])
    · rw [decide_eq_false (by omega)]
      unfold S44_1
      refine cnd_0x rfl (get_p M' (get_at M' (get_at M' ?_)))
      rw [show (a : Int) + (n : Int) = ((a + n : Nat) : Int) by omega, i64_nat (by omega)]
      refine cut_rs hR M' hS' (lo := a) (hi := a + n) rfl rfl (by omega) (by omega) fun v2 hR2 => ?_
      rw [show a + n - a = n by omega] at hR2
      refine get_at M' ?_
      rw [show (a : Int) + (n : Int) = ((a + n : Nat) : Int) by omega, i64_nat (by omega)]
      refine set_at M' fun aw2 M2 => ?_
      have := h v2 ((a + n : Nat) : Int) aw2
      have e : rB most sx = ((ps.drop a).take n, some (ps.drop (a + n))) := by
        unfold rB; rw [hst]; simp only; rw [if_neg (by rw [hdl]; exact hc), List.drop_drop]
      rw [e] at this
      exact this hR2 (.ok (by omega)) M2
end
end Go.Proofs.Try
