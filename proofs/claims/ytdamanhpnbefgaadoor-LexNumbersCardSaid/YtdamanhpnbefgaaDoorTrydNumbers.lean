/- The law of numbers. -/
import Derived.Test.YtdamanhpnbefgaaDoorTrydBN
import Derived.Test.YtdamanhpnbefgaaDoorTrydNames
set_option linter.unusedSimpArgs false
set_option linter.unusedVariables false
namespace Go.Proofs.Tryd
open Go Go.Am Go.Lx
variable {E : List PanicEntry → AW → Prop} {aw aw0 : AW}

theorem digit_facts (b : UInt8) (h : digit b = true) : isBlank b = false ∧ b ≠ 40 ∧ (small b || great b || b == 39) = false := by
  have := all8 (p := fun b => !digit b || (!isBlank b && !(b == 40) && !(small b || great b || b == 39))) (by decide +kernel) b
  simp only [h, Bool.not_true, Bool.false_or, Bool.and_eq_true, Bool.not_eq_true', beq_eq_false_iff_ne, ne_eq] at this
  exact ⟨this.1.1, this.1.2, this.2⟩
theorem tokens_digits {s r : List UInt8} (h1 : 1 ≤ s.length) (hs : (s ++ r).length ≤ 2000) (hd : ∀ b ∈ s, digit b = true) (hr : r.head?.any digit = false) :
    tokens (s ++ r) = if r.head?.any isIn then (([], (s.length : Int), 4) : Res) else if numVal 0 s < 2 ^ 62 then toksL ((s ++ r).length) r s.length [⟨4, mkB s, 0⟩] else ([], 0, 1) := by
  obtain ⟨a, t, rfl⟩ : ∃ a t, s = a :: t := by
    cases s with
    | nil => simp at h1
    | cons a t => exact ⟨a, t, rfl⟩
  have ha := hd a (by simp)
  obtain ⟨f1, f2, f3⟩ := digit_facts a ha
  have hp : pre [40, 42] (a :: t ++ r) = false := by
    simp only [pre, decide_eq_false_iff_not]
    intro h
    have := congrArg List.head? h
    simp at this; exact f2 this
  have htw : ((t ++ r).takeWhile digit) = t := by
    rw [List.takeWhile_append_of_pos fun b hb => hd b (by simp [hb])]
    cases r with
    | nil => simp
    | cons x y =>
      simp only [List.head?_cons, Option.any_some] at hr
      simp [List.takeWhile_cons, hr]
  have hsp : span digit (a :: t ++ r) = (a :: t).length := by
    unfold span
    simp only [List.cons_append, List.drop_succ_cons, List.drop_zero, List.length_cons]
    rw [htw]; omega
  have hdrop : (a :: t ++ r).drop (a :: t).length = r := List.drop_left
  have htake : (a :: t ++ r).take (a :: t).length = a :: t := List.take_left
  have htok : tokR (a :: t ++ r) = if r.head?.any isIn then bad ((a :: t).length : Nat) 4 else if numVal 0 (a :: t) < 2 ^ 62 then good 4 (a :: t) (a :: t).length else bad 0 1 := by
    show (if (small a || great a || a == 39) = true then _ else if digit a = true then numR (a :: t ++ r) else _) = _
    rw [f3, ha]
    simp only [Bool.false_eq_true, if_false, if_true]
    unfold numR
    rw [hsp, hdrop, htake]
  unfold tokens
  rw [if_neg (by omega)]
  show toksL ((a :: t ++ r).length + 1) (a :: (t ++ r)) 0 [] = _
  simp only [toksL, f1, Bool.false_eq_true, if_false]
  rw [show pre [40, 42] (a :: (t ++ r)) = false from hp, show tokR (a :: (t ++ r)) = _ from htok]
  simp only [Bool.false_eq_true, if_false]
  by_cases hin : r.head?.any isIn = true
  · rw [if_pos hin, if_pos hin]
    have hne : ¬ (bad ((a :: t).length : Nat) 4).2.2.2.2.2 = 0 := by show ¬ (4 : Int) = 0; decide
    rw [if_neg hne]
    simp [bad]
  · rw [if_neg hin, if_neg hin]
    by_cases hv : numVal 0 (a :: t) < 2 ^ 62
    · rw [if_pos hv, if_pos hv]
      have hq0 : (good 4 (a :: t) (a :: t).length).2.2.2.2.2 = 0 := rfl
      rw [if_pos hq0]
      simp only [good, Int.toNat_natCast]
      rw [show (a :: (t ++ r)).drop (a :: t).length = r from hdrop]
      simp
    · rw [if_neg hv, if_neg hv]
      have hne : ¬ (bad 0 1).2.2.2.2.2 = 0 := by decide
      rw [if_neg hne]
      simp [bad]
theorem T_number_loop {Q : Int × Bool → AW → Prop} (s : List UInt8) (hs : s.length ≤ 2000) (hd : ∀ b ∈ s, digit b = true) (hQ : ∀ v : Int, Q (v, decide (numVal 0 s < 2 ^ 62)) aw) : ∀ (n i v : Nat), s.length < i + n → i ≤ s.length → numVal 0 s = numVal v (s.drop i) → v < 2 ^ 62 →
    S14_1 Q E n (mkB s) v i aw
  | 0, i, v, hn, hi, _, _ => absurd hn (by omega)
  | n + 1, i, v, hn, hi, hv, hv2 => by
    have ih := T_number_loop (Q := Q) s hs hd hQ n
    have hsz : (mkB s).size = s.length := rfl
    show S14_1s Q E _ _ _ _ _
    unfold S14_1s
    refine cnd_i (fun c1 => ?_) (fun c1 => ?_)
    · have c1 : i < s.length := by have := of_decide_eq_true c1; omega
      have hr : s.drop i = s[i] :: s.drop (i + 1) := List.drop_eq_getElem_cons c1
      generalize hx : s[i] = x at hr
      have hxi : s[i]? = some x := by rw [List.getElem?_eq_getElem c1, hx]
      have hmem : x ∈ s := by rw [← hx]; exact List.getElem_mem c1
      have hdx := digit_le (hd x hmem)
      rw [hr, numVal_cons] at hv
      have hge := numVal_ge (s.drop (i + 1)) (v * 10 + (x.toNat - 48))
      refine chr_i rfl hxi ?_
      have e1 : IntKind.u8.wrap (bn x - 48) = ((x.toNat - 48 : Nat) : Int) := by rw [IntWalk.u8_in _ (by simp only [bn]; omega)]; simp only [bn]; omega
      rw [e1]
      generalize hd' : x.toNat - 48 = d at *
      rw [i64_in (n := (d : Int)) (by omega) (by omega), i64_in (n := 4611686018427387903 - (d : Int)) (by omega) (by omega)]
      have e2 : Int.tdiv (4611686018427387903 - (d : Int)) 10 = (4611686018427387903 - (d : Int)) / 10 := Int.tdiv_eq_ediv_of_nonneg (by omega)
      rw [e2, i64_in (n := (4611686018427387903 - (d : Int)) / 10) (by omega) (by omega)]
      refine cnd_i (fun c2 => ?_) (fun c2 => ?_)
      · have c2 := of_decide_eq_true c2
        have := hQ 0
        rw [decide_eq_false (by omega)] at this
        exact this
      · have c2 := of_decide_eq_false c2
        rw [i64_in (n := (v : Int) * 10) (by omega) (by omega), i64_in (n := (v : Int) * 10 + (d : Int)) (by omega) (by omega), i64_in (n := (i : Int) + 1) (by omega) (by omega)]
        exact ih (i + 1) (v * 10 + d) (by omega) (by omega) hv (by omega)
    · have c1 : i = s.length := by have := of_decide_eq_false c1; omega
      rw [c1, List.drop_length, numVal_nil] at hv
      have := hQ v
      rw [decide_eq_true (by omega)] at this
      exact this
theorem T_number {Q : Int × Bool → AW → Prop} (s : List UInt8) (hs : s.length ≤ 2000) (hd : ∀ b ∈ s, digit b = true) (hQ : ∀ v : Int, Q (v, decide (numVal 0 s < 2 ^ 62)) aw) : CallP prog 14 [.string (mkB s)] aw sh14 Q E :=
  F14_ok _ _ ⟨s.length + 1, T_number_loop s hs hd hQ _ 0 0 (by omega) (by omega) rfl (by decide)⟩
def dig (b : UInt8) : UInt8 := UInt8.ofNat (48 + b.toNat % 10)
theorem dig_bn (b : UInt8) : IntKind.u8.wrap (48 + Int.tmod (bn b) 10) = bn (dig b) := by
  have h8 : b.toNat < 256 := b.toNat_lt
  rw [IntWalk.rem_in _ _ (by simp only [bn]; omega), IntWalk.u8_in _ (by simp only [bn]; omega)]
  simp only [bn, dig]
  have : (UInt8.ofNat (48 + b.toNat % 10)).toNat = 48 + b.toNat % 10 := by
    simp only [UInt8.toNat_ofNat']; omega
  rw [this]; omega
theorem dig_digit (b : UInt8) : digit (dig b) = true := all8 (p := fun b => digit (dig b)) (by decide +kernel) b
/-- one byte as a text -/
theorem toS_one {b : UInt8} {K : ByteArray → Prop} {t : Nat} (h : K (mkB [b])) : toS (aw.alloc [.int .u8 (bn b)] t 1) (.slice (some ⟨aw.next, 0, none⟩) 1 1) K :=
  ⟨[b], 1, _, .slice (by have := getN_whole (AW.alloc_new aw [.int .u8 (bn b)] t 1); exact this), ⟨_, _, _, rfl⟩, rfl, h⟩
theorem ltr_facts (c : UInt8) : (small c || great c || decide (bn c = 95) || decide (bn c = 39)) = true → isIn c = true ∧ digit c = false := by
  intro h
  have := all8 (p := fun c => !(small c || great c || decide (bn c = 95) || decide (bn c = 39)) || (isIn c && !digit c)) (by decide +kernel) c
  simpa [h] using this
theorem T_numbers2 {Q : Bool → AW → Prop} (hQ : ∀ r, r = true → Q r aw) (s : List UInt8) {v : Value} {t : Tok} (hv : TokS aw0 aw v [⟨4, mkB s, 0⟩, t]) {place f : Int} {q : Bool} (hq : q = true → f = 4 ∧ place = s.length) :
    S8_2 Q E (mkB s) v 0 place f q aw := by
  unfold S8_2
  cases q
  · simp only [cnd_ff]
    obtain ⟨g, rfl, hat⟩ := hv.at (by simp)
    obtain ⟨a0, a1, _⟩ := hat 0 _ rfl
    exact cnd_true rfl (slen_i (cnd_true rfl (ixS_i (j := 0) rfl (by simp) (fldA_i (ldI_i a0 (cnd_true rfl (ixS_i (j := 0) rfl (by simp) (fldA_i (ldS_i a1 (hQ _ (by simp)))))))))))
  · simp only [cnd_tt]
    obtain ⟨rfl, rfl⟩ := hq rfl
    exact cnd_true rfl (hQ _ (by simp))
theorem T_numbers_loop (hG : G0 aw0) (l : List UInt8) (h1 : 1 ≤ l.length) (hl : l.length ≤ 40) (x : UInt8) {g c : Nat} (hm : aw0.getN g 0 l.length = some (bytesV l)) (hg : g < aw0.next) :
    ∀ (n i : Nat) (aw : AW), Ext aw0 aw → l.length < i + n → i ≤ l.length → S8_1 (fun r _ => r = true) E n (.slice (some ⟨g, 0, none⟩) l.length c) (bn x) (mkB ((l.take i).map dig)) i aw
  | 0, i, aw, he, hn, hi => absurd hn (by omega)
  | n + 1, i, aw, he, hn, hi => by
    have ih := T_numbers_loop (c := c) hG l h1 hl x hm hg n
    show S8_1s _ E _ _ _ _ _ _
    unfold S8_1s
    refine slen_i (cnd_i (fun c1 => ?_) (fun c1 => ?_))
    · have c1 : i < l.length := by have := of_decide_eq_true c1; omega
      obtain ⟨y, hy⟩ : ∃ y, l[i]? = some y := ⟨_, List.getElem?_eq_getElem c1⟩
      have hgt : aw.get g (0 + i * 1) = some (.int .u8 (bn y)) := by
        have := AW.getN_get hm (j := i) (u := .int .u8 (bn y)) (by simp [bytesV, hy])
        simp only [AW.get] at this ⊢
        rw [he.m g hg]; simpa using this
      refine ixS_i (j := i) rfl c1 (ldI_i hgt (alcS_i ?_))
      rw [dig_bn]
      refine toS_one ?_
      rw [mkB_append]
      have hnext : (l.take i).map dig ++ [dig y] = (l.take (i + 1)).map dig := by
        rw [List.take_add_one, hy]; simp
      rw [hnext]
      refine ⟨by simp only [mkB_size, List.length_map, List.length_take, List.length_cons, List.length_nil]; omega, ?_⟩
      rw [i64_in (n := (i : Int) + 1) (by omega) (by omega)]
      exact ih (i + 1) _ (he.alloc _ _ _) (by omega) (by omega)
    · have c1 : i = l.length := by have := of_decide_eq_false c1; omega
      subst c1
      rw [List.take_length]
      have hsl : (l.map dig).length = l.length := by simp
      have hd : ∀ b ∈ l.map dig, digit b = true := fun b hb => by
        obtain ⟨y, _, rfl⟩ := List.mem_map.1 hb; exact dig_digit y
      generalize l.map dig = s at hsl hd
      have t1 := tokens_digits (s := s) (r := []) (by omega) (by simp; omega) hd rfl
      simp only [List.append_nil, List.head?_nil, Option.any_none, Bool.false_eq_true, if_false] at t1
      obtain ⟨m, hm'⟩ : ∃ m, s.length = m + 1 := ⟨s.length - 1, by omega⟩
      have t2 : toksL s.length [] s.length [⟨4, mkB s, 0⟩] = ([⟨4, mkB s, 0⟩, ⟨0, mkB [], s.length⟩], 0, 0) := by
        rw [hm']; simp [toksL]
      rw [t2] at t1
      refine T_tokens s (hG.ext he) fun aw2 v he2 hv => ?_
      rw [t1] at hv ⊢
      refine T_number s (by omega) hd fun w => ?_
      by_cases hnv : numVal 0 s < 2 ^ 62
      · rw [if_pos hnv] at hv ⊢
        rw [decide_eq_true hnv]
        simp only [Bool.not_true, cnd_ff]
        refine alcS_i (toS_one ?_)
        rw [mkB_append]
        refine ⟨by simp only [mkB_size, List.length_cons, List.length_nil]; omega, ?_⟩
        have he3 := (he.trans he2).alloc [.int .u8 (bn x)] 5 1
        refine T_tokens (s ++ [x]) (hG.ext he3) fun aw4 v4 he4 _ => ?_
        have hv4 : TokS (aw) aw4 v [⟨4, mkB s, 0⟩, ⟨0, mkB [], s.length⟩] := Own.ext hv (((Ext.refl aw2).alloc _ _ _).trans he4)
        have key : ∀ q, q = (small x || great x || decide (bn x = 95) || decide (bn x = 39)) → S8_2 (fun r _ => r = true) E (mkB s) v 0 (tokens (s ++ [x])).2.1 (tokens (s ++ [x])).2.2 q aw4 := by
          intro q hq
          refine T_numbers2 (fun r hr => hr) s hv4 fun hq1 => ?_
          obtain ⟨g1, g2⟩ := ltr_facts x (hq ▸ hq1)
          have t3 := tokens_digits (s := s) (r := [x]) (by omega) (by simp; omega) hd (by simpa using g2)
          rw [t3]
          simp [g1]
        refine cnd_i (fun d1 => ?_) (fun d1 => ?_)
        · refine cnd_i (fun d2 => ?_) (fun d2 => ?_)
          · exact key true (by unfold small; rw [d1, d2]; rfl)
          · refine cnd_i (fun d3 => ?_) (fun d3 => ?_)
            · refine cnd_i (fun d4 => ?_) (fun d4 => ?_)
              · exact key true (by unfold small great; rw [d1, d2, d3, d4]; rfl)
              · refine cnd_i (fun d5 => ?_) (fun d5 => ?_)
                · exact key true (by unfold small great; rw [d1, d2, d3, d4, d5]; rfl)
                · exact key _ (by unfold small great; rw [d1, d2, d3, d4, d5]; rfl)
            · refine cnd_i (fun d5 => ?_) (fun d5 => ?_)
              · exact key true (by unfold small great; rw [d1, d2, d3, d5]; rfl)
              · exact key _ (by unfold small great; rw [d1, d2, d3, d5]; rfl)
        · refine cnd_i (fun d3 => ?_) (fun d3 => ?_)
          · refine cnd_i (fun d4 => ?_) (fun d4 => ?_)
            · exact key true (by unfold small great; rw [d1, d3, d4]; rfl)
            · refine cnd_i (fun d5 => ?_) (fun d5 => ?_)
              · exact key true (by unfold small great; rw [d1, d3, d4, d5]; rfl)
              · exact key _ (by unfold small great; rw [d1, d3, d4, d5]; rfl)
          · refine cnd_i (fun d5 => ?_) (fun d5 => ?_)
            · exact key true (by unfold small great; rw [d1, d3, d5]; rfl)
            · exact key _ (by unfold small great; rw [d1, d3, d5]; rfl)
      · rw [if_neg hnv]
        rw [decide_eq_false hnv]
        simp only [Bool.not_false, cnd_tt]
        exact cnd_true rfl rfl
theorem T_numbers {l : List UInt8} {v : Value} (x : UInt8) (hG : G0 aw) (hB : BytesIn aw v l) : CallP prog 8 [v, .int .u8 (bn x)] aw sh8 (fun r _ => r = true) (fun _ _ => False) :=
  F8_ok _ _ _ (by
    unfold S8_0
    refine T_awake hG fun aw1 he1 => ?_
    simp only [Bool.not_true, cnd_ff]
    obtain ⟨q, c, rfl⟩ : ∃ q c, v = .slice q l.length c := by
      rcases hB with ⟨rfl, rfl⟩ | ⟨b, rfl, _⟩
      · exact ⟨_, _, rfl⟩
      · exact ⟨_, _, rfl⟩
    refine slen_i (cnd_i (fun c1 => ?_) (fun c1 => ?_))
    · exact T_awake (hG.ext he1) fun aw2 he2 => rfl
    have c1 := of_decide_eq_false c1
    refine slen_i (cnd_i (fun c2 => ?_) (fun c2 => ?_))
    · exact T_awake (hG.ext he1) fun aw2 he2 => rfl
    have c2 := of_decide_eq_false c2
    rcases hB with ⟨h, rfl⟩ | ⟨b, h, hb, hm⟩
    · exact absurd rfl c1
    · rw [h]
      have hm1 : aw1.getN b 0 l.length = some (bytesV l) := by
        have := AW.getN_of (aw := aw1) (b := b) (cs := bytesV l) (i := 0) (fun j u hj => by
          have := AW.getN_get hm hj
          simp only [AW.get] at this ⊢
          rw [he1.m b hb]; exact this)
        simpa [bytesV] using this
      exact ⟨l.length + 1, T_numbers_loop (aw0 := aw1) (hG.ext he1) l (by omega) (by omega) x hm1 (Nat.lt_of_lt_of_le hb he1.next) _ 0 aw1 (Ext.refl aw1) (by omega) (by omega)⟩)
end Go.Proofs.Tryd
