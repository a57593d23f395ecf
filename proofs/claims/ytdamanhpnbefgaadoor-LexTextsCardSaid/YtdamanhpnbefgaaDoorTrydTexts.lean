/- The law of texts. -/
import Derived.Test.YtdamanhpnbefgaaDoorTrydBT
import Derived.Test.YtdamanhpnbefgaaDoorTrydS7
import Derived.Test.YtdamanhpnbefgaaDoorAm16
set_option linter.unusedSimpArgs false
set_option linter.unusedVariables false
namespace Go.Proofs.Tryd
open Go Go.Am Go.Lx
variable {E : List PanicEntry → AW → Prop} {aw aw0 : AW}

/-- a byte, as it is written in quotes -/
def quo (b : UInt8) : List UInt8 := if b = 10 then [92, 110] else if b = 9 then [92, 116] else if b = 34 then [92, 34] else if b = 92 then [92, 92] else [b]
theorem quo_len (b : UInt8) : (quo b).length ≤ 2 := by
  have := all8 (p := fun b => decide ((quo b).length ≤ 2)) (by decide +kernel) b
  simpa using this
theorem quos_len : ∀ l : List UInt8, (l.flatMap quo).length ≤ 2 * l.length
  | [] => by simp
  | b :: l => by have := quo_len b; have := quos_len l; simp only [List.flatMap_cons, List.length_append, List.length_cons]; omega
theorem textL_quo (b : UInt8) (r acc : List UInt8) (i : Nat) : textL false (quo b ++ r) i acc = textL false r (i + (quo b).length) (acc ++ [b]) := by
  unfold quo
  split
  · rename_i h; subst h; simp [textL, esc]
  · split
    · rename_i h; subst h; simp [textL, esc]
    · split
      · rename_i h; subst h; simp [textL, esc]
      · split
        · rename_i h; subst h; simp [textL, esc]
        · rename_i h1 h2 h3 h4
          simp [textL, h3, h4]
theorem textL_quos : ∀ (l r acc : List UInt8) (i : Nat), textL false (l.flatMap quo ++ r) i acc = textL false r (i + (l.flatMap quo).length) (acc ++ l)
  | [], r, acc, i => by simp
  | b :: l, r, acc, i => by
    rw [List.flatMap_cons, List.append_assoc, textL_quo, textL_quos l, List.length_append]
    simp [Nat.add_assoc]
theorem tokR_q (r : List UInt8) : tokR (34 :: r) = textL false r 1 [] := by
  have h1 : small 34 = false := by decide
  have h2 : great 34 = false := by decide
  have h3 : digit 34 = false := by decide
  simp [tokR, h1, h2, h3, textR]
theorem pre_q (r : List UInt8) : pre [40, 42] (34 :: r) = false := by simp [pre]
theorem tokens_text (l : List UInt8) (hl : l.length ≤ 900) : tokens (34 :: l.flatMap quo ++ [34]) = (([⟨5, mkB l, 0⟩, ⟨0, mkB [], ((34 :: l.flatMap quo ++ [34]).length : Int)⟩], 0, 0) : Res) := by
  have hq := quos_len l
  unfold tokens
  rw [if_neg (by simp only [List.length_cons, List.length_append, List.length_nil]; omega)]
  simp only [List.cons_append, toksL, pre_q, tokR_q, show isBlank 34 = false by decide, Bool.false_eq_true, if_false, textL_quos l [34]]
  have hg : textL false [34] (1 + (l.flatMap quo).length) ([] ++ l) = good 5 l (1 + (l.flatMap quo).length + 1) := by simp [textL]
  rw [hg]
  simp only [good, if_true, Int.toNat_natCast]
  rw [List.drop_eq_nil_of_le (by simp; omega)]
  simp [toksL]; omega
theorem tokens_open (l : List UInt8) (hl : l.length ≤ 900) : tokens (34 :: l.flatMap quo) = (([], ((34 :: l.flatMap quo).length : Int), 4) : Res) := by
  have hq := quos_len l
  unfold tokens
  rw [if_neg (by simp only [List.length_cons, List.length_append, List.length_nil]; omega)]
  have ht := textL_quos l [] [] 1
  rw [List.append_nil] at ht
  simp only [toksL, pre_q, tokR_q, show isBlank 34 = false by decide, Bool.false_eq_true, if_false, ht]
  simp [textL, bad]; omega

theorem T_texts_loop (hG : G0 aw0) (l : List UInt8) (hl : l.length ≤ 900) {v : Value} (hB : BytesAt aw0 v l) :
    ∀ (n i : Nat), l.length < i + n → i ≤ l.length → S7_1 (fun r _ => r = true) E n v (mkB (34 :: (l.take i).flatMap quo)) i aw0
  | 0, i, hn, hi => absurd hn (by omega)
  | n + 1, i, hn, hi => by
    have ih := T_texts_loop hG l hl hB n
    show S7_1s _ E _ _ _ _ _
    unfold S7_1s
    obtain ⟨q0, c0, hv0⟩ := hB.len
    refine (fun h => by rw [hv0]; exact slen_i (by rw [← hv0]; exact h)) (cnd_i (fun c1 => ?_) (fun c1 => ?_))
    · have c1 : i < l.length := by have := of_decide_eq_true c1; omega
      obtain ⟨y, hy⟩ : ∃ y, l[i]? = some y := ⟨_, List.getElem?_eq_getElem c1⟩
      have hq := quos_len (l.take i)
      have hql : (l.take i).length ≤ 900 := by simp; omega
      obtain ⟨g, hv, hes, hgt⟩ := hB.get hy
      have go : ∀ x : List UInt8, x = quo y → (mkB (34 :: (l.take i).flatMap quo)).size + (mkB x).size ≤ 2 ^ 62 ∧ S7_2 (fun r _ => r = true) E (S7_1 (fun r _ => r = true) E n) v (mkB (34 :: (l.take i).flatMap quo) ++ mkB x) i aw0 := by
        rintro x rfl
        have hx := quo_len y
        refine ⟨by simp only [mkB_size, List.length_cons]; omega, ?_⟩
        unfold S7_2
        rw [mkB_append, i64_in (n := (i : Int) + 1) (by omega) (by omega)]
        have hnext : 34 :: (l.take i).flatMap quo ++ quo y = 34 :: (l.take (i + 1)).flatMap quo := by
          rw [List.take_add_one, hy]; simp
        rw [hnext]
        exact ih (i + 1) (by omega) (by omega)
      have byte : ∀ c : UInt8, decide (bn y = bn c) = true → y = c := fun c h => (bn_eq _ _).1 (of_decide_eq_true h)
      have nbyte : ∀ c : UInt8, decide (bn y = bn c) = false → y ≠ c := fun c h e => (of_decide_eq_false h) (by rw [e])
      rw [hv]
      refine ixS_i (j := i) rfl c1 (ldI_i hgt ?_)
      rw [← hv]
      refine cnd_i (fun d1 => ?_) (fun d1 => ?_)
      · exact go [92, 110] (by unfold quo; rw [byte 10 d1]; rfl)
      have d1 := nbyte 10 d1
      refine cnd_i (fun d2 => ?_) (fun d2 => ?_)
      · exact go [92, 116] (by unfold quo; rw [byte 9 d2]; rfl)
      have d2 := nbyte 9 d2
      refine cnd_i (fun d3 => ?_) (fun d3 => ?_)
      · exact go [92, 34] (by unfold quo; rw [byte 34 d3]; rfl)
      have d3 := nbyte 34 d3
      refine cnd_i (fun d4 => ?_) (fun d4 => ?_)
      · exact go [92, 92] (by unfold quo; rw [byte 92 d4]; rfl)
      have d4 := nbyte 92 d4
      rw [i64_in (n := (i : Int) + 1) (by omega) (by omega)]
      rw [hv]
      refine cutV_i (lo := i) (hi := i + 1) rfl (by omega) (by omega) (by omega) hes ?_
      rw [show i + 1 - i = 1 by omega, ← hv]
      refine toS_i (l := [y]) (n := 1) (src_one hgt) ⟨_, _, _, rfl⟩ ?_
      exact go [y] (by unfold quo; simp [d1, d2, d3, d4])
    · have c1 : i = l.length := by have := of_decide_eq_false c1; omega
      subst c1
      rw [List.take_length]
      have hq := quos_len l
      refine ⟨by simp only [mkB_size, List.length_cons, show ((⟨#[34]⟩ : ByteArray)).size = 1 from rfl]; omega, ?_⟩
      rw [show (⟨#[34]⟩ : ByteArray) = mkB [34] from rfl, mkB_append]
      refine T_tokens _ hG fun aw2 v he2 hv => ?_
      rw [tokens_text l hl] at hv ⊢
      refine T_tokens _ (hG.ext he2) fun aw4 v4 he4 _ => ?_
      rw [tokens_open l hl]
      have hv4 := Own.ext hv he4
      obtain ⟨b, rfl, hat⟩ := TokS.at hv4 (by simp)
      obtain ⟨a0, a1, a2⟩ := hat 0 _ rfl
      refine cnd_true rfl (slen_i (cnd_true rfl (ixS_i (j := 0) rfl (by simp) ?_)))
      exact ⟨_, _, _, _, _, rfl, a0, a1, a2, toS_i ((hB.ext (he2.trans he4)).src) ⟨_, _, _, hv0⟩ (cnd_true (by simp) (cnd_true rfl (by simp)))⟩
theorem T_texts {l : List UInt8} {v : Value} (hG : G0 aw) (hB : BytesAt aw v l) : CallP prog 7 [v] aw sh7 (fun r _ => r = true) (fun _ _ => False) :=
  F7_ok _ _ (by
    unfold S7_0
    refine T_awake hG fun aw1 he1 => ?_
    simp only [Bool.not_true, cnd_ff]
    obtain ⟨q, c, hv⟩ := hB.len
    refine (fun h => by rw [hv]; exact slen_i (by rw [← hv]; exact h)) (cnd_i (fun c1 => ?_) (fun c1 => ?_))
    · exact T_awake (hG.ext he1) fun aw2 he2 => rfl
    have c1 := of_decide_eq_false c1
    exact ⟨l.length + 1, T_texts_loop (hG.ext he1) l (by omega) (hB.ext he1) _ 0 (by omega) (by omega)⟩)
end Go.Proofs.Tryd
