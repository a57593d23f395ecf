/- What the lexer's small functions compute. -/
import Derived.Test.YtdamanhpnbefgaaDoorTrydA2
import Derived.Test.YtdamanhpnbefgaaDoorLxP
set_option linter.unusedSimpArgs false
set_option linter.unusedVariables false
namespace Go.Proofs.Tryd
open Go Go.Am Go.Lx
variable {E : List PanicEntry → AW → Prop} {aw : AW}

@[simp] theorem cnd_tt {A C : Prop} : cnd true A C ↔ A := ⟨fun h => h.1 rfl, fun h => ⟨fun _ => h, fun h' => by simp at h'⟩⟩
@[simp] theorem cnd_ff {A C : Prop} : cnd false A C ↔ C := ⟨fun h => h.2 rfl, fun h => ⟨fun h' => by simp at h', fun _ => h⟩⟩

theorem T_small {Q : Bool → AW → Prop} (b : UInt8) (h : Q (small b) aw) : CallP prog 21 [.int .u8 (bn b)] aw sh21 Q E :=
  F21_ok _ _ (by unfold S21_0; unfold small at h; cases hb : decide (97 ≤ bn b) <;> simp_all)
theorem T_great {Q : Bool → AW → Prop} (b : UInt8) (h : Q (great b) aw) : CallP prog 22 [.int .u8 (bn b)] aw sh22 Q E :=
  F22_ok _ _ (by unfold S22_0; unfold great at h; cases hb : decide (65 ≤ bn b) <;> simp_all)
theorem T_digit {Q : Bool → AW → Prop} (b : UInt8) (h : Q (digit b) aw) : CallP prog 25 [.int .u8 (bn b)] aw sh25 Q E :=
  F25_ok _ _ (by unfold S25_0; unfold digit at h; cases hb : decide (48 ≤ bn b) <;> simp_all)
theorem T_in {Q : Bool → AW → Prop} (b : UInt8) (h : Q (isIn b) aw) : CallP prog 23 [.int .u8 (bn b)] aw sh23 Q E :=
  F23_ok _ _ (by
    unfold S23_0
    refine T_small b ?_
    unfold isIn at h
    cases h1 : small b
    · simp only [h1, Bool.false_or] at h; simp only [cnd_ff]
      refine T_great b ?_
      cases h2 : great b
      · simp only [h2, Bool.false_or] at h; simp only [cnd_ff]
        refine T_digit b ?_
        cases h3 : digit b
        · simp only [h3, Bool.false_or] at h; simp only [cnd_ff]
          cases h4 : decide (bn b = 95)
          · simp only [h4, Bool.false_or] at h; simp only [cnd_ff]; exact h
          · simp only [h4, Bool.true_or] at h; simp only [cnd_tt]; exact h
        · simp only [h3, Bool.true_or] at h; simp only [cnd_tt]; exact h
      · simp only [h2, Bool.true_or] at h; simp only [cnd_tt]; exact h
    · simp only [h1, Bool.true_or] at h; simp only [cnd_tt]; exact h)
theorem T_pre {Q : Bool → AW → Prop} (s g : List UInt8) (h : Q (pre g s) aw) : CallP prog 16 [.string (mkB s), .string (mkB g)] aw sh16 Q E :=
  F16_ok _ _ _ (by
    unfold S16_0
    refine F20_ok _ _ _ ?_
    unfold S20_0
    simp only [mkB_size]
    refine cnd_i (fun h1 => ?_) (fun h1 => ?_)
    · have h1 : g.length ≤ s.length := by simpa using h1
      refine cutS_i (a := 0) (d := g.length) rfl rfl (Nat.zero_le _) h1 ?_
      simpa [pre] using h
    · have h1 : s.length < g.length := by simpa using h1
      have : pre g s = false := by
        simp only [pre, decide_eq_false_iff_not]
        intro e
        have := congrArg List.length e
        simp at this; omega
      rw [this] at h; exact h)
theorem T_idx {Q : Int → AW → Prop} (s : List UInt8) (b : UInt8) (h : Q (firstIdx (mkB s) b) aw) : CallP prog 15 [.string (mkB s), .int .u8 (bn b)] aw sh15 Q E :=
  F15_ok _ _ _ (by
    unfold S15_0
    refine F19_ok _ _ _ ?_
    unfold S19_0
    have : (bn b).toNat.toUInt8 = b := by simp [bn]
    rw [this]; exact h)
theorem blank_idx (b : UInt8) : decide (0 ≤ firstIdx (mkB [32, 10, 9, 13]) b) = isBlank b := by
  have := all8 (p := fun b => decide (0 ≤ firstIdx (mkB [32, 10, 9, 13]) b) == isBlank b) (by decide +kernel) b
  simpa using this
theorem T_remark_loop {Q : Int → AW → Prop} (s : List UInt8) (hs : s.length ≤ 2000) : ∀ (n : Nat) (d : Int) (i : Nat), s.length < i + n → i ≤ s.length → d ≤ i → -(i : Int) ≤ d →
    Q (match rem (s.drop i) d i with | some n => n | none => -1) aw → S17_1 Q E n (mkB s) d i aw
  | 0, d, i, hn, hi, _, _, _ => absurd hn (by omega)
  | n + 1, d, i, hn, hi, h2, h3, hQ => by
    have ih := T_remark_loop (Q := Q) s hs n
    show S17_1s Q E _ _ _ _ _
    unfold S17_1s
    rw [i64_in (n := (i : Int) + 1) (by omega) (by omega), i64_in (n := (i : Int) + 2) (by omega) (by omega)]
    have hsz : (mkB s).size = s.length := rfl
    refine cnd_i (fun c => ?_) (fun c => ?_)
    · have c : i + 1 < s.length := by
        have := of_decide_eq_true c
        omega
      obtain ⟨a, b, r, hr⟩ : ∃ a b r, s.drop i = a :: b :: r := ⟨s[i], s[i + 1], s.drop (i + 2), by
        rw [List.drop_eq_getElem_cons (by omega), List.drop_eq_getElem_cons (by omega)]⟩
      have hr2 : s.drop (i + 2) = r := by rw [← List.drop_drop, hr]; rfl
      have hr1 : s.drop (i + 1) = b :: r := by rw [← List.drop_drop, hr]; rfl
      refine cutS_i (a := i) (d := i + 2) rfl (by omega) (by omega) (by omega) ?_
      rw [hr] at hQ ⊢
      have ht : (a :: b :: r).take (i + 2 - i) = [a, b] := by rw [show i + 2 - i = 2 by omega]; rfl
      rw [ht]
      simp only [rem] at hQ
      rw [show (⟨#[40, 42]⟩ : ByteArray) = mkB [40, 42] from rfl, show (⟨#[42, 41]⟩ : ByteArray) = mkB [42, 41] from rfl]
      simp only [mkB_inj, List.cons.injEq, and_true]
      unfold S17_2
      refine cnd_i (fun e => ?_) (fun e => ?_)
      · have e : a = 40 ∧ b = 42 := of_decide_eq_true e
        rw [if_pos e] at hQ
        rw [i64_in (n := d + 1) (by omega) (by omega), i64_in (n := (i : Int) + 1 + 1) (by omega) (by omega)]
        rw [← hr2] at hQ
        exact ih (d + 1) (i + 2) (by omega) (by omega) (by omega) (by omega) hQ
      · have e : ¬ (a = 40 ∧ b = 42) := of_decide_eq_false e
        rw [if_neg e] at hQ
        refine cnd_i (fun e2 => ?_) (fun e2 => ?_)
        · have e2 : a = 42 ∧ b = 41 := of_decide_eq_true e2
          rw [if_pos e2] at hQ
          rw [i64_in (n := d - 1) (by omega) (by omega), i64_in (n := (i : Int) + 1 + 1) (by omega) (by omega)]
          refine cnd_i (fun e3 => ?_) (fun e3 => ?_)
          · have e3 : d - 1 = 0 := of_decide_eq_true e3
            rw [if_pos e3] at hQ
            exact hQ
          · have e3 : ¬ d - 1 = 0 := of_decide_eq_false e3
            rw [if_neg e3, ← hr2] at hQ
            exact ih (d - 1) (i + 2) (by omega) (by omega) (by omega) (by omega) hQ
        · have e2 : ¬ (a = 42 ∧ b = 41) := of_decide_eq_false e2
          rw [if_neg e2, ← hr1] at hQ
          rw [i64_in (n := (i : Int) + 1) (by omega) (by omega)]
          exact ih d (i + 1) (by omega) (by omega) (by omega) (by omega) hQ
    · have c : s.length ≤ i + 1 := by
        have := of_decide_eq_false c
        omega
      have : rem (s.drop i) d i = none := by
        rcases hd : s.drop i with _ | ⟨a, _ | ⟨b, r⟩⟩
        · rfl
        · rfl
        · have := congrArg List.length hd
          simp at this; omega
      rw [this] at hQ
      exact hQ
theorem T_remark {Q : Int → AW → Prop} (s : List UInt8) (hs : s.length ≤ 2000) (h : Q (remR s) aw) : CallP prog 17 [.string (mkB s)] aw sh17 Q E :=
  F17_ok _ _ ⟨s.length + 1, T_remark_loop s hs _ 0 0 (by omega) (by omega) (by omega) (by omega) h⟩
end Go.Proofs.Tryd
