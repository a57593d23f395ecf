/- octet.Sum of the image seat. -/
import Derived.Test.YtacnonepegjooaaGreatDoorIaA
import Derived.Test.YtacnonepegjooaaGreatDoorL5
set_option linter.unusedSimpArgs false
set_option linter.unusedVariables false
set_option linter.unusedSectionVars false
set_option maxRecDepth 100000
namespace Go.Proofs.Tryz
open Go Go.Am Go.RowKit Go.Oc
variable [SymE]
section
variable {aw : AW} {v : Value} {bs : List UInt8} {E : List PanicEntry → AW → Prop}
theorem sum_bits {Q : Int → AW → Prop} {nx1 : Int → Value → Int → Int → AW → Prop} {v : Value} {n i : Int} : ∀ (k c : Nat), k ≤ 8 → c < 2 ^ 32 → nx1 ((crcN k c : Nat) : Int) v n (IntKind.i64.wrap (i + 1)) aw → S64_2 Q E nx1 (k + 1) (c : Int) v n i ((8 - k : Nat) : Int) aw
  | 0, c, _, hc, h => by
    show S64_2s Q E nx1 (S64_2 Q E nx1 0) _ _ _ _ _ aw
    unfold S64_2s
    exact cnd_0x (by decide) h
  | k + 1, c, hk, hc, h => by
    show S64_2s Q E nx1 (S64_2 Q E nx1 (k + 1)) _ _ _ _ _ aw
    unfold S64_2s
    refine cnd_1x (decide_eq_true (by omega)) ?_
    rw [crc_step hc, show ((8 - (k + 1) : Nat) : Int) + 1 = ((8 - k : Nat) : Int) by omega, i64_nat (by omega)]
    exact sum_bits k (crcS c) (by omega) (crcS_lt hc) h
theorem sum_loop {Q : Int → AW → Prop} (hb : Rb aw v bs) (hl : bs.length < 2 ^ 44) (hQ : Q ((Oc.sum bs : Nat) : Int) aw) :
    ∀ (n i c : Nat), i + n = bs.length → c < 2 ^ 32 → crcL c (bs.drop i) = crcL 4294967295 bs → S64_1 Q E (n + 1) (c : Int) v (bs.length : Int) (i : Int) aw
  | 0, i, c, hi, hc, h => by
    show S64_1s Q E (S64_1 Q E 0) _ _ _ _ aw
    unfold S64_1s
    refine cnd_0x (decide_eq_false (by omega)) ?_
    rw [not32 hc]
    rw [List.drop_of_length_le (by omega)] at h
    have h : c = crcL 4294967295 bs := h
    unfold Oc.sum at hQ
    rw [← h] at hQ
    exact hQ
  | n + 1, i, c, hi, hc, h => by
    show S64_1s Q E (S64_1 Q E (n + 1)) _ _ _ _ aw
    unfold S64_1s
    have hlt : i < bs.length := by omega
    refine cnd_1x (decide_eq_true (by omega)) (ix_b hb rfl (List.getElem?_eq_getElem hlt) (fun p h => h) ⟨9, ?_⟩)
    have hx : bs[i].toNat < 256 := bs[i].toNat_lt
    rw [u32_nat (by omega), xor_n32 (by omega) (by omega)]
    refine sum_bits 8 _ (Nat.le_refl _) (Nat.xor_lt_two_pow hc (by omega)) ?_
    rw [show (i : Int) + 1 = ((i + 1 : Nat) : Int) by omega, i64_nat (by omega)]
    refine sum_loop hb hl hQ n (i + 1) (crcB c bs[i]) (by omega) (crcB_lt hc) ?_
    rw [← h, List.drop_eq_getElem_cons hlt]
    rfl
theorem sum_x {Q : Int → AW → Prop} (hb : Rb aw v bs) (hl : bs.length < 2 ^ 44) (hQ : Q ((Oc.sum bs : Nat) : Int) aw) : CallP prog 64 [v] aw sh64 Q E := by
  refine F64_ok _ aw ?_
  unfold S64_0
  refine slen_b hb ⟨bs.length + 1, ?_⟩
  exact sum_loop hb hl hQ bs.length 0 4294967295 (by omega) (by decide) (by simp)
theorem sum_calls (aw : AW) (v : Value) (bs : List UInt8) (hb : Rb aw v bs) (hl : bs.length < 2 ^ 44) : ACalls prog 64 [v] aw fun e aw' => e = .returned (.int .u32 ((Oc.sum bs : Nat) : Int)) ∧ aw' = aw :=
  ACalls.mono (sum_x (Q := fun r aw' => r = ((Oc.sum bs : Nat) : Int) ∧ aw' = aw) (E := fun _ _ => False) hb hl ⟨rfl, rfl⟩) fun e aw' h => match e, h with
    | .returned _, ⟨r, h1, h2⟩ => by subst h1; obtain ⟨rfl, rfl⟩ := h2; exact ⟨rfl, rfl⟩
    | .panicked _, h => h.elim
end
end Go.Proofs.Tryz
