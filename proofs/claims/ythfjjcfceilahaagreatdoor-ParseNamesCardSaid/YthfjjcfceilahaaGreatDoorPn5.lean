/- Names, of a pattern of variables. -/
import Derived.Test.YthfjjcfceilahaaGreatDoorPn4
import Derived.Test.YthfjjcfceilahaaGreatDoorL5
set_option linter.unusedSimpArgs false
set_option linter.unusedVariables false
set_option linter.unusedSectionVars false
set_option maxRecDepth 100000
namespace Go.Proofs.YthfjjcfceilahaaGreatDoor
open Go Go.Am Go.Ri Go.RowKit
section
variable [SymE] {aw0 aw : AW} {own : List Nat} {ro l : List (Nat × Blk)} {Q : Value → AW → Prop} {E : List PanicEntry → AW → Prop}
abbrev tx (c : UInt8) : Value := .string (⟨⟨[c]⟩⟩ : ByteArray)
theorem name_x {s : ByteArray} {j : Int} {v : Value} (M : Hp aw0 own ro aw l) (h : ∀ g aw', Hp aw0 own ro aw' ((g, ⟨[.string s], 9, 1, true, 0⟩) :: l) → Q (.slice (some ⟨g, 0, none⟩) 1 1) aw') :
    CallP Tryz.prog 16 [.agg #[.int .u8 2, .string s, .int .i64 j, v]] aw Tryz.sh16 Q E := by
  refine Tryz.F16_ok 2 s j v aw ?_
  unfold Tryz.S16_0
  refine alc_x M fun p aw1 M => fldA_x (ldI_x (M.im .here) (by repeat constructor) (cnd_1x rfl (fldA_x (ldS_x (M.im .here) (by repeat constructor) (alcS_x M fun g aw2 M => h g aw2 (M.drop (.there .here)))))))
theorem kids_get {cs : List UInt8} {i : Nat} {c : UInt8} (h : cs[i]? = some c) : (kidsV cs)[i * 4]? = some (.int .u8 2) ∧ (kidsV cs)[i * 4 + 1]? = some (tx c) ∧ (kidsV cs)[i * 4 + 2]? = some (.int .i64 0) ∧ (kidsV cs)[i * 4 + 3]? = some (.slice none 0 0) := by
  induction cs generalizing i with
  | nil => simp at h
  | cons d r ih =>
    cases i with
    | zero => simp at h; subst h; exact ⟨rfl, rfl, rfl, rfl⟩
    | succ i =>
      have := ih (by simpa using h)
      rw [show (i + 1) * 4 = i * 4 + 4 by omega]
      exact this
theorem names_loop {cs : List UInt8} {b3 c3 : Nat} {B3 : Blk} (hB : ∀ {aw l}, Hp aw0 own ro aw l → aw.m b3 = some B3) (hc : B3.cells = kidsV cs) (h20 : cs.length ≤ 20)
    (hQ : ∀ v aw' L, SlP 9 1 v cs.length (cs.map tx) L → Hp aw0 own ro aw' (L ++ l) → Q v aw') : ∀ (r i : Nat) (v : Value) (L : List (Nat × Blk)) (aw : AW), i + r = cs.length → SlP 9 1 v i ((cs.take i).map tx) L → Hp aw0 own ro aw (L ++ l) →
    Tryz.S16_1 Q E (r + 1) v (.slice (some ⟨b3, 0, none⟩) cs.length c3) (cs.length : Int) (i : Int) aw
  | 0, i, v, L, aw, hi, hv, M => by
    show Tryz.S16_1s Q E _ _ _ _ _ _
    unfold Tryz.S16_1s
    obtain rfl : i = cs.length := by omega
    rw [List.take_length] at hv
    exact cnd_0x (decide_eq_false (by omega)) (hQ v aw L hv M)
  | r + 1, i, v, L, aw, hi, hv, M => by
    show Tryz.S16_1s Q E (Tryz.S16_1 Q E (r + 1)) _ _ _ _ _
    unfold Tryz.S16_1s
    have hlt : i < cs.length := by omega
    have hci : cs[i]? = some cs[i] := List.getElem?_eq_getElem hlt
    have htk : (cs.take (i + 1)).map tx = (cs.take i).map tx ++ [tx cs[i]] := by
      rw [List.take_add_one, hci, List.map_append]; rfl
    generalize cs[i] = c at hci htk
    obtain ⟨k0, k1, k2, k3⟩ := kids_get hci
    rw [← hc] at k0 k1 k2 k3
    have hB' := hB M
    refine cnd_1x (decide_eq_true (by omega)) (ixS_x (by omega) (by omega) (ptr_x ?_))
    rw [show 0 + (i : Int).toNat * 4 = i * 4 by omega]
    refine ⟨2, get_m hB' k0, _, get_m hB' k1, 0, get_m hB' k2, _, get_m hB' k3, ?_⟩
    refine alc_x M fun p aw1 M1 => st_x M1 .here (by repeat constructor) rfl rfl rfl fun aw2 M2 => ptr_x ?_
    refine gI_x (M2.im .here) (by repeat constructor) (gS_x (M2.im .here) (by repeat constructor) (gI_x (M2.im .here) (by repeat constructor) (gV_x (M2.im .here) (by repeat constructor) ?_)))
    refine name_x M2 fun g aw3 M3 => ?_
    have M4 : Hp aw0 own ro aw3 (L ++ ((g, ⟨[tx c], 9, 1, true, 0⟩) :: l)) := (M3.drop (.there .here)).perm List.perm_middle.symm
    refine app_p (k := 1) (cs := [tx c]) (os := (cs.take i).map tx) hv M4 (src_s (M3.im .here) rfl (by repeat constructor)) (by decide) rfl (by omega) fun b aw4 M5 => ?_
    rw [i64_in (n := (i : Int) + 1) (by omega) (by omega), show (i : Int) + 1 = ((i + 1 : Nat) : Int) by omega]
    refine names_loop hB hc h20 hQ r (i + 1) _ [(b, ⟨(cs.take (i + 1)).map tx, 9, 1, true, 0⟩)] aw4 (by omega) (.some (by simp; omega)) ?_
    have e : ((cs.take i).map tx).take (i * 1) ++ [tx c] = (cs.take (i + 1)).map tx := by
      rw [htk, List.take_of_length_le (by simp; omega)]
    rw [e] at M5
    exact M5.drop (.there .here)
theorem names_x {cs : List UInt8} {k b3 c3 : Nat} {s : ByteArray} {j : Int} {B3 : Blk} (M : Hp aw0 own ro aw l) (hB : ∀ {aw l}, Hp aw0 own ro aw l → aw.m b3 = some B3) (hc : B3.cells = kidsV cs) (h20 : cs.length ≤ 20) (h0 : 0 < cs.length) (hk : k ≠ 2)
    (hQ : ∀ g aw', Hp aw0 own ro aw' ((g, ⟨cs.map tx, 9, 1, true, 0⟩) :: l) → Q (.slice (some ⟨g, 0, none⟩) cs.length UNK) aw') :
    CallP Tryz.prog 16 [.agg #[.int .u8 (.ofNat k), .string s, .int .i64 j, .slice (some ⟨b3, 0, none⟩) cs.length c3]] aw Tryz.sh16 Q E := by
  refine Tryz.F16_ok (.ofNat k) s j _ aw ?_
  unfold Tryz.S16_0
  refine alc_x M fun p aw1 M1 => fldA_x (ldI_x (M1.im .here) (by repeat constructor) (cnd_0x (decide_eq_false (fun e => hk (by exact Int.ofNat.inj e))) (fldA_x (ldV_x (M1.im .here) (by repeat constructor) (slen_x ⟨cs.length + 1, ?_⟩)))))
  refine names_loop (l := l) hB hc h20 (fun v aw' L hv M => ?_) cs.length 0 _ [] aw1 (by omega) .nil (M1.drop .here)
  have key : ∀ {n : Nat} {v : Value} {os : List Value} {L : List (Nat × Blk)}, SlP 9 1 v n os L → 0 < n → ∃ b, v = .slice (some ⟨b, 0, none⟩) n UNK ∧ L = [(b, ⟨os, 9, 1, true, 0⟩)] := by
    intro n v os L h hn
    cases h with
    | nil => omega
    | some h => exact ⟨_, rfl, rfl⟩
  obtain ⟨b, rfl, rfl⟩ := key hv h0
  exact hQ _ _ M
end
end Go.Proofs.YthfjjcfceilahaaGreatDoor
