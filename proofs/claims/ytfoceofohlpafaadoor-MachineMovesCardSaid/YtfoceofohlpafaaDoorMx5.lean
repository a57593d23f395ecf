/- machine: a machine is made. -/
import Derived.Test.YtfoceofohlpafaaDoorMx4
set_option linter.unusedSectionVars false
set_option linter.unusedSimpArgs false
set_option linter.unusedVariables false
namespace Go.Proofs.Tryd
open Go Go.Am Go.RowKit
variable [SymE]
set_option maxHeartbeats 1000000
def hw : Nat → List Nat
  | 0 => []
  | i + 1 => hw i ++ [1 * 2 ^ 8 + 6] ++ [WN i]
def gw : Nat → List Nat
  | 0 => []
  | i + 1 => gw i ++ [4 * i]
theorem hw_len (i : Nat) : (hw i).length = 2 * i := by
  induction i with
  | zero => rfl
  | succ i ih => simp [hw, ih]; omega
theorem gw_len (i : Nat) : (gw i).length = i := by
  induction i with
  | zero => rfl
  | succ i ih => simp [gw, ih]
abbrev nil3 : Value := .slice none 0 0
section
variable {aw0 aw : AW} {own : List Nat} {ro l : List (Nat × Blk)} {m hb : Nat} {E : List PanicEntry → AW → Prop}
theorem new_loop {Q : (Value × Int) → AW → Prop} {qu pr : Nat} {ad : Value} (hq : qu < 2 ^ 30) (hroom : 2 * pr ≤ qu)
    (hQ : ∀ v gl Lm Lg aw', SlP 26 1 v (2 * pr) ((hw pr).map W) Lm → SlP 26 1 gl pr ((gw pr).map W) Lg → Hp aw0 own ro aw' ((m, MB (Pt hb) nil3 gl nil3 nil3 nil3 0 0 0 ad nil3 nil3) :: (hb, HB v (qu : Int) 0) :: (Lm ++ (Lg ++ l))) → Q (Pt m, 0) aw') :
    ∀ (k i : Nat) (v gl : Value) (Lm Lg : List (Nat × Blk)) (aw : AW), i + k = pr → SlP 26 1 v (2 * i) ((hw i).map W) Lm → SlP 26 1 gl i ((gw i).map W) Lg →
      Hp aw0 own ro aw ((m, MB (Pt hb) nil3 gl nil3 nil3 nil3 0 0 0 ad nil3 nil3) :: (hb, HB v (qu : Int) 0) :: (Lm ++ (Lg ++ l))) → S15_1 Q E (k + 1) (Pt hb) (Pt m) (pr : Int) (i : Int) aw := by
  intro k
  induction k with
  | zero =>
    intro i v gl Lm Lg aw hi hv hg M
    show S15_1s Q E _ (Pt hb) (Pt m) (pr : Int) (i : Int) aw
    unfold S15_1s
    have : i = pr := by omega
    subst this
    exact cnd_0x (by simp) (hQ _ _ _ _ _ hv hg M)
  | succ k ih =>
    intro i v gl Lm Lg aw hi hv hg M
    show S15_1s Q E (S15_1 Q E (k + 1)) (Pt hb) (Pt m) (pr : Int) (i : Int) aw
    unfold S15_1s
    refine cnd_1x (by simp; omega) (num_x _ ?_)
    rw [Wn_nat]
    refine alcS_x M fun pb aw1 M1 => ?_
    refine roots_x (slP_isSl hg) (ns := 0) (.inl ⟨rfl, rfl⟩) (by omega) (by omega) (M1.front (.there .here)) fun rv rn os Lr aw2 hr hro hrn M2 => ?_
    have hsrc : Src aw2 1 rv rn (os.take rn) := by
      cases hr with
      | nil => exact .nil
      | some h1 => exact src_x (M2.im .here) (by simpa using h1) (by simp)
    have hl : 2 * i = (hw i).length := (hw_len i).symm
    have M3 : Hp aw0 own ro aw2 (Lm ++ (hb, HB v (qu : Int) 0) :: (pb, WB [WN i] []) :: (Lr ++ (m, MB (Pt hb) nil3 gl nil3 nil3 nil3 0 0 0 ad nil3 nil3) :: (Lg ++ l))) :=
      M2.perm (by classical exact List.perm_iff_count.2 fun a => by simp only [List.count_append, List.count_cons]; ac_rfl)
    refine hput_x (kind := 6) (np := 1) (ws := hw i) (js := []) (prs := os.take rn) (by rw [← hl, List.append_nil]; exact hv) M3 rfl (by omega) hsrc (by
      rw [List.all_eq_true] at hro ⊢
      exact fun x hx => hro x (List.mem_of_mem_take hx)) hrn (by omega) (by omega) hq (by omega) fun mb aw3 M4 => ?_
    refine cnd_0x rfl ?_
    have M5 : Hp aw0 own ro aw3 ((pb, WB [WN i] []) :: (Lr ++ ((m, MB (Pt hb) nil3 gl nil3 nil3 nil3 0 0 0 ad nil3 nil3) :: (mb, WB (hw i ++ [1 * 2 ^ 8 + 6] ++ [WN i]) []) :: (hb, HB (Sl mb (hw i ++ [1 * 2 ^ 8 + 6] ++ [WN i]).length) (qu : Int) 0) :: (Lg ++ l)))) :=
      M4.perm (by classical exact List.perm_iff_count.2 fun a => by simp only [List.count_append, List.count_cons]; ac_rfl)
    have M6 := (M5.drop .here).dropL
    refine nck_x (fldA_x (ldV_x (M6.im .here) (by repeat constructor) ?_))
    refine alcS_x M6 fun b aw4 M7 => ?_
    have M8 : Hp aw0 own ro aw4 (Lg ++ ((b, ⟨[.int .u64 ((2 * (hw i).length : Nat) : Int)], 26, 1, true, 0⟩) :: (m, MB (Pt hb) nil3 gl nil3 nil3 nil3 0 0 0 ad nil3 nil3) :: (mb, WB (hw i ++ [1 * 2 ^ 8 + 6] ++ [WN i]) []) :: (hb, HB (Sl mb (hw i ++ [1 * 2 ^ 8 + 6] ++ [WN i]).length) (qu : Int) 0) :: l)) :=
      M7.perm (by classical exact List.perm_iff_count.2 fun a => by simp only [List.count_append, List.count_cons]; ac_rfl)
    refine app_p hg M8 (src_s (M7.im .here) rfl (.take .nil)) (by omega) rfl (by omega) fun gb aw5 M9 => ?_
    have M9 := (M9.drop (.there .here)).front (.there .here)
    refine nck_x (fldA_x ?_)
    refine st_x M9 (by repeat constructor) (by repeat constructor) rfl rfl rfl fun aw6 M10 => ?_
    rw [show (i : Int) + 1 = ((i + 1 : Nat) : Int) by omega, i64_nat (by omega)]
    have e1 : ((gw i).map W).take (i * 1) ++ [.int .u64 ((2 * (hw i).length : Nat) : Int)] = (gw (i + 1)).map W := by
      rw [List.take_of_length_le (by simp [gw_len]), hw_len, show 2 * (2 * i) = 4 * i by omega]
      simp only [gw, List.map_append, List.map_cons, List.map_nil]
    have e2 : WB (hw i ++ [1 * 2 ^ 8 + 6] ++ [WN i]) [] = ⟨(hw (i + 1)).map W, 26, 1, true, 0⟩ := by simp only [WB, hw, List.append_nil]
    have e3 : (hw i ++ [1 * 2 ^ 8 + 6] ++ [WN i]).length = 2 * (i + 1) := hw_len (i + 1)
    rw [e1, e2, e3] at M10
    refine ih (i + 1) (Sl mb (2 * (i + 1))) (Sl gb (i + 1)) [(mb, ⟨(hw (i + 1)).map W, 26, 1, true, 0⟩)] [(gb, ⟨(gw (i + 1)).map W, 26, 1, true, 0⟩)] aw6 (by omega) (.some (by simp [hw_len])) (.some (by simp [gw_len])) ?_
    exact M10.perm (by classical exact List.perm_iff_count.2 fun a => by simp only [List.count_append, List.count_cons, List.count_nil]; ac_rfl)
theorem newM_x {Q : (Value × Int) → AW → Prop} {qu pr : Nat} (hq0 : 0 < qu) (hq : qu ≤ 1048576) (hroom : 2 * pr ≤ qu) (M : Hp aw0 own ro aw l)
    (hQ : ∀ m hb v gl Lm Lg aw', SlP 26 1 v (2 * pr) ((hw pr).map W) Lm → SlP 26 1 gl pr ((gw pr).map W) Lg → Hp aw0 own ro aw' ((m, MB (Pt hb) nil3 gl nil3 nil3 nil3 0 0 0 (.pointer none) nil3 nil3) :: (hb, HB v (qu : Int) 0) :: (Lm ++ (Lg ++ l))) → Q (Pt m, 0) aw') :
    CallP prog 15 [.int .i64 (qu : Int), .int .i64 (pr : Int)] aw sh15 Q E := by
  refine F15_ok _ _ aw ?_
  unfold S15_0
  refine F28_ok _ aw ?_
  unfold S28_0
  refine cnd_0x (by simp; omega) (cnd_0x (by simp; omega) (alc_x M fun hb aw1 M1 => cnd_0x rfl ⟨rfl, alc_x M1 fun m aw2 M2 => ?_⟩))
  exact ⟨_, new_loop (by omega) hroom (fun v gl Lm Lg aw' h1 h2 h3 => hQ m hb v gl Lm Lg aw' h1 h2 h3) pr 0 nil3 nil3 [] [] aw2 (by omega) .nil .nil M2⟩
end
end Go.Proofs.Tryd
