/- machine: the stack; steps; what is laid in the heap. -/
import Derived.Test.YtfoceofohlpafaaDoorMx1
set_option linter.unusedSectionVars false
set_option linter.unusedSimpArgs false
set_option linter.unusedVariables false
namespace Go.Proofs.Tryd
open Go Go.Am Go.RowKit
variable [SymE]
set_option maxHeartbeats 1000000
abbrev Sl (b n : Nat) : Value := .slice (some ⟨b, 0, none⟩) n UNK
abbrev Pt (b : Nat) : Value := .pointer (some ⟨b, 0, none⟩)
abbrev MB (h fu gl sk fr tr : Value) (fuel space most : Int) (ad bu mo : Value) : Blk := ⟨[h, fu, gl, sk, fr, tr, .int .i64 fuel, .int .i64 space, .int .i64 most, ad, bu, mo], 77, 0, true, 0⟩
abbrev WB (ws : List Nat) (js : List Value) : Blk := ⟨ws.map W ++ js, 26, 1, true, 0⟩
abbrev HB (v : Value) (quota count : Int) : Blk := ⟨[v, .int .i64 quota, .int .i64 count], 100, 0, true, 0⟩
abbrev raise (s : ByteArray) : List PanicEntry := [⟨.iface 116 (.agg #[.string s]), false, false⟩]
def WN (n : Int) : Nat := (Wn n).toNat
theorem Wn_nat (n : Int) : Wn n = ((WN n : Nat) : Int) := by unfold WN Wn; omega
theorem take_W (ws : List Nat) (js : List Value) : (ws.map W ++ js).take ws.length = ws.map W := by
  rw [List.take_append_of_le_length (by simp)]
  exact List.take_of_length_le (by simp)
theorem WB_snoc (ws : List Nat) (w : Nat) (js : List Value) : WB (ws ++ [w]) js = WB ws (W w :: js) := by simp [WB]
section
variable {aw0 aw : AW} {own : List Nat} {ro l : List (Nat × Blk)} {m hb mb bs n c t e z j i : Nat} {h fu gl fr tr ad bu mo sk : Value} {fuel space most : Int} {ws : List Nat} {js : List Value} {E : List PanicEntry → AW → Prop} {w : Nat}
theorem push_x {Q : Unit → AW → Prop} (M : Hp aw0 own ro aw ((m, MB h fu gl (Sl bs ws.length) fr tr fuel space most ad bu mo) :: (bs, WB ws js) :: l)) (hb : ws.length < 2 ^ 40)
    (hQ : ∀ bs' aw', Hp aw0 own ro aw' ((m, MB h fu gl (Sl bs' (ws ++ [w]).length) fr tr fuel space most ad bu mo) :: (bs', WB (ws ++ [w]) []) :: l) → Q () aw') :
    CallP prog 34 [Pt m, W w] aw sh34 Q E := by
  refine F34_ok _ _ aw ?_
  unfold S34_0
  refine nck_x (fldA_x (ldV_x (M.im .here) (by repeat constructor) ?_))
  refine alcS_x M fun b aw' M => ?_
  refine app_mv M (by repeat constructor) (by simp) (src_s (M.im .here) rfl (.take .nil)) rfl (by omega) fun b2 aw2 M => ?_
  refine nck_x (fldA_x ?_)
  refine st_x M (by repeat constructor) (by repeat constructor) rfl rfl rfl fun aw3 M => ?_
  have M := (M.drop (.there .here)).front (.there .here)
  refine hQ b2 _ ?_
  rw [Nat.mul_one, take_W] at M
  rw [WB_snoc, List.length_append]
  exact M
theorem pop_x {Q : Int → AW → Prop} (M : Hp aw0 own ro aw ((m, MB h fu gl (Sl bs (ws.length + 1)) fr tr fuel space most ad bu mo) :: (bs, WB (ws ++ [w]) js) :: l)) (hb : ws.length < 2 ^ 40)
    (hQ : ∀ aw', Hp aw0 own ro aw' ((m, MB h fu gl (Sl bs ws.length) fr tr fuel space most ad bu mo) :: (bs, WB ws (W w :: js)) :: l) → Q w aw') :
    CallP prog 37 [Pt m] aw sh37 Q E := by
  refine F37_ok _ aw ?_
  unfold S37_0
  refine nck_x (fldA_x (ldV_x (M.im .here) (by repeat constructor) (nck_x (fldA_x (ldV_x (M.im .here) (by repeat constructor) (slen_x ?_))))))
  have e : IntKind.i64.wrap (((ws.length + 1 : Nat) : Int) - 1) = ((ws.length : Nat) : Int) := by rw [show ((ws.length + 1 : Nat) : Int) - 1 = ((ws.length : Nat) : Int) by omega, i64_nat (by omega)]
  rw [e]
  refine ixS_x (by omega) (by omega) (ldI_x (M.im (.there .here)) (cellW (x := w) (by simp)) ?_)
  refine nck_x (fldA_x (ldV_x (M.im .here) (by repeat constructor) (nck_x (fldA_x (ldV_x (M.im .here) (by repeat constructor) (slen_x ?_))))))
  rw [e]
  refine cutV_x (a := 0) rfl rfl (Nat.zero_le _) (by omega) (M.im (.there .here)) rfl ?_
  refine nck_x (fldA_x ?_)
  refine st_x M (by repeat constructor) (by repeat constructor) rfl rfl rfl fun aw3 M => ?_
  refine hQ _ ?_
  rw [WB_snoc] at M
  have e0 : (0 + 0 * 1 : Nat) = 0 := rfl
  exact M
theorem step_x {Q : Unit → AW → Prop} (M : Hp aw0 own ro aw ((m, MB h fu gl sk fr tr fuel space most ad bu mo) :: l)) (h0 : 0 < fuel) (h1 : fuel < 2 ^ 60)
    (hQ : ∀ aw', Hp aw0 own ro aw' ((m, MB h fu gl sk fr tr (fuel - 1) space most ad bu mo) :: l) → Q () aw') : CallP prog 81 [Pt m] aw sh81 Q E := by
  refine F81_ok _ aw ?_
  unfold S81_0
  refine nck_x (fldA_x (ldI_x (M.im .here) (by repeat constructor) (cnd_0x (by simp; omega) ?_)))
  refine nck_x (fldA_x (ldI_x (M.im .here) (by repeat constructor) (nck_x (fldA_x ?_))))
  rw [i64_in (by omega) (by omega)]
  exact st_x M (by repeat constructor) (by repeat constructor) rfl rfl rfl fun aw3 M => hQ _ M
theorem room_x {Q : Bool → AW → Prop} {q : Option Addr} {count : Int} {qu k n c : Nat} (M : Hp aw0 own ro aw ((m, MB (Pt hb) fu gl sk fr tr fuel space most ad bu mo) :: (hb, HB (.slice q n c) qu count) :: l)) (hq : qu < 2 ^ 60) (hk : n + k ≤ qu) (hQ : Q true aw) :
    CallP prog 67 [Pt m, .int .i64 (k : Int)] aw sh67 Q E := by
  refine F67_ok _ _ aw ?_
  unfold S67_0
  have e1 : IntKind.i64.wrap ((qu : Int) - (n : Int)) = ((qu - n : Nat) : Int) := by rw [show (qu : Int) - n = ((qu - n : Nat) : Int) by omega, i64_nat (by omega)]
  refine nck_x (fldA_x (ldV_x (M.im .here) (by repeat constructor) (nck_x (fldA_x (ldV_x (M.im .here) (by repeat constructor) ?_)))))
  refine quota_x (M.im (.there .here)) (again_x (M.im .here) (by repeat constructor) (used_x (M.im (.there .here)) (cnd_0x ?_ ?_)))
  · rw [e1]; simp; omega
  · unfold S67_1
    refine nck_x (fldA_x (ldV_x (M.im .here) (by repeat constructor) (nck_x (fldA_x (ldV_x (M.im .here) (by repeat constructor) ?_)))))
    refine quota_x (M.im (.there .here)) (again_x (M.im .here) (by repeat constructor) (used_x (M.im (.there .here)) ?_))
    rw [e1, decide_eq_true (by omega)]
    exact hQ
end
end Go.Proofs.Tryd
