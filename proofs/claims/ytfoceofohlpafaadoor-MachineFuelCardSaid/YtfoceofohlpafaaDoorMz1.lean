/- machine: more instructions: locals, the function itself, globals, a jump on no, a closure, calls. -/
import Derived.Test.YtfoceofohlpafaaDoorMx20
set_option linter.unusedSectionVars false
set_option linter.unusedVariables false
set_option linter.unusedSimpArgs false
namespace Go.Proofs.Tryd
open Go Go.Am Go.RowKit
variable [SymE]
set_option maxHeartbeats 1000000
theorem fb2 {fs js : List Value} {f pc base k : Nat} (hk : fs.length = k * 3) : Cell (FB fs f pc base js).cells (k * 3 + 2) (.int .i64 (base : Int)) := Cell.of (by
  show (fs ++ [.int .i64 (f : Int), .int .i64 (pc : Int), .int .i64 (base : Int)] ++ js)[k * 3 + 2]? = _
  rw [List.append_assoc, List.getElem?_append_right (by omega), hk, show k * 3 + 2 - k * 3 = 2 by omega]; rfl)
theorem fbput {fs js : List Value} {f pc base k : Nat} {pc' : Nat} (hk : fs.length = k * 3) : Put (FB fs f pc base js).cells (k * 3 + 1) [.int .i64 ((pc' : Nat) : Int)] (FB fs f pc' base js).cells := by
  have := put_app (Put.skip (c := .int .i64 (f : Int)) (Put.cons (c := .int .i64 (pc : Int)) (v := .int .i64 ((pc' : Nat) : Int)) (Put.nil (r := [.int .i64 (base : Int)] ++ js)))) fs
  rw [hk, Nat.zero_add] at this
  simpa only [FB, List.append_assoc, List.cons_append, List.nil_append] using this
section
variable {aw0 aw : AW} {own : List Nat} {ro l : List (Nat × Blk)} {m bs bf ib k f pc base w i j hb mb gb : Nat} {h fu gl sk fr tr ad bu mo : Value} {fuel space most : Int} {E : List PanicEntry → AW → Prop} {sj fs js mj : List Value} {n ia : Int} {s : ByteArray} {st ws gs : List Nat} {BF : Blk} {Q : Unit → AW → Prop}
theorem ins_local (M : Hp aw0 own ro aw ((ib, IB 2 (i : Int) ia s) :: (m, MB h fu gl (Sl bs st.length) fr tr fuel space most ad bu mo) :: (bf, FB fs f pc base js) :: (bs, WB st sj) :: l)) (hst : st.length < 2 ^ 39) (hk : fs.length = k * 3) (hw : st[base + i]? = some w)
    (hQ : ∀ bs' aw', Hp aw0 own ro aw' ((m, MB h fu gl (Sl bs' (st ++ [w]).length) fr tr fuel space most ad bu mo) :: (bf, FB fs f pc base js) :: (bs', WB (st ++ [w]) []) :: l) → Q () aw') : S58_1 Q E (Pt m) (.pointer (some ⟨bf, k * 3, none⟩)) (Pt ib) 2 aw := by
  have hlt : base + i < st.length := (List.getElem?_eq_some_iff.1 hw).1
  unfold S58_1
  refine cnd_0x rfl (cnd_0x rfl (cnd_1x rfl ?_))
  refine nck_x (fldA_x (ldV_x (M.im (.there .here)) (by repeat constructor) (nck_x (fldA_x (ldI_x (M.im (.there (.there .here))) (fb2 hk) (fldA_x (ldI_x (M.im .here) (by repeat constructor) ?_)))))))
  rw [show (base : Int) + (i : Int) = ((base + i : Nat) : Int) by omega, i64_nat (by omega)]
  refine ixS_x (by omega) (by omega) (ldI_x (M.im (.there (.there (.there .here)))) (cellW hw) ?_)
  have M1 := ((M.drop .here).front (.there (.there .here))).front (.there .here)
  exact push_x M1 (by omega) fun bs' aw1 M2 => hQ bs' aw1 ((M2.front (.there (.there .here))).front (.there .here))
theorem ins_self (M : Hp aw0 own ro aw ((ib, IB 4 n ia s) :: (m, MB h fu gl (Sl bs st.length) fr tr fuel space most ad bu mo) :: (bf, FB fs f pc base js) :: (bs, WB st sj) :: l)) (hst : st.length < 2 ^ 39) (hk : fs.length = k * 3) (hb1 : 1 ≤ base) (hw : st[base - 1]? = some w)
    (hQ : ∀ bs' aw', Hp aw0 own ro aw' ((m, MB h fu gl (Sl bs' (st ++ [w]).length) fr tr fuel space most ad bu mo) :: (bf, FB fs f pc base js) :: (bs', WB (st ++ [w]) []) :: l) → Q () aw') : S58_1 Q E (Pt m) (.pointer (some ⟨bf, k * 3, none⟩)) (Pt ib) 4 aw := by
  have hlt : base - 1 < st.length := (List.getElem?_eq_some_iff.1 hw).1
  unfold S58_1
  refine cnd_0x rfl (cnd_0x rfl (cnd_0x rfl (cnd_0x rfl (cnd_1x rfl ?_))))
  refine nck_x (fldA_x (ldV_x (M.im (.there .here)) (by repeat constructor) (nck_x (fldA_x (ldI_x (M.im (.there (.there .here))) (fb2 hk) ?_)))))
  rw [show IntKind.i64.wrap ((base : Int) - 1) = ((base - 1 : Nat) : Int) by rw [show (base : Int) - 1 = ((base - 1 : Nat) : Int) by omega]; exact i64_nat (by omega)]
  refine ixS_x (by omega) (by omega) (ldI_x (M.im (.there (.there (.there .here)))) (cellW hw) ?_)
  have M1 := ((M.drop .here).front (.there (.there .here))).front (.there .here)
  exact push_x M1 (by omega) fun bs' aw1 M2 => hQ bs' aw1 ((M2.front (.there (.there .here))).front (.there .here))
theorem ins_false0 (M : Hp aw0 own ro aw ((ib, IB 13 (i : Int) ia s) :: (m, MB h fu gl (Sl bs (st.length + 1)) fr tr fuel space most ad bu mo) :: (bf, FB fs f pc base js) :: (bs, WB (st ++ [w]) sj) :: l)) (hst : st.length < 2 ^ 39) (hk : fs.length = k * 3) (hw : Nw w = 0)
    (hQ : ∀ aw', Hp aw0 own ro aw' ((m, MB h fu gl (Sl bs st.length) fr tr fuel space most ad bu mo) :: (bf, FB fs f i base js) :: (bs, WB st (W w :: sj)) :: l) → Q () aw') : S58_1 Q E (Pt m) (.pointer (some ⟨bf, k * 3, none⟩)) (Pt ib) 13 aw := by
  unfold S58_1
  iterate 12 (first | refine cnd_0x rfl ?_)
  refine cnd_1x rfl ?_
  have M1 := (M.front (.there (.there (.there .here)))).front (.there (.there .here))
  refine pop_x M1 (by omega) fun aw1 M2 => n_x _ ?_
  refine cnd_1x (by rw [hw]; rfl) (fldA_x (ldI_x (M2.im (.there (.there .here))) (by repeat constructor) ?_))
  refine nck_x (fldA_x (st_x M2 (.there (.there (.there .here))) (fbput hk) rfl rfl rfl fun aw3 M3 => ?_))
  have M4 := M3.drop (.there (.there .here))
  exact hQ aw3 ((M4.front (.there (.there .here))).front (.there .here))
theorem ins_false1 (M : Hp aw0 own ro aw ((ib, IB 13 (i : Int) ia s) :: (m, MB h fu gl (Sl bs (st.length + 1)) fr tr fuel space most ad bu mo) :: (bf, BF) :: (bs, WB (st ++ [w]) sj) :: l)) (hst : st.length < 2 ^ 39) (hw : Nw w ≠ 0)
    (hQ : ∀ aw', Hp aw0 own ro aw' ((m, MB h fu gl (Sl bs st.length) fr tr fuel space most ad bu mo) :: (bf, BF) :: (bs, WB st (W w :: sj)) :: l) → Q () aw') : S58_1 Q E (Pt m) sk (Pt ib) 13 aw := by
  unfold S58_1
  iterate 12 (first | refine cnd_0x rfl ?_)
  refine cnd_1x rfl ?_
  have M1 := ((M.drop .here).front (.there (.there .here))).front (.there .here)
  refine pop_x M1 (by omega) fun aw1 M2 => n_x _ ?_
  exact cnd_0x (decide_eq_false hw) (hQ aw1 ((M2.front (.there (.there .here))).front (.there .here)))
end
end Go.Proofs.Tryd
