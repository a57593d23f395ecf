/- machine: a run's answer. -/
import Derived.Test.YtfoceofohlpafaaDoorMx15
set_option linter.unusedSectionVars false
set_option linter.unusedSimpArgs false
set_option linter.unusedVariables false
namespace Go.Proofs.Tryd
open Go Go.Am Go.RowKit
variable [SymE]
set_option maxHeartbeats 1000000
section
variable {aw0 aw : AW} {own : List Nat} {ro l : List (Nat × Blk)} {m bs tb rb n w : Nat} {h fu gl sk fr tr ad mo : Value} {fuel space most : Int} {E : List PanicEntry → AW → Prop} {Q : (Int × Int × ByteArray × ByteArray × Value × Int) → AW → Prop} {s : ByteArray} {st : List Nat} {sj : List Value}
abbrev RB (e w : Int) (r o : ByteArray) (mv : Value) (f : Int) : Blk := ⟨[.int .i64 e, .int .u64 w, .string r, .string o, mv, .int .i64 f], 29, 0, true, 0⟩
theorem run_tail {e w' : Int} {r o : ByteArray} {mv : Value} {f : Int} (hmv : one mv = true) (M : Hp aw0 own ro aw ((rb, RB e w' r o mv f) :: (m, MB h fu gl sk fr tr fuel space most ad nil3 mo) :: (tb, R0) :: l))
    (hQ : ∀ aw', Hp aw0 own ro aw' ((m, MB h fu gl nil3 fr tr fuel space most ad nil3 mo) :: l) → Q (e, w', r, o, mv, f) aw') : S17_3 Q E (Pt m) (Pt tb) (Pt rb) aw := by
  unfold S17_3
  refine nck_x (fldA_x (st_x M (by repeat constructor) (by repeat constructor) rfl rfl rfl fun aw1 M => ?_))
  refine ptr_x (gI_x (M.im .here) (by repeat constructor) (gI_x (M.im .here) (by repeat constructor) (gS_x (M.im .here) (by repeat constructor) (gS_x (M.im .here) (by repeat constructor) (gV_x (M.im .here) (by repeat constructor) (gI_x (M.im .here) (by repeat constructor) ?_))))))
  refine st_x M (by repeat constructor) (by repeat constructor) rfl rfl (by simp only [List.all_cons, List.all_nil, hmv, Bool.and_true]; rfl) fun aw2 M => ?_
  refine ptr_x (gI_x (M.im (.there (.there .here))) (by repeat constructor) (gI_x (M.im (.there (.there .here))) (by repeat constructor) (gS_x (M.im (.there (.there .here))) (by repeat constructor) (gS_x (M.im (.there (.there .here))) (by repeat constructor) (gV_x (M.im (.there (.there .here))) (by repeat constructor) (gI_x (M.im (.there (.there .here))) (by repeat constructor) ?_))))))
  exact hQ aw2 ((M.drop .here).drop (.there .here))
theorem run_ok (hmo : one mo = true) (hst : st.length < 2 ^ 39) {r : ByteArray} (M : Hp aw0 own ro aw ((rb, RB 0 0 r ⟨#[]⟩ nil3 0) :: (m, MB h fu gl (Sl bs (st.length + 1)) fr tr fuel space most ad nil3 mo) :: (tb, R0) :: (bs, WB (st ++ [w]) sj) :: l))
    (hQ : ∀ aw', Hp aw0 own ro aw' ((m, MB h fu gl nil3 fr tr fuel space most ad nil3 mo) :: l) → Q (0, (w : Int), r, ⟨#[]⟩, mo, fuel) aw') : S17_2 Q E (n + 1) (Pt m) (Pt tb) (Pt rb) false aw := by
  show S17_2s Q E _ _ _ _ _ aw
  unfold S17_2s
  refine cnd_0x rfl (nck_x (fldA_x (nck_x (fldA_x (ldV_x (M.im (.there .here)) (by repeat constructor) (nck_x (fldA_x (ldI_x (M.im (.there .here)) (by repeat constructor) ?_))))))))
  refine string0 (M.front (.there .here)) ?_
  refine again_x (M.im (.there .here)) (by repeat constructor) (again_x (M.im (.there .here)) (by repeat constructor) (fldA_x ?_))
  refine st_x M (by repeat constructor) (by repeat constructor) rfl rfl rfl fun aw1 M => ?_
  refine again_x (M.im (.there .here)) (by repeat constructor) (again_x (M.im (.there .here)) (by repeat constructor) (fldA_x ?_))
  refine st_x M (by repeat constructor) (by repeat constructor) rfl rfl (by simp [hmo]) fun aw2 M => ?_
  refine again_x (M.im (.there .here)) (by repeat constructor) (fldA_x ?_)
  refine st_x M (by repeat constructor) (by repeat constructor) rfl rfl rfl fun aw3 M => ?_
  refine fldA_x (ldI_x (M.im .here) (by constructor) (cnd_1x rfl ?_))
  have M := (M.front (.there (.there (.there .here)))).front (.there (.there .here))
  refine pop_x M (by omega) fun aw4 M => ?_
  have M := (M.drop (.there .here)).front (.there .here)
  refine fldA_x (st_x M (by repeat constructor) (by repeat constructor) rfl rfl rfl fun aw5 M => ?_)
  exact run_tail hmo M fun aw6 M => hQ aw6 M
end
end Go.Proofs.Tryd
