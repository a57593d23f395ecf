/- machine: instructions. -/
import Derived.Test.YtfoceofohlpafaaDoorMx10
set_option linter.unusedSectionVars false
set_option linter.unusedSimpArgs false
set_option linter.unusedVariables false
namespace Go.Proofs.Tryd
open Go Go.Am Go.RowKit
variable [SymE]
set_option maxHeartbeats 1000000
section
variable {aw0 aw : AW} {own : List Nat} {ro l : List (Nat × Blk)} {m bs bf ib k a b : Nat} {h fu gl fr tr ad bu mo fp : Value} {fuel space most : Int} {E : List PanicEntry → AW → Prop} {sj : List Value} {BF : Blk} {n ia : Int} {s : ByteArray} {st : List Nat}
theorem ins_int {Q : Unit → AW → Prop} (M : Hp aw0 own ro aw ((ib, IB 0 n ia s) :: (m, MB h fu gl (Sl bs st.length) fr tr fuel space most ad bu mo) :: (bf, BF) :: (bs, WB st sj) :: l)) (hst : st.length < 2 ^ 39)
    (hQ : ∀ bs' aw', Hp aw0 own ro aw' ((m, MB h fu gl (Sl bs' (st ++ [WN n]).length) fr tr fuel space most ad bu mo) :: (bf, BF) :: (bs', WB (st ++ [WN n]) []) :: l) → Q () aw') : S58_1 Q E (Pt m) fp (Pt ib) 0 aw := by
  unfold S58_1
  refine cnd_1x rfl (fldA_x (ldI_x (M.im .here) (by repeat constructor) (num_x _ ?_)))
  rw [Wn_nat]
  have M1 := ((M.drop .here).front (.there (.there .here))).front (.there .here)
  exact push_x M1 (by omega) fun bs' aw1 M2 => hQ bs' aw1 ((M2.front (.there (.there .here))).front (.there .here))
end
end Go.Proofs.Tryd
