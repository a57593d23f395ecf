/- machine: more instructions: locals, the function itself, globals, a jump on no, a closure, calls. -/
import Derived.Test.YtfoceofohlpafaaDoorMx19
set_option linter.unusedSectionVars false
set_option linter.unusedVariables false
set_option linter.unusedSimpArgs false
namespace Go.Proofs.Tryd
open Go Go.Am Go.RowKit
variable [SymE]
set_option maxHeartbeats 1000000
section
variable {aw0 aw : AW} {own : List Nat} {ro l : List (Nat × Blk)} {m bs bf ib k f pc base w i j hb mb gb : Nat} {h fu gl sk fr tr ad bu mo : Value} {fuel space most : Int} {E : List PanicEntry → AW → Prop} {sj fs js mj : List Value} {n ia : Int} {s : ByteArray} {st ws gs : List Nat} {BF : Blk} {Q : Unit → AW → Prop}
theorem ins_glob {gj : List Value} {ng : Nat} (M : Hp aw0 own ro aw ((ib, IB 5 (i : Int) ia s) :: (m, MB h fu (Sl gb ng) (Sl bs st.length) fr tr fuel space most ad bu mo) :: (bf, BF) :: (bs, WB st sj) :: l)) (hst : st.length < 2 ^ 39) (hg : At l gb (WB gs gj)) (hng : gs.length = ng) (hw : gs[i]? = some w)
    (hQ : ∀ bs' aw', Hp aw0 own ro aw' ((m, MB h fu (Sl gb ng) (Sl bs' (st ++ [w]).length) fr tr fuel space most ad bu mo) :: (bf, BF) :: (bs', WB (st ++ [w]) []) :: l) → Q () aw') : S58_1 Q E (Pt m) sk (Pt ib) 5 aw := by
  have hlt : i < gs.length := (List.getElem?_eq_some_iff.1 hw).1
  unfold S58_1
  refine cnd_0x rfl (cnd_0x rfl (cnd_0x rfl (cnd_0x rfl (cnd_0x rfl (cnd_1x rfl ?_)))))
  refine nck_x (fldA_x (ldV_x (M.im (.there .here)) (by repeat constructor) (fldA_x (ldI_x (M.im .here) (by repeat constructor) ?_))))
  refine ixS_x (by omega) (by omega) (ldI_x (M.im (.there (.there (.there (.there hg))))) (cellW hw) ?_)
  have M1 := ((M.drop .here).front (.there (.there .here))).front (.there .here)
  exact push_x M1 (by omega) fun bs' aw1 M2 => hQ bs' aw1 ((M2.front (.there (.there .here))).front (.there .here))
theorem ins_pop (M : Hp aw0 own ro aw ((ib, IB 19 n ia s) :: (m, MB h fu gl (Sl bs (st.length + 1)) fr tr fuel space most ad bu mo) :: (bf, BF) :: (bs, WB (st ++ [w]) sj) :: l)) (hst : st.length < 2 ^ 39)
    (hQ : ∀ aw', Hp aw0 own ro aw' ((m, MB h fu gl (Sl bs st.length) fr tr fuel space most ad bu mo) :: (bf, BF) :: (bs, WB st (W w :: sj)) :: l) → Q () aw') : S58_1 Q E (Pt m) sk (Pt ib) 19 aw := by
  unfold S58_1
  iterate 14 (first | refine cnd_0x rfl ?_)
  refine cnd_1x rfl ?_
  have M1 := ((M.drop .here).front (.there (.there .here))).front (.there .here)
  exact pop_x M1 (by omega) fun aw1 M2 => hQ aw1 ((M2.front (.there (.there .here))).front (.there .here))
end
end Go.Proofs.Tryd
set_option linter.unusedVariables false
set_option linter.unusedSimpArgs false
namespace Go.Proofs.Tryd
open Go Go.Am Go.RowKit
variable [SymE]
set_option maxHeartbeats 1000000
section
variable {aw0 aw : AW} {own : List Nat} {ro l Lm : List (Nat × Blk)} {m bs bf ib k f pc base w i j hb mb gb qu : Nat} {h fu gl sk fr tr ad bu mo v : Value} {fuel space most ct : Int} {E : List PanicEntry → AW → Prop} {sj fs js mj : List Value} {n ia : Int} {s : ByteArray} {st ws gs : List Nat} {BF : Blk} {Q : Unit → AW → Prop}
end
end Go.Proofs.Tryd
set_option linter.unusedVariables false
set_option linter.unusedSimpArgs false
namespace Go.Proofs.Tryd
open Go Go.Am Go.RowKit
variable [SymE]
set_option maxHeartbeats 1000000
theorem wrap_i64 (n : Int) : IntKind.i64.wrap n = (n + 9223372036854775808) % 18446744073709551616 - 9223372036854775808 := by
  simp only [IntKind.wrap, IntKind.bits, IntKind.signed]
  simp
  split <;> omega
theorem Nw_WN {n : Int} (h1 : -4611686018427387904 ≤ n) (h2 : n < 4611686018427387904) : Nw ((WN n : Nat) : Int) = n := by
  rw [← Wn_nat]
  unfold Nw Wn
  rw [show min (1 : Int).toNat IntKind.i64.bits = 1 from rfl, wrap_i64, Int.fdiv_eq_ediv_of_nonneg _ (by decide)]
  omega
section
variable {aw0 aw : AW} {own : List Nat} {ro l Lm : List (Nat × Blk)} {m bs bf ib k f pc base w i j hb mb gb qu nf cf bu_ : Nat} {h fu gl sk fr tr ad bu mo v : Value} {fuel space most ct : Int} {E : List PanicEntry → AW → Prop} {sj fs js mj : List Value} {n ia : Int} {s : ByteArray} {st ws gs : List Nat} {BF : Blk} {Q : Unit → AW → Prop}
end
end Go.Proofs.Tryd
