/- machine: the sign of two operands of the stack. -/
import Derived.Test.YtfoceofohlpafaaDoorMx8
set_option linter.unusedSectionVars false
set_option linter.unusedSimpArgs false
set_option linter.unusedVariables false
namespace Go.Proofs.Tryd
open Go Go.Am Go.RowKit
variable [SymE]
set_option maxHeartbeats 1000000
section
variable {aw0 aw : AW} {own : List Nat} {ro l : List (Nat × Blk)} {m bs : Nat} {h fu gl sk fr tr ad bu mo : Value} {fuel space most : Int} {E : List PanicEntry → AW → Prop} {a b : Nat} {sign : Int} {st : List Nat} {js : List Value}
theorem op_num {Q : Unit → AW → Prop} (M : Hp aw0 own ro aw ((m, MB h fu gl (Sl bs (st.length + 2)) fr tr fuel space most ad bu mo) :: (bs, WB (st ++ [a] ++ [b]) js) :: l)) (hst : st.length < 2 ^ 39) (hs : 0 ≤ sign) (hs8 : sign ≤ 8)
    (h0 : sign = 5 ∨ sign = 6 → 0 < fuel) (h1 : fuel < 2 ^ 60) (ha : a % 2 = 1) (ha' : a < 2 ^ 64) (hd : sign = 3 ∨ sign = 4 → Nw b ≠ 0)
    (hQ : ∀ bs' aw', Hp aw0 own ro aw' ((m, MB h fu gl (Sl bs' (st ++ [WN (rk sign a b)]).length) fr tr (rkFuel sign fuel) space most ad bu mo) :: (bs', WB (st ++ [WN (rk sign a b)]) []) :: l) → Q () aw') :
    CallP prog 74 [Pt m, .int .i64 sign] aw sh74 Q E := by
  refine F74_ok _ _ aw ?_
  unfold S74_0
  have e1 : IntKind.i64.wrap (((st.length + 2 : Nat) : Int) - 1) = ((st.length + 1 : Nat) : Int) := by rw [show ((st.length + 2 : Nat) : Int) - 1 = ((st.length + 1 : Nat) : Int) by omega, i64_nat (by omega)]
  have e2 : IntKind.i64.wrap (((st.length + 2 : Nat) : Int) - 2) = ((st.length : Nat) : Int) := by rw [show ((st.length + 2 : Nat) : Int) - 2 = ((st.length : Nat) : Int) by omega, i64_nat (by omega)]
  have gb : (st ++ [a] ++ [b])[st.length + 1]? = some b := by rw [List.getElem?_append_right (by simp)]; simp
  have ga : (st ++ [a] ++ [b])[st.length]? = some a := by rw [List.getElem?_append_left (by simp), List.getElem?_append_right (by simp)]; simp
  refine nck_x (fldA_x (ldV_x (M.im .here) (by repeat constructor) (nck_x (fldA_x (ldV_x (M.im .here) (by repeat constructor) (slen_x ?_))))))
  rw [e1]
  refine ixS_x (by omega) (by omega) (ldI_x (M.im (.there .here)) (cellW gb) ?_)
  refine nck_x (fldA_x (ldV_x (M.im .here) (by repeat constructor) (nck_x (fldA_x (ldV_x (M.im .here) (by repeat constructor) (slen_x ?_))))))
  rw [e2]
  refine ixS_x (by omega) (by omega) (ldI_x (M.im (.there .here)) (cellW ga) ?_)
  refine cnd_0x (by simp; omega) (cnd_0x (by simp; omega) ?_)
  refine reckon_x M h0 h1 ha ha' hs hs8 hd fun aw1 M => ?_
  refine nck_x (fldA_x (ldV_x (M.im .here) (by repeat constructor) (nck_x (fldA_x (ldV_x (M.im .here) (by repeat constructor) (slen_x ?_))))))
  rw [e2]
  refine cutV_x (a := 0) rfl rfl (Nat.zero_le _) (by omega) (M.im (.there .here)) rfl ?_
  refine nck_x (fldA_x ?_)
  refine st_x M (by repeat constructor) (by repeat constructor) rfl rfl rfl fun aw2 M => ?_
  have e3 : WB (st ++ [a] ++ [b]) js = WB st (W a :: W b :: js) := by rw [WB_snoc, WB_snoc]
  rw [e3] at M
  exact push_x M (by omega) fun bs' aw3 M => hQ bs' aw3 M
end
end Go.Proofs.Tryd
