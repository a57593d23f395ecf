/- machine: a text's length; an exception is raised; a try; things slide. -/
import Derived.Test.YtfoceofohlpafaaDoorMt6
set_option linter.unusedVariables false
set_option linter.unusedSimpArgs false
set_option linter.unusedSectionVars false
namespace Go.Proofs.Tryd
open Go Go.Am Go.RowKit
variable [SymE]
set_option maxHeartbeats 1000000
section
variable {aw0 aw : AW} {own : List Nat} {ro l : List (Nat × Blk)} {X : MC} {m bs bf ib f pc base w i j j2 mb op b1 b2 b3 k qu hb : Nat} {fuel space most : Int} {st ws : List Nat} {fs : List Fr} {E : List PanicEntry → AW → Prop} {n a : Int} {s t : ByteArray} {h fu gl sk fr tr ad bu mo : Value} {Q : (Bool × Int × Int × ByteArray × ByteArray × Value × Int) → AW → Prop}
theorem mm_len (H : MM aw0 own ro X (st ++ [2 * j] ++ [2 * j2]) (fs ++ [(f, pc, base)]) fuel (HL X.hb mb ws qu l) aw) (hI : InsAt ro (HL X.hb mb ws qu l) X.fu f pc 7 n a t) (hS : At (HL X.hb mb ws qu l) b1 (SB X.m)) (hfl : fs.length < 2 ^ 39) (hst : st.length < 2 ^ 38)
    (h0 : 0 < fuel) (h1 : fuel < 2 ^ 60) (hj : ws[j]? = some (256 + 6)) (hy : ws[j + 1]? = some (WN 6)) (hT : TxtAt ws j2 s) (hws : ws.length < 2 ^ 50)
    (hK : ∀ aw', MM aw0 own ro X (st ++ [WN (s.size : Int)]) (fs ++ [(f, pc + 1, base)]) (fuel - 1) (HL X.hb mb ws qu l) aw' → S35_1 Q E k (Pt b1) (Pt b2) (Pt b3) aw') : S35_1 Q E (k + 1) (Pt b1) (Pt b2) (Pt b3) aw := by
  refine mm_fetch H hI hS (by omega) fun ib bs bf sj fj aw1 M => ?_
  have hsz := hT.sz
  have hl2 : (st ++ [2 * j] ++ [2 * j2]).length = st.length + 2 := by simp
  simp only [MCB] at M
  rw [hl2] at M
  refine ins_prim (i := 6) M hst h0 h1 .here (.there .here) hws hj hy (by decide) fun aw2 M2 => ?_
  refine F82_ok _ _ _ aw2 ?_
  unfold S82_0
  refine cnd_0x rfl (cnd_0x rfl (cnd_0x rfl ?_))
  unfold S82_1
  refine cnd_0x rfl (cnd_0x rfl (cnd_0x rfl (cnd_0x rfl (cnd_1x rfl ?_))))
  refine nck_x (fldA_x (ldV_x (M2.im .here) (by repeat constructor) ?_))
  refine len_x (M2.im (.there (.there (.there .here)))) (M2.im (.there (.there (.there (.there .here))))) (by omega) rfl hT.hd (by omega) ?_
  rw [show (s.size * 2 ^ 8 + 3) / 256 = s.size by omega]
  refine num_x _ ?_
  rw [Wn_nat]
  rw [← hl2] at M2
  refine push_x M2 (by omega) fun bs2 aw3 M3 => ?_
  rw [show (st ++ [2 * j] ++ [2 * j2] ++ [WN (s.size : Int)]).length = st.length + 3 by simp] at M3
  refine ⟨bs2, WN (s.size : Int), HL X.hb mb ws qu l, _, _, _, _, _, _, _, _, _, _, M3, fun aw4 jj M4 => hK aw4 ⟨bs2, bf, jj, fj, ?_⟩⟩
  rw [FRB_snoc, show (fs ++ [(f, pc + 1, base)]).length = fs.length + 1 by simp]
  exact M4
end
end Go.Proofs.Tryd
