/- machine: the loop of a run, and its end. -/
import Derived.Test.YtfoceofohlpafaaDoorMx13
import Derived.Test.YtfoceofohlpafaaDoorMaG
set_option linter.unusedSectionVars false
set_option linter.unusedSimpArgs false
set_option linter.unusedVariables false
namespace Go.Proofs.Tryd
open Go Go.Am Go.RowKit
variable [SymE]
set_option maxHeartbeats 1000000
section
variable {aw0 aw : AW} {own : List Nat} {ro l : List (Nat × Blk)} {m bf k b1 b2 b3 n : Nat} {h fu gl sk fr tr ad bu mo : Value} {fuel space most : Int} {E : List PanicEntry → AW → Prop} {Q : (Bool × Int × Int × ByteArray × ByteArray × Value × Int) → AW → Prop}
theorem run_step (i1 : In aw b1 ⟨[Pt m], 30, 0, true, 0⟩) (im : In aw m (MB h fu gl sk (Sl bf (k + 1)) tr fuel space most ad bu mo))
    (H : CallP prog 58 [Pt m] aw sh58 (fun _ aw => S35_1 Q E n (Pt b1) (Pt b2) (Pt b3) aw) (fun ch aw => DK35 Q E (Pt b1) (Pt b2) (Pt b3) (.panic ch) aw)) : S35_1 Q E (n + 1) (Pt b1) (Pt b2) (Pt b3) aw := by
  show S35_1s Q E _ _ _ _ aw
  unfold S35_1s
  exact ldV_x i1 (by constructor) (nck_x (fldA_x (ldV_x im (by repeat constructor) (slen_x (cnd_1x (by simp) (ldV_x i1 (by constructor) H))))))
theorem run_end (M : Hp aw0 own ro aw ((b3, R0) :: (b2, ⟨[.bool false], 4, 0, true, 0⟩) :: (b1, ⟨[Pt m], 30, 0, true, 0⟩) :: (m, MB h fu gl sk (Sl bf 0) tr fuel space most ad bu mo) :: l))
    (hQ : ∀ aw', Hp aw0 own ro aw' ((m, MB h fu gl sk (Sl bf 0) tr fuel space most ad bu mo) :: l) → Q (false, 0, 0, ⟨#[]⟩, ⟨#[]⟩, nil3, 0) aw') : S35_1 Q E (n + 1) (Pt b1) (Pt b2) (Pt b3) aw := by
  show S35_1s Q E _ _ _ _ aw
  unfold S35_1s
  refine ldV_x (M.im (.there (.there .here))) (by constructor) (nck_x (fldA_x (ldV_x (M.im (.there (.there (.there .here)))) (by repeat constructor) (slen_x (cnd_0x rfl ?_)))))
  refine ptr_x (gI_x (M.im .here) (by repeat constructor) (gI_x (M.im .here) (by repeat constructor) (gS_x (M.im .here) (by repeat constructor) (gS_x (M.im .here) (by repeat constructor) (gV_x (M.im .here) (by repeat constructor) (gI_x (M.im .here) (by repeat constructor) ?_))))))
  refine st_x M (by repeat constructor) (by repeat constructor) rfl rfl rfl fun aw1 M => ?_
  refine get_x (M.im .here) (by repeat constructor) (get_x (M.im .here) (by repeat constructor) (get_x (M.im .here) (by repeat constructor) (get_x (M.im .here) (by repeat constructor) (get_x (M.im .here) (by repeat constructor) (get_x (M.im .here) (by repeat constructor) ?_)))))
  refine st_x M (by repeat constructor) (by repeat constructor) rfl rfl rfl fun aw2 M => ?_
  unfold DK35 DefK
  refine F56_okD _ _ _ .ret aw2 ?_
  unfold S56_0
  refine nilB_x rfl rfl (cnd_1x rfl ?_)
  show ptr _ _
  refine ptr_x (gB_x (M.im (.there .here)) (by constructor) (ptr_x (gI_x (M.im .here) (by repeat constructor) (gI_x (M.im .here) (by repeat constructor) (gS_x (M.im .here) (by repeat constructor) (gS_x (M.im .here) (by repeat constructor) (gV_x (M.im .here) (by repeat constructor) (gI_x (M.im .here) (by repeat constructor) ?_))))))))
  exact hQ aw2 (((M.drop .here).drop .here).drop .here)
end
end Go.Proofs.Tryd
