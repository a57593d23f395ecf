/- machine: an exception that nothing catches; what was printed, when nothing was. -/
import Derived.Test.YtfoceofohlpafaaDoorMx14
set_option linter.unusedSectionVars false
set_option linter.unusedSimpArgs false
set_option linter.unusedVariables false
namespace Go.Proofs.Tryd
open Go Go.Am Go.RowKit
variable [SymE]
set_option maxHeartbeats 1000000
section
variable {aw0 aw : AW} {own : List Nat} {ro l : List (Nat × Blk)} {m bf k b1 b2 b3 n : Nat} {h fu gl sk fr tr ad mo : Value} {fuel space most : Int} {E : List PanicEntry → AW → Prop} {Q : (Bool × Int × Int × ByteArray × ByteArray × Value × Int) → AW → Prop} {s : ByteArray} {bu : Value}
theorem caught0 (M : Hp aw0 own ro aw ((m, MB h fu gl sk fr nil3 fuel space most ad bu mo) :: l))
    (hQ : ∀ aw', Hp aw0 own ro aw' ((m, MB h fu gl sk fr nil3 fuel space most ad bu mo) :: l) → Q (false, 9, 0, s, ⟨#[]⟩, nil3, 0) aw') : CallP prog 57 [Pt m, .string s] aw sh57 Q E := by
  refine F57_ok _ _ aw ?_
  unfold S57_0
  refine alc_x M fun b aw1 M => ?_
  refine nck_x (fldA_x (ldV_x (M.im (.there .here)) (by repeat constructor) (slen_x (cnd_1x rfl ?_))))
  refine st_x M (by repeat constructor) (by repeat constructor) rfl rfl rfl fun aw2 M => ?_
  refine ptr_x (gI_x (M.im .here) (by repeat constructor) (gI_x (M.im .here) (by repeat constructor) (gS_x (M.im .here) (by repeat constructor) (gS_x (M.im .here) (by repeat constructor) (gV_x (M.im .here) (by repeat constructor) (gI_x (M.im .here) (by repeat constructor) ?_))))))
  exact hQ aw2 (M.drop .here)
theorem run_raise0 {again : Bool} {r1 r2 : Int} {r3 r4 : ByteArray} {r5 : Value} {r6 : Int} (M : Hp aw0 own ro aw ((b3, ⟨[.int .i64 r1, .int .u64 r2, .string r3, .string r4, r5, .int .i64 r6], 29, 0, true, 0⟩) :: (b2, ⟨[.bool again], 4, 0, true, 0⟩) :: (b1, ⟨[Pt m], 30, 0, true, 0⟩) :: (m, MB h fu gl sk fr nil3 fuel space most ad bu mo) :: l))
    (hQ : ∀ aw', Hp aw0 own ro aw' ((m, MB h fu gl sk fr nil3 fuel space most ad bu mo) :: l) → Q (false, 9, 0, s, ⟨#[]⟩, nil3, 0) aw') : DK35 Q E (Pt b1) (Pt b2) (Pt b3) (.panic (raise s)) aw := by
  unfold DK35 DefK
  refine F56_okD _ _ _ _ aw ?_
  unfold S56_0
  show nilB _ (.iface 116 (.agg #[.string s])) _ _
  refine nilB_x rfl rfl (cnd_0x rfl ?_)
  refine tyQ_nx (q := 116) rfl (by decide) ?_
  refine tyQ_yx rfl ⟨s, rfl, ?_⟩
  refine alc_x M fun b aw1 M => ?_
  refine st_x M (by repeat constructor) (by repeat constructor) rfl rfl rfl fun aw2 M => ?_
  refine ldV_x (M.im (.there (.there (.there .here)))) (by constructor) (fldA_x (ldS_x (M.im .here) (by constructor) ?_))
  have M := M.front (.there (.there (.there (.there .here))))
  refine caught0 M fun aw3 M => ?_
  refine st_x M (by repeat constructor) (by repeat constructor) rfl rfl rfl fun aw4 M => ?_
  refine st_x M (by repeat constructor) (by repeat constructor) rfl rfl rfl fun aw5 M => ?_
  show ptr _ _
  refine ptr_x (gB_x (M.im (.there (.there (.there .here)))) (by constructor) (ptr_x (gI_x (M.im (.there (.there .here))) (by repeat constructor) (gI_x (M.im (.there (.there .here))) (by repeat constructor) (gS_x (M.im (.there (.there .here))) (by repeat constructor) (gS_x (M.im (.there (.there .here))) (by repeat constructor) (gV_x (M.im (.there (.there .here))) (by repeat constructor) (gI_x (M.im (.there (.there .here))) (by repeat constructor) ?_))))))))
  exact hQ aw5 ((((M.drop (.there .here)).drop (.there .here)).drop (.there .here)).drop (.there .here))
theorem string0 {Q : ByteArray → AW → Prop} (M : Hp aw0 own ro aw ((m, MB h fu gl sk fr tr fuel space most ad nil3 mo) :: l)) (hQ : Q ⟨#[]⟩ aw) : CallP prog 36 [.pointer (some ⟨m, 9, none⟩)] aw sh36 Q E := by
  refine F36_ok _ aw ?_
  unfold S36_0
  refine nck_x (fldA_x (ldV_x (M.im .here) (by repeat constructor) (nck_x (fldA_x (ldV_x (M.im .here) (by repeat constructor) (slen_x ?_))))))
  refine ⟨_, .inr rfl, rfl, again_x (M.im .here) (by repeat constructor) ⟨⟨#[]⟩, aw, .inl ⟨rfl, ⟨_, rfl⟩, rfl, rfl⟩, hQ⟩⟩
end
end Go.Proofs.Tryd
