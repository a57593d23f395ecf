/- machine: a run begins. -/
import Derived.Test.YtfoceofohlpafaaDoorMx12
import Derived.Test.YtfoceofohlpafaaDoorMaD
set_option linter.unusedSectionVars false
set_option linter.unusedSimpArgs false
set_option linter.unusedVariables false
namespace Go.Proofs.Tryd
open Go Go.Am Go.RowKit
variable [SymE]
set_option maxHeartbeats 1000000
section
variable {aw0 aw : AW} {own : List Nat} {ro l : List (Nat × Blk)} {m bs bf ib k f pc base w : Nat} {h fu gl sk fr tr ad bu mo : Value} {fuel space most : Int} {E : List PanicEntry → AW → Prop} {st : List Nat}
theorem push0_x {Q : Unit → AW → Prop} (M : Hp aw0 own ro aw ((m, MB h fu gl nil3 fr tr fuel space most ad bu mo) :: l))
    (hQ : ∀ bs' aw', Hp aw0 own ro aw' ((m, MB h fu gl (Sl bs' [w].length) fr tr fuel space most ad bu mo) :: (bs', WB [w] []) :: l) → Q () aw') : CallP prog 34 [Pt m, W w] aw sh34 Q E := by
  refine F34_ok _ _ aw ?_
  unfold S34_0
  refine nck_x (fldA_x (ldV_x (M.im .here) (by repeat constructor) ?_))
  refine alcS_x M fun b aw' M => ?_
  refine app_nil M (src_s (M.im .here) rfl (.take .nil)) (by omega) (by omega) fun b2 aw2 M => ?_
  refine nck_x (fldA_x ?_)
  refine st_x M (by repeat constructor) (by repeat constructor) rfl rfl rfl fun aw3 M => ?_
  exact hQ b2 _ ((M.drop (.there .here)).front (.there .here))
theorem reset_x {Q : Unit → AW → Prop} (M : Hp aw0 own ro aw ((m, MB h fu gl sk fr tr fuel space most ad bu mo) :: l))
    (hQ : ∀ aw', Hp aw0 own ro aw' ((m, MB h fu gl sk fr tr fuel space most (.pointer none) nil3 mo) :: l) → Q () aw') : CallP prog 33 [.pointer (some ⟨m, 9, none⟩)] aw sh33 Q E := by
  refine F33_ok _ aw ?_
  unfold S33_0
  refine nck_x (fldA_x ?_)
  refine st_x M (by repeat constructor) (by repeat constructor) rfl rfl rfl fun aw1 M => ?_
  refine nck_x (fldA_x ?_)
  exact st_x M (by repeat constructor) (by repeat constructor) rfl rfl rfl fun aw2 M => hQ _ M
abbrev R0 : Blk := ⟨[.int .i64 0, .int .u64 0, .string (⟨#[]⟩ : ByteArray), .string (⟨#[]⟩ : ByteArray), nil3, .int .i64 0], 29, 0, true, 0⟩
theorem run_begin {Q : (Int × Int × ByteArray × ByteArray × Value × Int) → AW → Prop} {fn fu2 mv rm : Int} {tb : Nat} (M : Hp aw0 own ro aw ((tb, R0) :: (m, MB h fu gl sk fr tr fuel space most ad bu mo) :: l))
    (K : ∀ bs bf rb aw', Hp aw0 own ro aw' ((rb, R0) :: (m, MB h fu gl (Sl bs [WN 0, WN 0].length) (Sl bf 1) nil3 fu2 rm mv (.pointer none) nil3 nil3) :: (bf, ⟨[.int .i64 fn, .int .i64 0, .int .i64 1], 85, 3, true, 0⟩) :: (bs, WB [WN 0, WN 0] []) :: (tb, R0) :: l) → ∃ n, S17_2 Q E n (Pt m) (Pt tb) (Pt rb) true aw') :
    S17_1 Q E (Pt m) fn fu2 mv rm (Pt tb) false aw := by
  unfold S17_1
  have M := M.front (.there .here)
  refine cnd_0x rfl ?_
  refine nck_x (fldA_x (st_x M (by repeat constructor) (by repeat constructor) rfl rfl rfl fun aw1 M => ?_))
  refine nck_x (fldA_x (st_x M (by repeat constructor) (by repeat constructor) rfl rfl rfl fun aw2 M => ?_))
  refine nck_x (fldA_x (st_x M (by repeat constructor) (by repeat constructor) rfl rfl rfl fun aw3 M => ?_))
  refine nck_x (fldA_x (st_x M (by repeat constructor) (by repeat constructor) rfl rfl rfl fun aw4 M => ?_))
  refine nck_x (fldA_x (st_x M (by repeat constructor) (by repeat constructor) rfl rfl rfl fun aw5 M => ?_))
  refine nck_x (fldA_x (st_x M (by repeat constructor) (by repeat constructor) rfl rfl rfl fun aw6 M => ?_))
  refine nck_x (fldA_x (st_x M (by repeat constructor) (by repeat constructor) rfl rfl rfl fun aw7 M => ?_))
  refine nck_x (fldA_x (reset_x M fun aw8 M => num_x _ ?_))
  rw [Wn_nat]
  refine push0_x M fun b1 aw9 M => num_x _ ?_
  rw [Wn_nat]
  refine push_x M (by simp) fun b2 aw10 M => ?_
  refine nck_x (fldA_x (ldV_x (M.im .here) (by repeat constructor) ?_))
  refine alcS_x M fun fb aw11 M => ?_
  refine app_nil M (src_s (M.im .here) rfl (.take (.take (.take .nil)))) (by omega) (by omega) fun bf aw12 M => ?_
  have M := (M.drop (.there .here)).front (.there .here)
  refine nck_x (fldA_x (st_x M (by repeat constructor) (by repeat constructor) rfl rfl rfl fun aw13 M => ?_))
  refine alc_x M fun rb aw14 M => ?_
  refine st_x M (by repeat constructor) (by repeat constructor) rfl rfl rfl fun aw15 M => ?_
  exact K b2 bf rb aw15 M
end
end Go.Proofs.Tryd
