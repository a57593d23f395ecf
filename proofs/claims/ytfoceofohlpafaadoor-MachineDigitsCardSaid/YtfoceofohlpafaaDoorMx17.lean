/- slices: room for so many. -/
import Derived.Test.YtfoceofohlpafaaDoorMx16
set_option linter.unusedSectionVars false
set_option linter.unusedSimpArgs false
set_option linter.unusedVariables false
namespace Go.Proofs.Tryd
open Go Go.Am Go.RowKit
variable [SymE]
set_option maxHeartbeats 1000000
section
variable {aw0 aw : AW} {own : List Nat} {ro l : List (Nat × Blk)} {n : Nat} {E : List PanicEntry → AW → Prop}
theorem grow0 {Q : Value → AW → Prop} (M : Hp aw0 own ro aw l) (h0 : 0 < n) (hn : n < 2 ^ 30)
    (hQ : ∀ b aw', Hp aw0 own ro aw' ((b, ⟨zeros [.int .i64 0, nil3] n, 43, 2, true, 0⟩) :: l) → Q (Sl b 0) aw') : CallP prog 55 [nil3, .int .i64 (n : Int)] aw sh55 Q E := by
  refine F55_ok _ _ aw ?_
  unfold S55_0
  refine cnd_0x (by simp) (scap_x (by unfold UNK; omega) (slen_x ?_))
  have e : IntKind.i64.wrap ((n : Int) - IntKind.i64.wrap (((0 : Nat) : Int) - ((0 : Nat) : Int))) = (n : Int) := by
    rw [show IntKind.i64.wrap (((0 : Nat) : Int) - ((0 : Nat) : Int)) = 0 from rfl, Int.sub_zero, i64_nat (by omega)]
  rw [e]
  refine cnd_1x (by simp; omega) (scap_x (by unfold UNK; omega) ⟨_, Cut.nil, ?_⟩)
  refine ⟨none, 0, 0, n, [], _, _, rfl, rfl, h0, .nil, by unfold UNK; omega, by omega, by omega, rfl, rfl, ?_⟩
  have M1 := M.alloc (cs := [] ++ zeros [.int .i64 0, nil3] n) 43 2
  refine slen_x (cutV_x (a := 0) (d := 0) rfl rfl (Nat.le_refl _) (by omega) (M1.im .here) rfl ?_)
  unfold S55_1
  exact hQ _ _ M1
end
end Go.Proofs.Tryd
