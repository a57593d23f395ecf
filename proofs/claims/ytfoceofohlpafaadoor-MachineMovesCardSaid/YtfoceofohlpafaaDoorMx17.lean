/- slices: room for so many. -/
import Derived.Test.YtfoceofohlpafaaDoorMx16
import Derived.Test.YtfoceofohlpafaaDoorMaH
set_option linter.unusedSectionVars false
set_option linter.unusedSimpArgs false
set_option linter.unusedVariables false
namespace Go.Proofs.Tryd
open Go Go.Am Go.RowKit
variable [SymE]
set_option maxHeartbeats 1000000
section
variable {aw0 aw : AW} {own : List Nat} {ro l : List (Nat × Blk)} {n : Nat} {E : List PanicEntry → AW → Prop}
theorem grow0 {Q : Value → AW → Prop} (M : Hp aw0 own ro aw l) (h0 : 0 < n) (hn : n < 2 ^ 30)
    (hQ : ∀ b aw', Hp aw0 own ro aw' ((b, ⟨zeros [.int .i64 0, nil3] n, 43, 2, true, 0⟩) :: l) → Q (Sl b 0) aw') : CallP prog 55 [nil3, .int .i64 (n : Int)] aw sh55 Q E := by
  refine F55_ok _ _ aw ?_
  unfold S55_0
  refine cnd_0x (by simp) (scap_x (by unfold UNK; omega) (slen_x ?_))
  have e : IntKind.i64.wrap ((n : Int) - IntKind.i64.wrap (((0 : Nat) : Int) - ((0 : Nat) : Int))) = (n : Int) := by
    rw [show IntKind.i64.wrap (((0 : Nat) : Int) - ((0 : Nat) : Int)) = 0 from rfl, Int.sub_zero, i64_nat (by omega)]
  rw [e]
  refine cnd_1x (by simp; omega) (scap_x (by unfold UNK; omega) ⟨_, Cut.nil, ?_⟩)
  refine ⟨none, 0, 0, n, [], _, _, rfl, rfl, h0, .nil, by unfold UNK; omega, by omega, by omega, rfl, rfl, ?_⟩
  have M1 := M.alloc (cs := [] ++ zeros [.int .i64 0, nil3] n) 43 2
  refine slen_x (cutV_x (a := 0) (d := 0) rfl rfl (Nat.le_refl _) (by omega) (M1.im .here) rfl ?_)
  unfold S55_1
  exact hQ _ _ M1
end
end Go.Proofs.Tryd
set_option linter.unusedVariables false
namespace Go.Proofs.Tryd
open Go Go.Am Go.RowKit
variable [SymE]
set_option maxHeartbeats 1000000
section
variable {aw0 aw : AW} {own : List Nat} {ro l : List (Nat × Blk)} {n pb : Nat} {E : List PanicEntry → AW → Prop}
theorem concat2 {Q : Value → AW → Prop} {q : Option Addr} {c : Nat} {cs : List Value} (h0 : 0 < n) (hn : n < 2 ^ 30) (h1 : cs.all one = true) (M : Hp aw0 own ro aw ((pb, ⟨[nil3, .slice q n c], 44, 1, true, 0⟩) :: l))
    (hs : ∀ aw' b B, Hp aw0 own ro aw' ((b, B) :: (pb, ⟨[nil3, .slice q n c], 44, 1, true, 0⟩) :: l) → Src aw' 2 (.slice q n c) n cs)
    (hQ : ∀ b aw', Hp aw0 own ro aw' ((b, ⟨cs, 43, 2, true, 0⟩) :: (pb, ⟨[nil3, .slice q n c], 44, 1, true, 0⟩) :: l) → Q (Sl b n) aw') : CallP prog 32 [.slice (some ⟨pb, 0, none⟩) 2 2] aw sh32 Q E := by
  refine F32_ok _ aw ?_
  unfold S32_0
  refine slen_x ⟨3, ?_⟩
  show S32_1s Q E (S32_1 Q E 2) _ _ _ _ _ aw
  unfold S32_1s
  refine cnd_1x rfl (ixS_x (by omega) (by omega) (ldV_x (M.im .here) (by constructor) (slen_x (cnd_0x rfl ?_))))
  show S32_1s Q E (S32_1 Q E 1) _ _ _ _ _ aw
  unfold S32_1s
  refine cnd_1x rfl (ixS_x (by decide) (by decide) (ldV_x (M.im .here) (by repeat constructor) (slen_x (cnd_0x ?_ ?_))))
  · rw [show IntKind.i64.wrap (0 + ((0 : Nat) : Int)) = 0 from rfl, Int.zero_add, i64_nat (by omega)]; simp
  show S32_1s Q E (S32_1 Q E 0) _ _ _ _ _ aw
  unfold S32_1s
  refine cnd_0x rfl ?_
  rw [show IntKind.i64.wrap (0 + ((0 : Nat) : Int)) = 0 from rfl, Int.zero_add, i64_nat (by omega)]
  refine grow0 M h0 hn fun b aw1 M => slen_x ⟨3, ?_⟩
  show S32_2s Q E (S32_2 Q E 2) _ _ _ _ aw1
  unfold S32_2s
  refine cnd_1x rfl (ixS_x (by omega) (by omega) (ldV_x (M.im (.there .here)) (by constructor) (app_none .nil ?_)))
  show S32_2s Q E (S32_2 Q E 1) _ _ _ _ aw1
  unfold S32_2s
  refine cnd_1x rfl (ixS_x (by decide) (by decide) (ldV_x (M.im (.there .here)) (by repeat constructor) ?_))
  refine app_mv M .here (by simp) (hs _ _ _ M) h1 (by omega) fun b2 aw2 M => ?_
  show S32_2s Q E (S32_2 Q E 0) _ _ _ _ aw2
  unfold S32_2s
  refine cnd_0x rfl ?_
  rw [Nat.zero_add]
  refine hQ b2 aw2 ?_
  simpa using M
end
end Go.Proofs.Tryd
