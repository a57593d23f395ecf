/- machine: two numbers and a sign. -/
import Derived.Test.YtfoceofohlpafaaDoorMx7
set_option linter.unusedSectionVars false
set_option linter.unusedSimpArgs false
set_option linter.unusedVariables false
namespace Go.Proofs.Tryd
open Go Go.Am Go.RowKit
variable [SymE]
set_option maxHeartbeats 1000000
section
variable {aw0 aw : AW} {own : List Nat} {ro l : List (Nat × Blk)} {m : Nat} {h fu gl sk fr tr ad bu mo : Value} {fuel space most : Int} {E : List PanicEntry → AW → Prop} {a b : Nat} {sign : Int}
theorem alike_num {Q : Bool → AW → Prop} (M : Hp aw0 own ro aw ((m, MB h fu gl sk fr tr fuel space most ad bu mo) :: l)) (h0 : 0 < fuel) (h1 : fuel < 2 ^ 60) (ha : a % 2 = 1) (ha' : a < 2 ^ 64)
    (hQ : ∀ aw', Hp aw0 own ro aw' ((m, MB h fu gl sk fr tr (fuel - 1) space most ad bu mo) :: l) → Q (decide (a = b)) aw') : CallP prog 90 [Pt m, W a, W b] aw sh90 Q E := by
  refine F90_ok _ _ _ aw ?_
  unfold S90_0
  refine step_x M h0 h1 fun aw1 M1 => isnum_x (by omega) (by omega) (cnd_1x (by simp; omega) ?_)
  unfold S90_1
  refine cnd_1x rfl ?_
  have := hQ aw1 M1
  rw [show decide ((a : Int) = (b : Int)) = decide (a = b) from by rw [decide_eq_decide]; omega]
  exact this
def rk (sign : Int) (a b : Nat) : Int :=
  if sign = 0 then IntKind.i64.wrap (Nw a + Nw b) else if sign = 1 then IntKind.i64.wrap (Nw a - Nw b) else if sign = 2 then IntKind.i64.wrap (Nw a * Nw b)
  else if sign = 3 then IntKind.i64.wrap (Int.tdiv (Nw a) (Nw b)) else if sign = 4 then Int.tmod (Nw a) (Nw b)
  else if sign = 5 then (if a = b then 1 else 0) else if sign = 6 then (if a = b then 0 else 1) else if sign = 7 then (if Nw a < Nw b then 1 else 0) else (if Nw a ≤ Nw b then 1 else 0)
def rkFuel (sign : Int) (fuel : Int) : Int := if sign = 5 ∨ sign = 6 then fuel - 1 else fuel
theorem reckon_x {Q : Int → AW → Prop} (M : Hp aw0 own ro aw ((m, MB h fu gl sk fr tr fuel space most ad bu mo) :: l)) (h0 : sign = 5 ∨ sign = 6 → 0 < fuel) (h1 : fuel < 2 ^ 60) (ha : a % 2 = 1) (ha' : a < 2 ^ 64) (hs : 0 ≤ sign) (hs8 : sign ≤ 8)
    (hd : sign = 3 ∨ sign = 4 → Nw b ≠ 0) (hQ : ∀ aw', Hp aw0 own ro aw' ((m, MB h fu gl sk fr tr (rkFuel sign fuel) space most ad bu mo) :: l) → Q ((WN (rk sign a b) : Nat) : Int) aw') :
    CallP prog 84 [Pt m, .int .i64 sign, W a, W b] aw sh84 Q E := by
  refine F84_ok _ _ _ _ aw ?_
  unfold S84_0
  refine n_x _ (n_x _ ?_)
  have hc : sign = 0 ∨ sign = 1 ∨ sign = 2 ∨ sign = 3 ∨ sign = 4 ∨ sign = 5 ∨ sign = 6 ∨ sign = 7 ∨ sign = 8 := by omega
  rcases hc with rfl | rfl | rfl | rfl | rfl | rfl | rfl | rfl | rfl
  · exact cnd_1x rfl (num_x _ (by rw [Wn_nat]; exact hQ aw M))
  · exact cnd_0x rfl (cnd_1x rfl (num_x _ (by rw [Wn_nat]; exact hQ aw M)))
  · exact cnd_0x rfl (cnd_0x rfl (cnd_1x rfl (num_x _ (by rw [Wn_nat]; exact hQ aw M))))
  · refine cnd_0x rfl (cnd_0x rfl (cnd_0x rfl (cnd_1x rfl ?_)))
    unfold S84_1
    exact cnd_1x rfl (cnd_0x (by simpa using hd (.inl rfl)) (cnd_1x rfl ⟨hd (.inl rfl), num_x _ (by rw [Wn_nat]; exact hQ aw M)⟩))
  · refine cnd_0x rfl (cnd_0x rfl (cnd_0x rfl (cnd_0x rfl ?_)))
    unfold S84_1
    exact cnd_1x rfl (cnd_0x (by simpa using hd (.inr rfl)) (cnd_0x rfl ⟨hd (.inr rfl), num_x _ (by rw [Wn_nat]; exact hQ aw M)⟩))
  · refine cnd_0x rfl (cnd_0x rfl (cnd_0x rfl (cnd_0x rfl ?_)))
    unfold S84_1
    refine cnd_0x rfl (cnd_1x rfl (alike_num M (h0 (.inl rfl)) h1 ha ha' fun aw1 M1 => yes_x ?_))
    have := hQ aw1 M1
    by_cases hab : a = b <;> simpa [rk, hab] using this
  · refine cnd_0x rfl (cnd_0x rfl (cnd_0x rfl (cnd_0x rfl ?_)))
    unfold S84_1
    refine cnd_0x rfl (cnd_0x rfl (cnd_1x rfl (alike_num M (h0 (.inr rfl)) h1 ha ha' fun aw1 M1 => yes_x ?_)))
    have := hQ aw1 M1
    by_cases hab : a = b <;> simpa [rk, hab] using this
  · refine cnd_0x rfl (cnd_0x rfl (cnd_0x rfl (cnd_0x rfl ?_)))
    unfold S84_1
    refine cnd_0x rfl (cnd_0x rfl (cnd_0x rfl (cnd_1x rfl (yes_x ?_))))
    have := hQ aw M
    by_cases hab : Nw a < Nw b <;> simpa [rk, hab] using this
  · refine cnd_0x rfl (cnd_0x rfl (cnd_0x rfl (cnd_0x rfl ?_)))
    unfold S84_1
    refine cnd_0x rfl (cnd_0x rfl (cnd_0x rfl (cnd_0x rfl (yes_x ?_))))
    have := hQ aw M
    by_cases hab : Nw a ≤ Nw b <;> simpa [rk, hab] using this
end
end Go.Proofs.Tryd
