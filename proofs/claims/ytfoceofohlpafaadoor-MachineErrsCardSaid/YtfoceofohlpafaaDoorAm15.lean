/- Slices that a call owns: append. -/
import Derived.Test.YtfoceofohlpafaaDoorAm14
set_option linter.unusedSimpArgs false
set_option linter.unusedVariables false
set_option linter.unusedSectionVars false
namespace Go.Am
open Go Go.RowKit
variable [SymE]

/-- a slice that a call has made itself: nil, or the whole of a block that is not older than aw0 -/
inductive Own (aw0 aw : AW) (el size : Nat) : Value → Nat → List Value → Prop
  | emp : Own aw0 aw el size (.slice none 0 0) 0 []
  | own {g n : Nat} {cs : List Value} (hg : aw0.next ≤ g) (hl : g < aw.next) (hm : aw.m g = some ⟨cs, el, size, true, 0⟩) (hn : cs.length = n * size) : Own aw0 aw el size (.slice (some ⟨g, 0, none⟩) n UNK) n cs
def blkOf : Value → Option Nat
  | .slice (some a) _ _ => some a.block
  | _ => none
/-- all but the block of v is as it was -/
def Keeps (aw aw' : AW) (v : Value) : Prop := ∀ c, c < aw.next → blkOf v ≠ some c → aw'.m c = aw.m c
theorem getN_whole {aw : AW} {b : Nat} {B : Blk} (hB : aw.m b = some B) : aw.getN b 0 B.cells.length = some B.cells :=
  AW.getN_of fun j u hj => by simp [AW.get, hB, hj]
theorem Own.src {aw0 aw : AW} {el size n : Nat} {v : Value} {cs : List Value} (h : Own aw0 aw el size v n cs) : Src aw size v n cs := by
  cases h with
  | emp => exact .nil
  | own hg hl hm hn => exact .slice (by have := getN_whole hm; simp only [hn] at this; exact this)
theorem Own.length {aw0 aw : AW} {el size n : Nat} {v : Value} {cs : List Value} (h : Own aw0 aw el size v n cs) : cs.length = n * size := h.src.length
theorem Own.lenV {aw0 aw : AW} {el size n : Nat} {v : Value} {cs : List Value} (h : Own aw0 aw el size v n cs) : ∃ q c, v = .slice q n c := by
  cases h with
  | emp => exact ⟨_, _, rfl⟩
  | own => exact ⟨_, _, rfl⟩
/-- the memory has changed elsewhere -/
theorem Own.keep {aw0 aw aw' : AW} {el size n : Nat} {v : Value} {cs : List Value} (h : Own aw0 aw el size v n cs) (hn : aw.next ≤ aw'.next) (hk : ∀ c, c < aw.next → blkOf v = some c → aw'.m c = aw.m c) : Own aw0 aw' el size v n cs := by
  cases h with
  | emp => exact .emp
  | own hg hl hm hnn => exact .own hg (by omega) (by rw [hk _ hl rfl]; exact hm) hnn
theorem Own.ext {aw0 aw aw' : AW} {el size n : Nat} {v : Value} {cs : List Value} (h : Own aw0 aw el size v n cs) (he : Ext aw aw') : Own aw0 aw' el size v n cs := h.keep he.next fun c hc _ => he.m c hc
theorem Own.blk {aw0 aw : AW} {el size n : Nat} {v : Value} {cs : List Value} (h : Own aw0 aw el size v n cs) {c : Nat} (hc : blkOf v = some c) : aw0.next ≤ c ∧ c < aw.next := by
  cases h with
  | emp => simp [blkOf] at hc
  | own hg hl hm hn => simp [blkOf] at hc; subst hc; exact ⟨hg, hl⟩
theorem app_own {aw0 aw : AW} {el size bytes n k : Nat} {v xv : Value} {cs xs : List Value} {K : Value → AW → Prop} (h : Own aw0 aw el size v n cs) (he : Ext aw0 aw) (hs : Src aw size xv k xs) (hb : (2 * (n + k) + 768) * bytes ≤ 2 ^ 48) (ho : xs.all one = true)
    (hK : ∀ v' aw', Own aw0 aw' el size v' (n + k) (cs ++ xs) → Ext aw0 aw' → aw.next ≤ aw'.next → Keeps aw aw' v → (∀ c, blkOf v' = some c → blkOf v = some c ∨ aw.next ≤ c) → K v' aw') : app aw el size bytes v xv K := by
  have hxl := hs.length
  by_cases hk : k = 0
  · subst hk
    have hx : xs = [] := List.length_eq_zero_iff.1 (by simpa using hxl)
    subst hx
    obtain ⟨q, c, rfl⟩ := h.lenV
    exact ⟨_, _, .none hs, hK _ _ (by simpa using h) he (Nat.le_refl _) (fun _ _ _ => rfl) (fun c h => .inl h)⟩
  · cases h with
    | emp =>
      refine ⟨_, _, .grows (q := Option.none) (l := 0) (c := 0) .nil hs (by decide) (by omega) hb, hK _ _ ?_ (he.alloc _ _ _) (by simp) (fun c hc _ => AW.alloc_old _ _ _ _ (by omega)) (fun c hc => ?_)⟩
      · exact .own (g := aw.next) (n := 0 + k) he.next (by simp) (AW.alloc_new _ _ _ _) (by simp [hxl])
      · simp [blkOf] at hc; exact .inr (by omega)
    | own hg hl hm hn =>
      rename_i g
      have h0 : aw.getN g 0 (n * size) = some cs := by have := getN_whole hm; simp only [hn] at this; exact this
      refine ⟨_, _, .moves h0 hs (Nat.le_refl _) hm rfl rfl rfl rfl ho hb, hK _ _ ?_ ((he.kill hg).alloc _ _ _) (by simp) (fun c hc hne => ?_) (fun c hc => ?_)⟩
      · exact .own (g := aw.next) he.next (by simp) (AW.alloc_new (aw.kill g) _ _ _) (by simp [hn, hxl, Nat.add_mul])
      · rw [AW.alloc_old _ _ _ _ (by simp; omega), AW.kill_old _ (by simpa [blkOf] using fun e => hne (by simp [blkOf, e]))]
      · simp [blkOf] at hc; exact .inr (by omega)
end Go.Am
