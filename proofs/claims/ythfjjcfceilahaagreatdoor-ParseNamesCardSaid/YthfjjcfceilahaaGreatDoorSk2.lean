/- What slices.Compact leaves of a sorted list is shorter, just when something is there twice. -/
import Derived.Test.YthfjjcfceilahaaGreatDoorSk1
set_option linter.unusedSectionVars false
set_option linter.unusedSimpArgs false
set_option linter.unusedVariables false
namespace Go.Ri
open Go Go.Lib
abbrev srt (ss : List (List UInt8)) : List (List UInt8) := ss.mergeSort fun x y => decide (x ≤ y)
theorem srt_pair (ss : List (List UInt8)) : (srt ss).Pairwise fun x y => x ≤ y := by
  have h := List.pairwise_mergeSort (le := fun x y : List UInt8 => decide (x ≤ y)) (fun a b c h1 h2 => by simp only [decide_eq_true_eq] at h1 h2 ⊢; exact List.le_trans h1 h2) (fun a b => by simp only [Bool.or_eq_true, decide_eq_true_eq]; exact List.le_total a b) ss
  refine h.imp fun hh => ?_
  simpa using hh
theorem nodup_adj : ∀ {l : List (List UInt8)}, (l.Pairwise fun x y => x ≤ y) → (∀ i, i + 1 < l.length → l[i]? ≠ l[i + 1]?) → l.Nodup
  | [], _, _ => List.nodup_nil
  | [x], _, _ => by simp
  | x :: y :: l, hp, ha => by
    have h1 := List.pairwise_cons.1 hp
    have h2 := List.pairwise_cons.1 h1.2
    have ih := nodup_adj (l := y :: l) h1.2 fun i hi => by
      have := ha (i + 1) (by simp at hi ⊢; omega)
      simpa using this
    refine List.nodup_cons.2 ⟨fun hx => ?_, ih⟩
    have hxy : x ≠ y := by
      have := ha 0 (by simp)
      simpa using this
    rcases List.mem_cons.1 hx with e | hx
    · exact hxy e
    · have a := h1.1 y (by simp)
      have b := h2.1 x hx
      exact hxy (List.le_antisymm a b)
theorem compact_lt (ss : List (List UInt8)) : decide ((compact (srt ss)).length < ss.length) = decide (¬ ss.Nodup) := by
  have hl : (srt ss).length = ss.length := List.length_mergeSort ss
  have hp : (srt ss).Perm ss := List.mergeSort_perm ss _
  rw [decide_eq_decide]
  constructor
  · intro h hn
    have hn2 : (srt ss).Nodup := hp.nodup_iff.2 hn
    have : compact (srt ss) = srt ss := compact_all _ fun j hj => by
      rcases Nat.eq_zero_or_pos j with rfl | h0
      · exact keeps_lt_one _ 0 (by decide)
      · refine keeps_pos fun e => ?_
        rw [getElem!_pos _ j (by simpa using hj), getElem!_pos _ (j - 1) (by simp; omega)] at e
        exact List.pairwise_iff_getElem.1 hn2 (j - 1) j (by omega) hj (by omega) (by simpa using e.symm)
    rw [this] at h
    omega
  · intro hn
    have hn2 : ¬ (srt ss).Nodup := fun h => hn (hp.nodup_iff.1 h)
    have hex : ∃ i, i + 1 < (srt ss).length ∧ (srt ss)[i]? = (srt ss)[i + 1]? := by
      refine Classical.byContradiction fun hc => hn2 (nodup_adj (srt_pair ss) fun i hi he => hc ⟨i, hi, he⟩)
    obtain ⟨i, hi, he⟩ := hex
    have hk : keeps (srt ss).toArray (i + 1) = false := keeps_neg (by omega) (by
      rw [getElem!_pos _ (i + 1) (by simpa using hi), getElem!_pos _ (i + 1 - 1) (by simp; omega)]
      rw [List.getElem?_eq_getElem (by omega), List.getElem?_eq_getElem hi] at he
      simpa using (Option.some.inj he).symm)
    have key : ∀ (d : Array (List UInt8)) m, (compactUpTo d m).length ≤ m ∧ (∀ j, j < m → keeps d j = false → (compactUpTo d m).length < m) := by
      intro d m
      induction m with
      | zero => exact ⟨by simp [compactUpTo], fun j hj => by omega⟩
      | succ m ih =>
        rw [compactUpTo_succ]
        refine ⟨?_, fun j hj hkj => ?_⟩
        · rw [List.length_append]
          split <;> simp <;> omega
        · rcases Nat.lt_or_ge j m with h | h
          · have := ih.2 j h hkj
            rw [List.length_append]
            split <;> simp <;> omega
          · obtain rfl : j = m := by omega
            rw [hkj]
            have := ih.1
            simp
            omega
    rw [← hl]
    exact (key _ _).2 (i + 1) hi hk
end Go.Ri
