/- The machine's laws: from the row's world to what is called, with the powers of ten in memory. -/
import Derived.Test.YtfoceofohlpafaaDoorMK2
import Derived.Test.YtfoceofohlpafaaDoorMv1
set_option linter.unusedVariables false
set_option linter.unusedSimpArgs false
set_option linter.unusedSectionVars false
set_option maxRecDepth 100000
namespace Go.Proofs.YtfoceofohlpafaaDoor
open Go.ChangeShapes Go.WideShapes Go.ChangeAt Go.RowKit Go.Am Go.Ri
noncomputable abbrev ro3 (t1 t2 t3 : TypeId) : List (Nat × Blk) := [(1, ⟨takesC, t1, 0, false, 0⟩), (2, ⟨leavesC, t2, 0, false, 0⟩), (3, ⟨Tryd.powC, t3, 0, false, 0⟩)]
theorem _root_.Go.Am.Hp.less [SymE] {aw0 aw : AW} {own : List Nat} {ro ro' l : List (Nat × Blk)} (M : Hp aw0 own ro aw l) (h : ∀ p ∈ ro', p ∈ ro) : Hp aw0 own ro' aw l := { M with ro_ := fun p hp => M.ro_ p (h p hp) }
theorem less3 [SymE] {aw0 aw : AW} {own : List Nat} {l : List (Nat × Blk)} {t1 t2 t3 : TypeId} (M : Hp aw0 own (ro3 t1 t2 t3) aw l) : Hp aw0 own (ro0 t1 t2) aw l := M.less fun p hp => by
  simp only [ro0, ro3, List.mem_cons, List.not_mem_nil, or_false] at hp ⊢
  rcases hp with h | h <;> simp [h]
theorem plP : plains Tryd.powC = true := by kernel_rfl
theorem start_at3 [SymE] {W : World} (hL : laidMetH Tryd.prog laidAll W) : ∃ t1 t2 t3 aw, Rel 6 (· < W.heap.size) W (inj0 6 W []) aw W ∧ Hp aw [] (ro3 t1 t2 t3) aw [] ∧ 6 ≤ aw.next ∧ aw.ro := by
  have hL' : laidMet Tryd.prog laidAll W := by
    rw [MakeChecks.laidMetH_plain _ _ _ (by kernel_rfl)] at hL; exact hL
  obtain ⟨ps, hl, _, _⟩ := hL'
  obtain ⟨t1, cs1, fz1, a1, b1⟩ := laid_cells hl (n := "battledore/code.takes") (d := Rows.laid_battledore_code_takes) (by simp [laidAll]) (g := 1) (t := 143) (m := 5) (cells := takesC) (by kernel_rfl) (by kernel_rfl) (by kernel_rfl)
  obtain ⟨t2, cs2, fz2, a2, b2⟩ := laid_cells hl (n := "battledore/code.leaves") (d := Rows.laid_battledore_code_leaves) (by simp [laidAll]) (g := 2) (t := 143) (m := 5) (cells := leavesC) (by kernel_rfl) (by kernel_rfl) (by kernel_rfl)
  obtain ⟨t3, cs3, fz3, a3, b3⟩ := laid_cells hl (n := "internal/strconv.uint64pow10") (d := Rows.laid_internal_strconv_uint64pow10) (by simp [laidAll]) (g := 3) (t := 162) (m := 5) (cells := Tryd.powC) (by kernel_rfl) (by kernel_rfl) (by kernel_rfl)
  have key : ∀ {l : List Value} {cs : Array Value} {i : Nat} {v : Value}, cs.toList = l → plains l = true → l[i]? = some v → ∃ v', cs[0 + i]? = some v' ∧ VR (inj0 6 W []) v v' := by
    intro l cs i v hc hp hv
    refine ⟨v, by rw [Nat.zero_add, ← hv, ← hc]; simp, VR.ofPlain ?_⟩
    have k : ∀ (l : List Value) (i : Nat), plains l = true → l[i]? = some v → plain v = true := by
      intro l
      induction l with
      | nil => intro i _ h; simp at h
      | cons x l ih =>
        intro i hp h
        simp only [plains, Bool.and_eq_true] at hp
        cases i with
        | zero => simp at h; subst h; exact hp.1
        | succ i => exact ih i hp.2 (by simpa using h)
    exact k l i hp hv
  have len : ∀ {l : List Value} {cs : Array Value}, cs.toList = l → cs.size = l.length := fun h => by rw [← h]; simp
  have r0 := rel_start 6 W []
  have ro_ : AW.ro ⟨fun _ => none, 6⟩ := fun c C h => by cases h
  have r1 := r0.lay ro_ (b := 1) (e := ⟨1, 0, csz W 1, 0⟩) (by simp [inj0]) (cells := takesC) (esz := 0) a1 (by simp [csz, a1]) (by simp [csz, a1, len b1]) rfl (fun _ => ⟨rfl, by simp [csz, a1, len b1]⟩) (fun i v hv => key b1 plT hv)
  have ro1 := ro_.lay_ro' (b := 1) (B := ⟨takesC, t1, 0, false, 0⟩) rfl
  have r2 := r1.lay ro1 (b := 2) (e := ⟨2, 0, csz W 2, 0⟩) (by simp [inj0]) (cells := leavesC) (esz := 0) a2 (by simp [csz, a2]) (by simp [csz, a2, len b2]) rfl (fun _ => ⟨rfl, by simp [csz, a2, len b2]⟩) (fun i v hv => key b2 plL hv)
  have ro2 := ro1.lay_ro' (b := 2) (B := ⟨leavesC, t2, 0, false, 0⟩) rfl
  have r3 := r2.lay ro2 (b := 3) (e := ⟨3, 0, csz W 3, 0⟩) (by simp [inj0]) (cells := Tryd.powC) (esz := 0) a3 (by simp [csz, a3]) (by simp [csz, a3, len b3]) rfl (fun _ => ⟨rfl, by simp [csz, a3, len b3]⟩) (fun i v hv => key b3 plP hv)
  have ro3_ := ro2.lay_ro' (b := 3) (B := ⟨Tryd.powC, t3, 0, false, 0⟩) rfl
  refine ⟨t1, t2, t3, _, r3, ?_, Nat.le_refl _, ro3_⟩
  refine Hp.init (l := []) List.nodup_nil (fun p hp => by cases hp) fun p hp => ?_
  simp only [ro3, List.mem_cons, List.not_mem_nil, or_false] at hp
  rcases hp with rfl | rfl | rfl
  · exact ⟨by simp [AW.lay], by show 1 < 6; decide, by simp⟩
  · exact ⟨by simp [AW.lay], by show 2 < 6; decide, by simp⟩
  · exact ⟨by simp [AW.lay], by show 3 < 6; decide, by simp⟩
end Go.Proofs.YtfoceofohlpafaaDoor
