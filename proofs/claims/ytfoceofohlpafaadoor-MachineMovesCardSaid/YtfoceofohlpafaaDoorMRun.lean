/- machine: awake() is true. -/
import Derived.Test.YtfoceofohlpafaaDoorMTl
import Derived.Test.YtfoceofohlpafaaDoorL3
import Derived.Test.YtfoceofohlpafaaDoorMz6
set_option linter.unusedSimpArgs false
namespace Go.Proofs.YtfoceofohlpafaaDoor
open Go Go.Am Go.Ri
set_option linter.unusedVariables false
set_option linter.unusedSectionVars false
set_option maxRecDepth 1000000
noncomputable def takesC : List Value := (dCells 5 (Rows.laid_battledore_code_takes (H := Unit))).getD []
noncomputable def leavesC : List Value := (dCells 5 (Rows.laid_battledore_code_leaves (H := Unit))).getD []
noncomputable def GR (t1 t2 : TypeId) : List (Nat × List Value × TypeId × Nat) := [(1, takesC, t1, 0), (2, leavesC, t2, 0)]
theorem awM (t1 t2 : TypeId) : retW (@callN ftW Tryd.prog X0 tab 200 60 11 [] (memR 6 (GR t1 t2))) = true := by kernel_rfl
theorem gsz : Tryd.prog.globals.size = 6 := by kernel_rfl
theorem hX0 : ExtOk Tryd.prog X0 := fun g => ⟨(fun h => by cases h), (fun h => by cases h)⟩
theorem hmix : Tryd.prog.follows .mixedOrders = true := by kernel_rfl
theorem plT : plains takesC = true := by kernel_rfl
theorem plL : plains leavesC = true := by kernel_rfl
section
variable [SymE]
theorem rnX_plain {ren : Nat → Nat} {v : Value} (h : plain v = true) : rnX ren v = v := by
  unfold rnX
  split
  · cases h
  · unfold rnV
    split
    · cases h
    · cases h
    · rfl
theorem rnX_plains {ren : Nat → Nat} : ∀ {l : List Value}, plains l = true → l.map (rnX ren) = l
  | [], _ => rfl
  | v :: l, h => by
    simp only [plains, Bool.and_eq_true] at h
    simp only [List.map_cons, rnX_plain h.1, rnX_plains h.2]
theorem okX_plain {n : Nat} {v : Value} (h : plain v = true) : okX n v = true := by
  unfold okX
  split
  · rfl
  · unfold okV
    split
    · cases h
    · cases h
    · cases h
    · cases h
    · exact h
theorem okX_plains {n : Nat} : ∀ {l : List Value}, plains l = true → l.all (okX n) = true
  | [], _ => rfl
  | v :: l, h => by
    simp only [plains, Bool.and_eq_true] at h
    simp only [List.all_cons, okX_plain h.1, okX_plains h.2, Bool.and_true]
noncomputable abbrev ro0 (t1 t2 : TypeId) : List (Nat × Blk) := [(1, ⟨takesC, t1, 0, false, 0⟩), (2, ⟨leavesC, t2, 0, false, 0⟩)]
variable {aw0 aw : AW} {own : List Nat} {l : List (Nat × Blk)} {t1 t2 : TypeId} {E : List PanicEntry → AW → Prop}
theorem gr_as {nx : Nat} {ren : Nat → Nat} (hnx : 6 ≤ nx) (h1 : ren 1 = 1) (h2 : ren 2 = 2) (M : Hp aw0 own (ro0 t1 t2) aw l) : ∀ p ∈ GR t1 t2, AsX nx ren aw p := by
  intro p hp
  simp only [GR, List.mem_cons, List.not_mem_nil, or_false] at hp
  rcases hp with rfl | rfl
  · exact ⟨by show 1 < nx; omega, okX_plains plT, [], false, 0, by rw [show ren (1, takesC, t1, 0).1 = 1 from h1, rnX_plains plT, List.append_nil]; exact M.r .here, fun _ => rfl⟩
  · exact ⟨by show 2 < nx; omega, okX_plains plL, [], false, 0, by rw [show ren (2, leavesC, t2, 0).1 = 2 from h2, rnX_plains plL, List.append_nil]; exact M.r (.there .here), fun _ => rfl⟩
theorem awk_x {Q : Bool → AW → Prop} (M : Hp aw0 own (ro0 t1 t2) aw l) (h : Q true aw) : CallP Tryd.prog 11 [] aw Tryd.sh11 Q E := by
  letI : FT := ftW
  haveI : FTok := ftWok
  obtain ⟨M', hM⟩ := retW_some (awM t1 t2)
  exact run_renX (ren := fun b => b) hX0 hmix hM (by rw [gsz]; exact Nat.le_refl _) (fun _ _ => rfl) (gr_as (Nat.le_refl _) rfl rfl M) rfl rfl rfl (r := true) rfl h
end
end Go.Proofs.YtfoceofohlpafaaDoor
