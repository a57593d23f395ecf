/- MachineTexts: from the row's world. -/
import Derived.Test.YtfoceofohlpafaaDoorMK2
import Derived.Test.YtfoceofohlpafaaDoorMt10
import Derived.Test.YtfoceofohlpafaaDoorL3
set_option linter.unusedSectionVars false
set_option linter.unusedSimpArgs false
namespace Go.Proofs.YtfoceofohlpafaaDoor
open Go.ChangeShapes Go.WideShapes Go.ChangeAt Go.RowKit Go.Am Go.Ri
set_option linter.unusedVariables false
theorem strOk : okTypes Tryd.prog [9] = true := by kernel_rfl
theorem und9 : Tryd.prog.underlying 9 = some .string := by kernel_rfl
@[reducible] def symT (a b : ByteArray) : SymE := ⟨fun i => .string (if i = 0 then a else b), fun i => .inr ⟨_, rfl⟩⟩
theorem textsC {W : World} (hL : laidMetH Tryd.prog laidAll W) (a b : ByteArray) : Calls Tryd.prog 6 #[.string a, .string b] W fun e w' => e = .returned (.bool true) ∧ Below W.heap.size W w' := by
  letI : SymE := symT a b
  obtain ⟨t1, t2, aw, hr, hM, h6, hro⟩ := start_at hL
  have := texts_x (E := fun _ _ => False) (a := a) (b := b) rfl rfl hM
  exact calls_true (args' := [.string a, .string b]) (fun b => rfl) this (by rw [gsz]; exact hr) (.cons (.string _) (.cons (.string _) .nil))
theorem walkTexts {H : Type} {enc : TypeId × Value → H} {w : World} {vs : List Value} {ds : List (DataW H)} {ps : List MemPlace} (hL : laidMetH Tryd.prog laidAll w) (hA : DataW.TrodAll enc Tryd.prog w 0 (fun _ => true) true [9, 9] vs ds ps)
    (hw : (DataW.weightsEach Tryd.prog [9, 9] ds).all (· ≤ reachBytes) = true) (hv : ∀ (j : Nat) t v, [9, 9][j]? = some t → vs[j]? = some v → ∃ base, Value.okWide Tryd.prog w .any base t v) :
    Calls Tryd.prog 6 vs.toArray w fun e w' => e = .returned (.bool true) ∧ Below w.heap.size w w' := by
  letI : SymE := symW
  obtain ⟨t1, t2, s, aw, vs', _, _, ha, hvs⟩ := args_at strOk hL (by kernel_rfl) hA hw hv
  obtain ⟨v1, r, rfl, h1, ha⟩ := ha.cons
  obtain ⟨v2, r, rfl, h2, ha⟩ := ha.cons
  obtain rfl := ha.nil
  obtain ⟨a, rfl, _⟩ := h1.str und9
  obtain ⟨b, rfl, _⟩ := h2.str und9
  cases hvs with
  | cons e1 t =>
    cases t with
    | cons e2 t =>
      cases t
      cases e1
      cases e2
      exact textsC hL _ _
end Go.Proofs.YtfoceofohlpafaaDoor
