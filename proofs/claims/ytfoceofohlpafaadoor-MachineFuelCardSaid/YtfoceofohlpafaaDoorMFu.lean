/- MachineFuel: from the row's world. -/
import Derived.Test.YtfoceofohlpafaaDoorMK2
import Derived.Test.YtfoceofohlpafaaDoorMz7
import Derived.Test.YtfoceofohlpafaaDoorL3
set_option linter.unusedSectionVars false
set_option linter.unusedSimpArgs false
namespace Go.Proofs.YtfoceofohlpafaaDoor
open Go.ChangeShapes Go.WideShapes Go.ChangeAt Go.RowKit Go.Am Go.Ri
set_option linter.unusedVariables false
theorem u16Ok : okTypes Tryd.prog [38] = true := by kernel_rfl
theorem und38 : Tryd.prog.underlying 38 = some (.int .u16) := by kernel_rfl
theorem fuelC {W : World} (hL : laidMetH Tryd.prog laidAll W) (n f : Int) (hn : 0 ≤ n) (hn2 : n ≤ 65535) (hf : 0 ≤ f) (hf2 : f ≤ 65535) : Calls Tryd.prog 4 #[.int .u16 n, .int .u16 f] W fun e w' => e = .returned (.bool true) ∧ Below W.heap.size W w' := by
  obtain ⟨kk, hk⟩ : ∃ kk : Nat, n % 1500 = (kk : Int) := ⟨(n % 1500).toNat, by omega⟩
  obtain ⟨ff, hff⟩ : ∃ ff : Nat, f % 2000 = (ff : Int) := ⟨(f % 2000).toNat, by omega⟩
  letI : SymE := symOf [(.i64, (kk : Int))]
  obtain ⟨t1, t2, aw, hr, hM, h6, hro⟩ := start_at hL
  have e1 : Int.tmod (IntKind.i64.wrap n) 1500 = (kk : Int) := by rw [i64_in (by omega) (by omega), Int.tmod_eq_emod_of_nonneg hn]; exact hk
  have e2 : Int.tmod (IntKind.i64.wrap f) 2000 = (ff : Int) := by rw [i64_in (by omega) (by omega), Int.tmod_eq_emod_of_nonneg hf]; exact hff
  have := fuel_x (E := fun _ _ => False) hM (n := n) (fu := f) (kk := kk) (ff := ff) rfl e1 e2 (by omega) (by omega)
  exact calls_true (args' := [.int .u16 n, .int .u16 f]) (fun b => rfl) this (by rw [gsz]; exact hr) (.cons (.int _ _) (.cons (.int _ _) .nil))
theorem walkFuel {H : Type} {enc : TypeId × Value → H} {w : World} {vs : List Value} {ds : List (DataW H)} {ps : List MemPlace} (hL : laidMetH Tryd.prog laidAll w) (hA : DataW.TrodAll enc Tryd.prog w 0 (fun _ => true) true [38, 38] vs ds ps)
    (hw : (DataW.weightsEach Tryd.prog [38, 38] ds).all (· ≤ reachBytes) = true) (hv : ∀ (j : Nat) t v, [38, 38][j]? = some t → vs[j]? = some v → ∃ base, Value.okWide Tryd.prog w .any base t v) :
    Calls Tryd.prog 4 vs.toArray w fun e w' => e = .returned (.bool true) ∧ Below w.heap.size w w' := by
  letI : SymE := symOf []
  obtain ⟨t1, t2, s, aw, vs', _, _, ha, hvs⟩ := args_at u16Ok hL (by kernel_rfl) hA hw hv
  obtain ⟨v1, r, rfl, h1, ha⟩ := ha.cons
  obtain ⟨v2, r, rfl, h2, ha⟩ := ha.cons
  obtain rfl := ha.nil
  obtain ⟨a, rfl, a1, a2⟩ := h1.int und38
  obtain ⟨b, rfl, b1, b2⟩ := h2.int und38
  cases hvs with
  | cons e1 t =>
    cases t with
    | cons e2 t =>
      cases t
      obtain rfl := e1.int_inv
      obtain rfl := e2.int_inv
      exact fuelC hL a b a1 a2 b1 b2
end Go.Proofs.YtfoceofohlpafaaDoor
