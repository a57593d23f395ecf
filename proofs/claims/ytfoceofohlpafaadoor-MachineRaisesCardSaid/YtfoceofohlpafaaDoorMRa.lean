/- MachineRaises: from the row's world. -/
import Derived.Test.YtfoceofohlpafaaDoorMK2
import Derived.Test.YtfoceofohlpafaaDoorMu1
import Derived.Test.YtfoceofohlpafaaDoorL3
set_option linter.unusedSectionVars false
set_option linter.unusedSimpArgs false
namespace Go.Proofs.YtfoceofohlpafaaDoor
open Go.ChangeShapes Go.WideShapes Go.ChangeAt Go.RowKit Go.Am Go.Ri
set_option linter.unusedVariables false
theorem raOk : okTypes Tryd.prog [9, 5, 2] = true := by kernel_rfl
theorem und9 : Tryd.prog.underlying 9 = some .string := by kernel_rfl
theorem und5 : Tryd.prog.underlying 5 = some (.int .u8) := by kernel_rfl
theorem und2 : Tryd.prog.underlying 2 = some (.int .i64) := by kernel_rfl
@[reducible] def symR (n : Int) (s : ByteArray) : SymE := ⟨fun i => if i = 0 then .int .i64 n else .string s, fun i => by
  by_cases h : i = 0
  · exact .inl ⟨.i64, n, by rw [if_pos h]⟩
  · exact .inr ⟨s, by rw [if_neg h]⟩⟩
theorem raisesC {W : World} (hL : laidMetH Tryd.prog laidAll W) (s : ByteArray) (d n : Int) (hd : 0 ≤ d) (hd2 : d ≤ 255) : Calls Tryd.prog 8 #[.string s, .int .u8 d, .int .i64 n] W fun e w' => e = .returned (.bool true) ∧ Below W.heap.size W w' := by
  letI : SymE := symR n s
  obtain ⟨t1, t2, aw, hr, hM, h6, hro⟩ := start_at hL
  have := raises_x (E := fun _ _ => False) (s := s) (n := n) (deep := d) rfl rfl hd (by omega) hM
  exact calls_true (args' := [.string s, .int .u8 d, .int .i64 n]) (fun b => rfl) this (by rw [gsz]; exact hr) (.cons (.string _) (.cons (.int _ _) (.cons (.int _ _) .nil)))
theorem walkRaises {H : Type} {enc : TypeId × Value → H} {w : World} {vs : List Value} {ds : List (DataW H)} {ps : List MemPlace} (hL : laidMetH Tryd.prog laidAll w) (hA : DataW.TrodAll enc Tryd.prog w 0 (fun _ => true) true [9, 5, 2] vs ds ps)
    (hw : (DataW.weightsEach Tryd.prog [9, 5, 2] ds).all (· ≤ reachBytes) = true) (hv : ∀ (j : Nat) t v, [9, 5, 2][j]? = some t → vs[j]? = some v → ∃ base, Value.okWide Tryd.prog w .any base t v) :
    Calls Tryd.prog 8 vs.toArray w fun e w' => e = .returned (.bool true) ∧ Below w.heap.size w w' := by
  letI : SymE := symOf []
  obtain ⟨t1, t2, s, aw, vs', _, _, ha, hvs⟩ := args_at raOk hL (by kernel_rfl) hA hw hv
  obtain ⟨v1, r, rfl, h1, ha⟩ := ha.cons
  obtain ⟨v2, r, rfl, h2, ha⟩ := ha.cons
  obtain ⟨v3, r, rfl, h3, ha⟩ := ha.cons
  obtain rfl := ha.nil
  obtain ⟨a, rfl, _⟩ := h1.str und9
  obtain ⟨b, rfl, b1, b2⟩ := h2.int und5
  obtain ⟨c, rfl, c1, c2⟩ := h3.int und2
  cases hvs with
  | cons e1 t =>
    cases t with
    | cons e2 t =>
      cases t with
      | cons e3 t =>
        cases t
        cases e1
        obtain rfl := e2.int_inv
        obtain rfl := e3.int_inv
        exact raisesC hL _ b c b1 b2
end Go.Proofs.YtfoceofohlpafaaDoor
