/- Printed by a program of the prover: what the Go functions of this seat do, in steps. -/
import Derived.Test.YtfoceofohlpafaaDoorRkA
import Derived.Test.YtfoceofohlpafaaDoorRkB
import Derived.Test.YtfoceofohlpafaaDoorRkC
import Derived.Test.YtfoceofohlpafaaDoorRkD
namespace Go.Proofs.YtfoceofohlpafaaDoor
open Go.ChangeShapes Go.WideShapes Go.ChangeAt Go.RowKit Go.Am Go.Ri
set_option linter.unusedVariables false
theorem plainOk : okTypes Tryd.prog plainTypes = true := by kernel_rfl
theorem und2 : Tryd.prog.underlying 2 = some (.int .i64) := by kernel_rfl
theorem und5 : Tryd.prog.underlying 5 = some (.int .u8) := by kernel_rfl
theorem reck {W : World} (hL : laidMetH Tryd.prog laidAll W) (a b g : Int) (hg0 : 0 ≤ g) : Calls Tryd.prog 3 #[.int .i64 a, .int .i64 b, .int .u8 g] W fun e w' => e = .returned (.bool true) ∧ Below W.heap.size W w' := by
  have hv : ∀ (E : SymE), E.E 0 = .int .i64 a → E.E 1 = .int .i64 b → E.E 2 = .int .u8 g → @VRs E (inj0 6 W []) [.map (some 0), .map (some 1), .map (some 2)] [.int .i64 a, .int .i64 b, .int .u8 g] := by
    intro E h0 h1 h2
    rw [← h0, ← h1, ← h2]
    exact .cons (.sym 0) (.cons (.sym 1) (.cons (.sym 2) .nil))
  have hs : g.tmod 9 = 0 ∨ g.tmod 9 = 1 ∨ g.tmod 9 = 2 ∨ g.tmod 9 = 3 ∨ g.tmod 9 = 4 ∨ g.tmod 9 = 5 ∨ g.tmod 9 = 6 ∨ g.tmod 9 = 7 ∨ g.tmod 9 = 8 := by
    rw [Int.tmod_eq_emod_of_nonneg hg0]; omega
  rcases hs with h | h | h | h | h | h | h | h | h
  · exact @runM (E0 a b g) W hL F0 (ok0 h) _ _ _ _ _ (hv _ rfl rfl rfl) run0
  · exact @runM (E1 a b g) W hL F1 (ok1 h) _ _ _ _ _ (hv _ rfl rfl rfl) run1
  · exact @runM (E2 a b g) W hL F2 (ok2 h) _ _ _ _ _ (hv _ rfl rfl rfl) run2
  · by_cases c : cutI b = 0
    · exact @runM (E3z a b g) W hL F3z (ok3z h c) _ _ _ _ _ (hv _ rfl rfl rfl) run3z
    · exact @runM (E3n a b g) W hL F3n (ok3n h c) _ _ _ _ _ (hv _ rfl rfl rfl) run3n
  · by_cases c : cutI b = 0
    · exact @runM (E4z a b g) W hL F4z (ok4z h c) _ _ _ _ _ (hv _ rfl rfl rfl) run4z
    · exact @runM (E4n a b g) W hL F4n (ok4n h c) _ _ _ _ _ (hv _ rfl rfl rfl) run4n
  · by_cases c : cutI a = cutI b
    · exact @runM (E5t a b g) W hL F5t (ok5t h c) _ _ _ _ _ (hv _ rfl rfl rfl) run5t
    · exact @runM (E5f a b g) W hL F5f (ok5f h c) _ _ _ _ _ (hv _ rfl rfl rfl) run5f
  · by_cases c : cutI a = cutI b
    · exact @runM (E6t a b g) W hL F6t (ok6t h c) _ _ _ _ _ (hv _ rfl rfl rfl) run6t
    · exact @runM (E6f a b g) W hL F6f (ok6f h c) _ _ _ _ _ (hv _ rfl rfl rfl) run6f
  · by_cases c : cutI a < cutI b
    · exact @runM (E7t a b g) W hL F7t (ok7t h c) _ _ _ _ _ (hv _ rfl rfl rfl) run7t
    · exact @runM (E7f a b g) W hL F7f (ok7f h c) _ _ _ _ _ (hv _ rfl rfl rfl) run7f
  · by_cases c : cutI a ≤ cutI b
    · exact @runM (E8t a b g) W hL F8t (ok8t h c) _ _ _ _ _ (hv _ rfl rfl rfl) run8t
    · exact @runM (E8f a b g) W hL F8f (ok8f h c) _ _ _ _ _ (hv _ rfl rfl rfl) run8f
theorem walkReckons {H : Type} {enc : TypeId × Value → H} {w : World} {vs : List Value} {ds : List (DataW H)} {ps : List MemPlace} (hL : laidMetH Tryd.prog laidAll w) (hA : DataW.TrodAll enc Tryd.prog w 0 (fun _ => true) true [2, 2, 5] vs ds ps)
    (hw : (DataW.weightsEach Tryd.prog [2, 2, 5] ds).all (· ≤ reachBytes) = true) (hv : ∀ (j : Nat) t v, [2, 2, 5][j]? = some t → vs[j]? = some v → ∃ base, Value.okWide Tryd.prog w .any base t v) :
    Calls Tryd.prog 3 vs.toArray w fun e w' => e = .returned (.bool true) ∧ Below w.heap.size w w' := by
  letI : SymE := symOf []
  obtain ⟨s, aw, vs', ha, hvs⟩ := args_in plainOk (by kernel_rfl) hA hw hv
  obtain ⟨v1, r, rfl, h1, ha⟩ := ha.cons
  obtain ⟨v2, r, rfl, h2, ha⟩ := ha.cons
  obtain ⟨v3, r, rfl, h3, ha⟩ := ha.cons
  obtain rfl := ha.nil
  obtain ⟨a, rfl, _⟩ := h1.int und2
  obtain ⟨b, rfl, _⟩ := h2.int und2
  obtain ⟨g, rfl, h0, _⟩ := h3.int und5
  cases hvs with
  | cons e1 t =>
    cases t with
    | cons e2 t =>
      cases t with
      | cons e3 t =>
        cases t
        obtain rfl := e1.int_inv
        obtain rfl := e2.int_inv
        obtain rfl := e3.int_inv
        exact reck hL a b g h0
end Go.Proofs.YtfoceofohlpafaaDoor
