/- Printed by a program of the prover: what the Go functions of this seat do, in steps. -/
import Derived.Test.YtfoceofohlpafaaDoorEkA
import Derived.Test.YtfoceofohlpafaaDoorEkB
import Derived.Test.YtfoceofohlpafaaDoorEkC
import Derived.Test.YtfoceofohlpafaaDoorEkD
namespace Go.Proofs.YtfoceofohlpafaaDoor
open Go.ChangeShapes Go.WideShapes Go.ChangeAt Go.RowKit Go.Am Go.Ri
set_option linter.unusedVariables false
theorem plainOk : okTypes Tryd.prog plainTypes = true := by kernel_rfl
theorem und3 : Tryd.prog.underlying 3 = some (.int .i64) := by kernel_rfl
theorem und25 : Tryd.prog.underlying 25 = some (.int .u64) := by kernel_rfl
theorem errs {W : World} (hL : laidMetH Tryd.prog laidAll W) (x y z w : Int) (w0 : 0 ≤ w) (w1 : w < 18446744073709551616) : Calls Tryd.prog 10 #[.int .i64 x, .int .i64 y, .int .i64 z, .int .u64 w] W fun e w' => e = .returned (.bool true) ∧ Below W.heap.size W w' := by
  have hv : ∀ (E : SymE), E.E 0 = .int .i64 x → E.E 1 = .int .i64 y → E.E 2 = .int .i64 z → E.E 3 = .int .u64 w → @VRs E (inj0 6 W []) [.map (some 0), .map (some 1), .map (some 2), .map (some 3)] [.int .i64 x, .int .i64 y, .int .i64 z, .int .u64 w] := by
    intro E h0 h1 h2 h3
    rw [← h0, ← h1, ← h2, ← h3]
    exact .cons (.sym 0) (.cons (.sym 1) (.cons (.sym 2) (.cons (.sym 3) .nil)))
  have hv0 : ∀ (E : SymE), E.E 1 = .int .i64 y → E.E 2 = .int .i64 z → E.E 3 = .int .u64 w → @VRs E (inj0 6 W []) [.int .i64 0, .map (some 1), .map (some 2), .map (some 3)] [.int .i64 0, .int .i64 y, .int .i64 z, .int .u64 w] := by
    intro E h1 h2 h3
    rw [← h1, ← h2, ← h3]
    exact .cons (.int .i64 0) (.cons (.sym 1) (.cons (.sym 2) (.cons (.sym 3) .nil)))
  have hp : w.tmod 2 = 1 ∨ w.tmod 2 = 0 := by rw [Int.tmod_eq_emod_of_nonneg w0]; omega
  by_cases a : x < 0
  · rcases hp with p | p
    · exact @runM (Sa1 x y z w) W hL Ga1 (okEa1 w0 w1 p a) _ _ _ _ _ (hv _ rfl rfl rfl rfl) runEa1
    · exact @runM (Sa0 x y z w) W hL Ga0 (okEa0 w0 w1 p a) _ _ _ _ _ (hv _ rfl rfl rfl rfl) runEa0
  by_cases b : 0 < x
  · rcases hp with p | p
    · exact @runM (Sb1 x y z w) W hL Gb1 (okEb1 w0 w1 p b) _ _ _ _ _ (hv _ rfl rfl rfl rfl) runEb1
    · exact @runM (Sb0 x y z w) W hL Gb0 (okEb0 w0 w1 p b) _ _ _ _ _ (hv _ rfl rfl rfl rfl) runEb0
  obtain rfl : x = 0 := by omega
  by_cases c : y < 0
  · rcases hp with p | p
    · exact @runM (Sc1 0 y z w) W hL Gc1 (okEc1 w0 w1 p c) _ _ _ _ _ (hv0 _ rfl rfl rfl) runEc1
    · exact @runM (Sc0 0 y z w) W hL Gc0 (okEc0 w0 w1 p c) _ _ _ _ _ (hv0 _ rfl rfl rfl) runEc0
  by_cases d : 20000 < y
  · rcases hp with p | p
    · exact @runM (Sd1 0 y z w) W hL Gd1 (okEd1 w0 w1 p d) _ _ _ _ _ (hv0 _ rfl rfl rfl) runEd1
    · exact @runM (Sd0 0 y z w) W hL Gd0 (okEd0 w0 w1 p d) _ _ _ _ _ (hv0 _ rfl rfl rfl) runEd0
  by_cases e : z < 0
  · rcases hp with p | p
    · exact @runM (Se1 0 y z w) W hL Ge1 (okEe1 w0 w1 p (by omega) (by omega) e) _ _ _ _ _ (hv0 _ rfl rfl rfl) runEe1
    · exact @runM (Se0 0 y z w) W hL Ge0 (okEe0 w0 w1 p (by omega) (by omega) e) _ _ _ _ _ (hv0 _ rfl rfl rfl) runEe0
  · rcases hp with p | p
    · exact @runM (Sf1 0 y z w) W hL Gf1 (okEf1 w0 w1 p (by omega) (by omega) (by omega)) _ _ _ _ _ (hv0 _ rfl rfl rfl) runEf1
    · exact @runM (Sf0 0 y z w) W hL Gf0 (okEf0 w0 w1 p (by omega) (by omega) (by omega)) _ _ _ _ _ (hv0 _ rfl rfl rfl) runEf0
theorem walkErrs {H : Type} {enc : TypeId × Value → H} {w : World} {vs : List Value} {ds : List (DataW H)} {ps : List MemPlace} (hL : laidMetH Tryd.prog laidAll w) (hA : DataW.TrodAll enc Tryd.prog w 0 (fun _ => true) true [3, 3, 3, 25] vs ds ps)
    (hw : (DataW.weightsEach Tryd.prog [3, 3, 3, 25] ds).all (· ≤ reachBytes) = true) (hv : ∀ (j : Nat) t v, [3, 3, 3, 25][j]? = some t → vs[j]? = some v → ∃ base, Value.okWide Tryd.prog w .any base t v) :
    Calls Tryd.prog 10 vs.toArray w fun e w' => e = .returned (.bool true) ∧ Below w.heap.size w w' := by
  letI : SymE := symOf []
  obtain ⟨s, aw, vs', ha, hvs⟩ := args_in plainOk (by kernel_rfl) hA hw hv
  obtain ⟨v1, r, rfl, h1, ha⟩ := ha.cons
  obtain ⟨v2, r, rfl, h2, ha⟩ := ha.cons
  obtain ⟨v3, r, rfl, h3, ha⟩ := ha.cons
  obtain ⟨v4, r, rfl, h4, ha⟩ := ha.cons
  obtain rfl := ha.nil
  obtain ⟨a, rfl, _⟩ := h1.int und3
  obtain ⟨b, rfl, _⟩ := h2.int und3
  obtain ⟨c, rfl, _⟩ := h3.int und3
  obtain ⟨g, rfl, h0, h01⟩ := h4.int und25
  cases hvs with
  | cons e1 t =>
    cases t with
    | cons e2 t =>
      cases t with
      | cons e3 t =>
        cases t with
        | cons e4 t =>
          cases t
          obtain rfl := e1.int_inv
          obtain rfl := e2.int_inv
          obtain rfl := e3.int_inv
          obtain rfl := e4.int_inv
          have hmax : IntKind.u64.max = 18446744073709551615 := by decide
          have hmin : IntKind.u64.min = 0 := by decide
          exact errs hL a b c g (by omega) (by omega)
end Go.Proofs.YtfoceofohlpafaaDoor
