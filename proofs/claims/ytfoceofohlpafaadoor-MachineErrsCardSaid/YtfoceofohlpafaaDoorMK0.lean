/- The machine's laws: from the row's world to a run. -/
import Derived.Test.YtfoceofohlpafaaDoorRows
import Derived.Test.YtfoceofohlpafaaDoorMTab
import Derived.Stop.LaidErr
import Derived.WalkKit
import Derived.ProofKit
import Derived.OpenShut
import Derived.ShutString
import Derived.ChangeOld
import Derived.Below
import Derived.LaidMore
import Derived.Stop.Joined
namespace Go.Proofs.YtfoceofohlpafaaDoor
open Go.ChangeShapes Go.WideShapes Go.ChangeAt Go.RowKit Go.Am Go.Ri
open Go.ChangeMaps (open_string shut_string)
set_option linter.unusedVariables false

theorem own : ownKnob Tryd.prog.godebug = none := by kernel_rfl
theorem laidOut : laidOutB Tryd.prog = true := by kernel_rfl
def laidAll : List (String × DataW Unit) := [("math/bits.deBruijn32tab", Rows.laid_math_bits_deBruijn32tab), ("math/bits.deBruijn64tab", Rows.laid_math_bits_deBruijn64tab), ("internal/strconv.uint64pow10", Rows.laid_internal_strconv_uint64pow10), ("battledore/code.takes", Rows.laid_battledore_code_takes), ("battledore/code.leaves", Rows.laid_battledore_code_leaves), ("bytes.ErrTooLarge", Rows.laid_bytes_ErrTooLarge)]
theorem door_met (os : Os) (args : Array Value) : laidMetH Tryd.prog laidAll ((World.doorLaid Tryd.prog 4000 os).forCall (fun _ _ => 0) ⟨#[], args, []⟩).memory :=
  laidMetH_of_parts3 (fuel := 8) (laidMet_of_run' 8 (by kernel_rfl) (by kernel_rfl)) (by kernel_rfl) (by kernel_rfl)
theorem gsz : Tryd.prog.globals.size = 6 := by kernel_rfl
theorem hX0 : ExtOk Tryd.prog X0 := fun g => ⟨(fun h => by cases h), (fun h => by cases h)⟩
theorem hmix : Tryd.prog.follows .mixedOrders = true := by kernel_rfl
noncomputable def takesC : List Value := (dCells 5 (Rows.laid_battledore_code_takes (H := Unit))).getD []
noncomputable def leavesC : List Value := (dCells 5 (Rows.laid_battledore_code_leaves (H := Unit))).getD []
noncomputable def GT (t1 t2 : TypeId) : List (Nat × List Value × TypeId) := [(1, takesC, t1), (2, leavesC, t2)]
variable [SymE]
theorem runM {W : World} (hL : laidMetH Tryd.prog laidAll W) {F : Facts} (hF : F.ok) {n d : Nat} {f : FuncId} {sargs vs : List Value} (hv : VRs (inj0 6 W []) sargs vs)
    (hrun : ∀ t1 t2 : TypeId, retB (@callS (ftOf F) Tryd.prog X0 tab n d f sargs (mem0 6 (GT t1 t2))) = true) : Calls Tryd.prog f vs.toArray W fun e w' => e = .returned (.bool true) ∧ Below W.heap.size W w' := by
  have hL' : laidMet Tryd.prog laidAll W := by
    rw [MakeChecks.laidMetH_plain _ _ _ (by kernel_rfl)] at hL; exact hL
  obtain ⟨ps, hl, _, _⟩ := hL'
  obtain ⟨t1, cs1, fz1, a1, b1⟩ := laid_cells hl (n := "battledore/code.takes") (d := Rows.laid_battledore_code_takes) (by simp [laidAll]) (g := 1) (t := 143) (m := 5) (cells := takesC) (by kernel_rfl) (by kernel_rfl) (by kernel_rfl)
  obtain ⟨t2, cs2, fz2, a2, b2⟩ := laid_cells hl (n := "battledore/code.leaves") (d := Rows.laid_battledore_code_leaves) (by simp [laidAll]) (g := 2) (t := 143) (m := 5) (cells := leavesC) (by kernel_rfl) (by kernel_rfl) (by kernel_rfl)
  refine run_lawS (l := GT t1 t2) hF hP hX0 hmix ?_ (by rw [gsz]; exact hv) (by rw [gsz]; exact hrun t1 t2)
  rw [gsz]
  intro p hp
  simp only [GT, List.mem_cons, List.not_mem_nil, or_false] at hp
  rcases hp with rfl | rfl
  · exact ⟨by show 1 < 6; omega, ⟨cs1, fz1, a1, b1⟩, by kernel_rfl⟩
  · exact ⟨by show 2 < 6; omega, ⟨cs2, fz2, a2, b2⟩, by kernel_rfl⟩
def plainTypes : List TypeId := [2, 5, 3, 25]
end Go.Proofs.YtfoceofohlpafaaDoor
