/- The image's law: from the row's world to a run. -/
import Derived.Test.YtacnonepegjooaaGreatDoorRows
import Derived.Test.YtacnonepegjooaaGreatDoorIM1
import Derived.Test.YtacnonepegjooaaGreatDoorL5
import Derived.Stop.LaidErr
import Derived.WalkKit
import Derived.ProofKit
import Derived.OpenShut
import Derived.ShutString
import Derived.ChangeOld
import Derived.Below
import Derived.LaidMore
import Derived.Stop.Joined
namespace Go.Proofs.YtacnonepegjooaaGreatDoor
open Go Go.ChangeShapes Go.WideShapes Go.ChangeAt Go.RowKit Go.Am Go.Ri
open Go.ChangeMaps (open_string shut_string)
set_option linter.unusedVariables false
set_option linter.unusedSimpArgs false
set_option linter.unusedSectionVars false
set_option maxRecDepth 100000
theorem own : ownKnob Tryz.prog.godebug = none := by kernel_rfl
theorem laidOut : laidOutB Tryz.prog = true := by kernel_rfl
def laidAll : List (String × DataW Unit) := [("math/bits.deBruijn32tab", Rows.laid_math_bits_deBruijn32tab), ("math/bits.deBruijn64tab", Rows.laid_math_bits_deBruijn64tab), ("internal/strconv.uint64pow10", Rows.laid_internal_strconv_uint64pow10), ("battledore/code.takes", Rows.laid_battledore_code_takes), ("battledore/code.leaves", Rows.laid_battledore_code_leaves), ("battledore/infer.given", Rows.laid_battledore_infer_given), ("battledore/infer.Prims", Rows.laid_battledore_infer_Prims), ("bytes.ErrTooLarge", Rows.laid_bytes_ErrTooLarge)]
theorem door_met (os : Os) (args : Array Value) : laidMetH Tryz.prog laidAll ((World.doorLaid Tryz.prog 4000 os).forCall (fun _ _ => 0) ⟨#[], args, []⟩).memory :=
  laidMetH_of_parts3 (fuel := 8) (laidMet_of_run' 8 (by kernel_rfl) (by kernel_rfl)) (by kernel_rfl) (by kernel_rfl)
theorem gsz : Tryz.prog.globals.size = 8 := by kernel_rfl
theorem hmix : Tryz.prog.follows .mixedOrders = true := by kernel_rfl
theorem ext245 : IsExt Tryz.prog 245 Extern.AbiNoEscape.same := ⟨Tryz.f245, Tryz.func245, by kernel_rfl, by kernel_rfl, by kernel_rfl, by kernel_rfl⟩
theorem hX0 : ExtOk Tryz.prog X0 := fun g => by
  unfold X0
  cases h245 : Nat.beq g 245 with
  | true => obtain rfl := Nat.eq_of_beq_eq_true h245; exact ⟨(fun h => by cases h), (fun _ => ext245)⟩
  | false => exact ⟨(fun h => by cases h), (fun h => by cases h)⟩
theorem back219 : IsBack Tryz.prog 219 174 265 := ⟨Tryz.f219, _, _, _, _, _, _, _, _, _, _, _, _, _, _, _, Tryz.func219, by kernel_rfl, by kernel_rfl, by kernel_rfl, rfl, rfl, rfl, rfl, rfl⟩
theorem back221 : IsBack Tryz.prog 221 26 69 := ⟨Tryz.f221, _, _, _, _, _, _, _, _, _, _, _, _, _, _, _, Tryz.func221, by kernel_rfl, by kernel_rfl, by kernel_rfl, rfl, rfl, rfl, rfl, rfl⟩
theorem back222 : IsBack Tryz.prog 222 23 9 := ⟨Tryz.f222, _, _, _, _, _, _, _, _, _, _, _, _, _, _, _, Tryz.func222, by kernel_rfl, by kernel_rfl, by kernel_rfl, rfl, rfl, rfl, rfl, rfl⟩
theorem hRB0 : RBok Tryz.prog RB0 := fun g tS e h => by
  unfold RB0 at h
  cases h0 : Nat.beq g 219 with
  | true =>
    obtain rfl := Nat.eq_of_beq_eq_true h0
    rw [h0] at h
    simp only [cond_true, cond_false, Option.some.injEq, Prod.mk.injEq] at h
    obtain ⟨rfl, rfl⟩ := h
    exact back219
  | false =>
    rw [h0] at h
    simp only [cond_false] at h
    cases h1 : Nat.beq g 221 with
    | true =>
      obtain rfl := Nat.eq_of_beq_eq_true h1
      rw [h1] at h
      simp only [cond_true, cond_false, Option.some.injEq, Prod.mk.injEq] at h
      obtain ⟨rfl, rfl⟩ := h
      exact back221
    | false =>
      rw [h1] at h
      simp only [cond_false] at h
      cases h2 : Nat.beq g 222 with
      | true =>
        obtain rfl := Nat.eq_of_beq_eq_true h2
        rw [h2] at h
        simp only [cond_true, cond_false, Option.some.injEq, Prod.mk.injEq] at h
        obtain ⟨rfl, rfl⟩ := h
        exact back222
      | false =>
        rw [h2] at h
        simp only [cond_false] at h
        cases h
variable [SymE]
theorem csz_of {W : World} {b : Nat} {C : Array Value} {el : TypeId} {fz : Nat × Nat} (h : W.heap[b]? = some (.cells C el fz)) : csz W b = C.size := by simp [csz, h]
theorem glob_blk {W : World} {G : Nat} {ents : List Ent} {g : Nat} {cs : Array Value} {cells : List Value} {t : TypeId} {fz : Nat × Nat} (hh : W.heap[g]? = some (.cells cs t fz)) (hc : cs.toList = cells) (hp : plains cells = true) (hg : g < G) {n : Nat} (hn : g < n) :
    g < n ∧ ∃ e cs fz', inj0 G W ents g = some e ∧ e.esz = 0 ∧ (0 = 0 → e.off = 0 ∧ e.csize = cells.length) ∧ W.heap[e.cb]? = some (.cells cs t fz') ∧ cs.size = e.csize ∧ e.off + cells.length ≤ e.csize ∧
      ∀ (i : Nat) (v : Value), cells[i]? = some v → ∃ v', cs[e.off + i]? = some v' ∧ VR (inj0 G W ents) v v' := by
  have hl : cs.size = cells.length := by rw [← hc]; simp
  refine ⟨hn, ⟨g, 0, csz W g, 0⟩, cs, fz, by simp [inj0, hg], rfl, fun _ => ⟨rfl, by simp only [csz_of hh]; exact hl⟩, hh, (csz_of hh).symm, by simp only [csz_of hh]; omega, fun i v hi => ⟨v, ?_, ?_⟩⟩
  · simp only [Nat.zero_add]
    rw [← hi, ← hc]; simp
  · refine VR.ofPlain ?_
    have key : ∀ (l : List Value) (i : Nat), plains l = true → l[i]? = some v → plain v = true := by
      intro l
      induction l with
      | nil => intro i _ h; simp at h
      | cons x l ih =>
        intro i hp h
        simp only [plains, Bool.and_eq_true] at hp
        cases i with
        | zero => simp at h; subst h; exact hp.1
        | succ i => exact ih i hp.2 (by simpa using h)
    exact key _ i hp hi
theorem relI {W : World} (hL : laidMetH Tryz.prog laidAll W) : ∃ u : Nat → TypeId, Rel 8 (· < W.heap.size) W (inj0 8 W []) (PM u).abs W := by
  letI : FT := ftOf {}
  haveI : FTok := ftOk (F := {}) ⟨(fun _ h => by cases h), (fun _ h => by cases h), (fun _ h => by cases h), (fun _ h => by cases h)⟩
  have hL' : laidMet Tryz.prog laidAll W := by
    rw [MakeChecks.laidMetH_plain _ _ _ (by kernel_rfl)] at hL; exact hL
  obtain ⟨ps, hl, _, _⟩ := hL'
  obtain ⟨t0, cs0, fz0, a0, b0⟩ := laid_cells hl (n := "battledore/infer.given") (d := Rows.laid_battledore_infer_given) (by simp [laidAll]) (g := 0) (t := 130) (m := 5) (cells := givenC) (by kernel_rfl) (by kernel_rfl) (by kernel_rfl)
  obtain ⟨t1, cs1, fz1, a1, b1⟩ := laid_cells hl (n := "battledore/infer.Prims") (d := Rows.laid_battledore_infer_Prims) (by simp [laidAll]) (g := 1) (t := 133) (m := 5) (cells := primsC) (by kernel_rfl) (by kernel_rfl) (by kernel_rfl)
  obtain ⟨t2, cs2, fz2, a2, b2⟩ := laid_cells hl (n := "battledore/code.takes") (d := Rows.laid_battledore_code_takes) (by simp [laidAll]) (g := 2) (t := 284) (m := 5) (cells := takesC) (by kernel_rfl) (by kernel_rfl) (by kernel_rfl)
  obtain ⟨t3, cs3, fz3, a3, b3⟩ := laid_cells hl (n := "battledore/code.leaves") (d := Rows.laid_battledore_code_leaves) (by simp [laidAll]) (g := 3) (t := 284) (m := 5) (cells := leavesC) (by kernel_rfl) (by kernel_rfl) (by kernel_rfl)
  refine ⟨fun g => [t0, t1, t2, t3].getD g 0, ?_⟩
  refine rel_memR rfl ?_
  intro p hp
  have hp' : p ∈ [(0, givenC, t0, 0), (1, primsC, t1, 0), (2, takesC, t2, 0), (3, leavesC, t3, 0)] := hp
  simp only [List.mem_cons, List.not_mem_nil, or_false] at hp'
  rcases hp' with rfl | rfl | rfl | rfl
  · exact glob_blk a0 b0 (by kernel_rfl) (by decide) (by decide)
  · exact glob_blk a1 b1 (by kernel_rfl) (by decide) (by decide)
  · exact glob_blk a2 b2 (by kernel_rfl) (by decide) (by decide)
  · exact glob_blk a3 b3 (by kernel_rfl) (by decide) (by decide)
end Go.Proofs.YtacnonepegjooaaGreatDoor
