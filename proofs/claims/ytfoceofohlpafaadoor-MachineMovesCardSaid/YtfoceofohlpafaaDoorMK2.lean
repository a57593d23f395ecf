/- The machine's laws: from the row's world to what is called. -/
import Derived.Test.YtfoceofohlpafaaDoorRows
import Derived.Test.YtfoceofohlpafaaDoorMRun
import Derived.Test.YtfoceofohlpafaaDoorL3
import Derived.Stop.LaidErr
import Derived.WalkKit
import Derived.ProofKit
import Derived.OpenShut
import Derived.ShutString
import Derived.ChangeOld
import Derived.Below
import Derived.LaidMore
import Derived.Stop.Joined
namespace Go.Proofs.YtfoceofohlpafaaDoor
open Go.ChangeShapes Go.WideShapes Go.ChangeAt Go.RowKit Go.Am Go.Ri
open Go.ChangeMaps (open_string shut_string)
set_option linter.unusedVariables false
set_option linter.unusedSimpArgs false
set_option linter.unusedSectionVars false
set_option maxRecDepth 100000
theorem own : ownKnob Tryd.prog.godebug = none := by kernel_rfl
theorem laidOut : laidOutB Tryd.prog = true := by kernel_rfl
def laidAll : List (String × DataW Unit) := [("math/bits.deBruijn32tab", Rows.laid_math_bits_deBruijn32tab), ("math/bits.deBruijn64tab", Rows.laid_math_bits_deBruijn64tab), ("internal/strconv.uint64pow10", Rows.laid_internal_strconv_uint64pow10), ("battledore/code.takes", Rows.laid_battledore_code_takes), ("battledore/code.leaves", Rows.laid_battledore_code_leaves), ("bytes.ErrTooLarge", Rows.laid_bytes_ErrTooLarge)]
theorem door_met (os : Os) (args : Array Value) : laidMetH Tryd.prog laidAll ((World.doorLaid Tryd.prog 4000 os).forCall (fun _ _ => 0) ⟨#[], args, []⟩).memory :=
  laidMetH_of_parts3 (fuel := 8) (laidMet_of_run' 8 (by kernel_rfl) (by kernel_rfl)) (by kernel_rfl) (by kernel_rfl)
theorem start_at [SymE] {W : World} (hL : laidMetH Tryd.prog laidAll W) : ∃ t1 t2 aw, Rel 6 (· < W.heap.size) W (inj0 6 W []) aw W ∧ Hp aw [] (ro0 t1 t2) aw [] ∧ 6 ≤ aw.next ∧ aw.ro := by
  have hL' : laidMet Tryd.prog laidAll W := by
    rw [MakeChecks.laidMetH_plain _ _ _ (by kernel_rfl)] at hL; exact hL
  obtain ⟨ps, hl, _, _⟩ := hL'
  obtain ⟨t1, cs1, fz1, a1, b1⟩ := laid_cells hl (n := "battledore/code.takes") (d := Rows.laid_battledore_code_takes) (by simp [laidAll]) (g := 1) (t := 143) (m := 5) (cells := takesC) (by kernel_rfl) (by kernel_rfl) (by kernel_rfl)
  obtain ⟨t2, cs2, fz2, a2, b2⟩ := laid_cells hl (n := "battledore/code.leaves") (d := Rows.laid_battledore_code_leaves) (by simp [laidAll]) (g := 2) (t := 143) (m := 5) (cells := leavesC) (by kernel_rfl) (by kernel_rfl) (by kernel_rfl)
  have key : ∀ {l : List Value} {cs : Array Value} {i : Nat} {v : Value}, cs.toList = l → plains l = true → l[i]? = some v → ∃ v', cs[0 + i]? = some v' ∧ VR (inj0 6 W []) v v' := by
    intro l cs i v hc hp hv
    refine ⟨v, by rw [Nat.zero_add, ← hv, ← hc]; simp, VR.ofPlain ?_⟩
    have k : ∀ (l : List Value) (i : Nat), plains l = true → l[i]? = some v → plain v = true := by
      intro l
      induction l with
      | nil => intro i _ h; simp at h
      | cons x l ih =>
        intro i hp h
        simp only [plains, Bool.and_eq_true] at hp
        cases i with
        | zero => simp at h; subst h; exact hp.1
        | succ i => exact ih i hp.2 (by simpa using h)
    exact k l i hp hv
  have len : ∀ {l : List Value} {cs : Array Value}, cs.toList = l → cs.size = l.length := fun h => by rw [← h]; simp
  have r0 := rel_start 6 W []
  have ro_ : AW.ro ⟨fun _ => none, 6⟩ := fun c C h => by cases h
  have r1 := r0.lay ro_ (b := 1) (e := ⟨1, 0, csz W 1, 0⟩) (by simp [inj0]) (cells := takesC) (esz := 0) a1 (by simp [csz, a1]) (by simp [csz, a1, len b1]) rfl (fun _ => ⟨rfl, by simp [csz, a1, len b1]⟩) (fun i v hv => key b1 plT hv)
  have ro1 := ro_.lay_ro' (b := 1) (B := ⟨takesC, t1, 0, false, 0⟩) rfl
  have r2 := r1.lay ro1 (b := 2) (e := ⟨2, 0, csz W 2, 0⟩) (by simp [inj0]) (cells := leavesC) (esz := 0) a2 (by simp [csz, a2]) (by simp [csz, a2, len b2]) rfl (fun _ => ⟨rfl, by simp [csz, a2, len b2]⟩) (fun i v hv => key b2 plL hv)
  have ro2 := ro1.lay_ro' (b := 2) (B := ⟨leavesC, t2, 0, false, 0⟩) rfl
  refine ⟨t1, t2, _, r2, ?_, Nat.le_refl _, ro2⟩
  refine Hp.init (l := []) List.nodup_nil (fun p hp => by cases hp) fun p hp => ?_
  simp only [ro0, List.mem_cons, List.not_mem_nil, or_false] at hp
  rcases hp with rfl | rfl
  · exact ⟨by simp [AW.lay], by show 1 < 6; decide, by simp⟩
  · exact ⟨by simp [AW.lay], by show 2 < 6; decide, by simp⟩
theorem args_at [SymE] {l : List TypeId} (hl : okTypes Tryd.prog l = true) {H : Type} {enc : TypeId × Value → H} {W : World} {ts : List TypeId} {vs : List Value} {ds : List (DataW H)} {ps : List MemPlace} (hL : laidMetH Tryd.prog laidAll W) (hts : (ts.all fun t => l.contains t) = true)
    (hA : DataW.TrodAll enc Tryd.prog W 0 (fun _ => true) true ts vs ds ps) (hw : (DataW.weightsEach Tryd.prog ts ds).all (· ≤ reachBytes) = true)
    (hv : ∀ (j : Nat) t v, ts[j]? = some t → vs[j]? = some v → ∃ base, Value.okWide Tryd.prog W .any base t v) :
    ∃ (t1 t2 : TypeId) (s : Inj) (aw : AW) (vs' : List Value), Rel Tryd.prog.globals.size (· < W.heap.size) W s aw W ∧ Hp aw [] (ro0 t1 t2) aw [] ∧ ArgsIn Tryd.prog aw ts vs' ∧ VRs s vs' vs := by
  obtain ⟨t1, t2, aw, hr, hM, h6, hro⟩ := start_at hL
  obtain ⟨s', aw', vs', _, h2, h3, _, h5, h6'⟩ := open_args hl ts vs ds ps hts hA hw hv _ _ hr hro
  refine ⟨t1, t2, s', aw', vs', by rw [gsz]; exact h3, ?_, h6', h5⟩
  refine Hp.init (l := []) List.nodup_nil (fun p hp => by cases hp) fun p hp => ?_
  obtain ⟨k1, k2, k3⟩ := hM.ro_ p hp
  exact ⟨h2.get k2 k1, Nat.lt_of_lt_of_le k2 h2.next, by simp⟩
end Go.Proofs.YtfoceofohlpafaaDoor
