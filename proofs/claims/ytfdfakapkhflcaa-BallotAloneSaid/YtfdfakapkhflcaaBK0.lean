/- The ballot's laws: awake() is known; from the row's world to a call. -/
import Derived.Test.YtfdfakapkhflcaaRows
import Derived.Test.YtfdfakapkhflcaaBAw
import Derived.Test.YtfdfakapkhflcaaBaS8
import Derived.Test.YtfdfakapkhflcaaL3
import Derived.Stop.LaidErr
import Derived.WalkKit
import Derived.ProofKit
import Derived.OpenShut
import Derived.ShutString
import Derived.ChangeOld
import Derived.Below
import Derived.LaidMore
import Derived.Stop.Joined
namespace Go.Proofs.Ytfdfakapkhflcaa
open Go.ChangeShapes Go.WideShapes Go.ChangeAt Go.RowKit Go.Am Go.Ri
set_option linter.unusedVariables false
set_option linter.unusedSimpArgs false
set_option linter.unusedSectionVars false
set_option maxRecDepth 100000
theorem own : ownKnob Try.prog.godebug = none := by kernel_rfl
theorem laidOut : laidOutB Try.prog = true := by kernel_rfl
theorem hmix : Try.prog.follows .mixedOrders = true := by kernel_rfl
theorem vals76 : IsVals Try.prog 76 28 24 := ⟨Try.f76, _, _, _, _, _, _, _, _, _, _, _, _, _, _, _, _, Try.func76, by kernel_rfl, by kernel_rfl, by kernel_rfl, rfl, rfl, rfl, rfl, rfl, rfl⟩
section
variable [SymE]
theorem hX0 : ExtOk Try.prog X0 := fun g => ⟨(fun h => by cases h), (fun h => by cases h)⟩
theorem hVB0 : VBok Try.prog VB0 := fun g tS e h => by
  unfold VB0 at h
  cases h1 : Nat.beq g 76 with
  | true =>
    obtain rfl := Nat.eq_of_beq_eq_true h1
    rw [h1] at h
    simp only [cond_true, Option.some.injEq, Prod.mk.injEq] at h
    obtain ⟨rfl, rfl⟩ := h
    exact vals76
  | false => rw [h1] at h; cases h
theorem awk : Try.Awk := fun Q E aw hG hQ => by
  letI : FT := ftW
  haveI : FTok := ftWok
  obtain ⟨M', hM⟩ := retW_some awB
  have hr := callW_spec hX0 hVB0 hmix 60 7 [] _ _ _ hM
  have hu : UnderR Try.prog.globals.size (fun b => b) (memR Try.prog.globals.size []).abs aw := by
    refine ⟨Nat.le_refl _, fun _ _ => rfl, fun b hb => ?_, fun b B hB => ?_⟩
    · cases hB : (memR Try.prog.globals.size []).abs.m b with
      | none => rfl
      | some B => obtain ⟨p, hp, _⟩ := memR_abs [] b B hB; cases hp
    · obtain ⟨p, hp, _⟩ := memR_abs [] b B hB; cases hp
  have := acalls_ren hu (by rfl) (by rfl) hr
  exact this.mono fun e aw' he => by
    obtain ⟨rfl, rfl⟩ := he
    exact ⟨true, rfl, hQ⟩
end
theorem und25 : Try.prog.underlying 25 = some (.slice 5) := by kernel_rfl
theorem und5 : Try.prog.underlying 5 = some (.int .u8) := by kernel_rfl
theorem args_rel [SymE] {l : List TypeId} (hl : okTypes Try.prog l = true) {H : Type} {enc : TypeId × Value → H} {W : World} {ts : List TypeId} {vs : List Value} {ds : List (DataW H)} {ps : List MemPlace} (hts : (ts.all fun t => l.contains t) = true)
    (hA : DataW.TrodAll enc Try.prog W 0 (fun _ => true) true ts vs ds ps) (hw : (DataW.weightsEach Try.prog ts ds).all (· ≤ reachBytes) = true)
    (hv : ∀ (j : Nat) t v, ts[j]? = some t → vs[j]? = some v → ∃ base, Value.okWide Try.prog W .any base t v) :
    ∃ (s : Inj) (aw : AW) (vs' : List Value), Rel Try.prog.globals.size (· < W.heap.size) W s aw W ∧ Try.prog.globals.size ≤ aw.next ∧ ArgsIn Try.prog aw ts vs' ∧ VRs s vs' vs := by
  have r0 := rel_start Try.prog.globals.size W []
  obtain ⟨s', aw', vs', _, h2, h3, _, h5, h6⟩ := open_args hl ts vs ds ps hts hA hw hv _ _ r0 (fun c C hc => by cases hc)
  exact ⟨s', aw', vs', h3, h2.next, h6, h5⟩
end Go.Proofs.Ytfdfakapkhflcaa
