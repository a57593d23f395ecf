/- The staged interpreter: calls. -/
import Derived.Test.YtfoceofohlpafaaDoorRj1
set_option linter.unusedSimpArgs false
set_option linter.unusedVariables false
set_option linter.unusedSectionVars false
namespace Go.Ri
open Go Go.Am Go.RowKit
variable [SymE] [FT] [FTok]

noncomputable def endS (P : Program) (fn : Func) (D : CallerD) (x : SR) : Option (AEnd × Mem) := match x with
  | .fin d ρ ds M => leave P fn D ρ ds d M
  | _ => none
noncomputable def callOneS (P : Program) (X : Exts) (tab : Nat → Tab) (n : Nat) (C : Caller) : Caller := fun f args M => match P.funcs[f]? with
  | none => none
  | some fn => (match fn.body with
    | none => none
    | some c => bif Nat.ble args.length fn.ntmps then endS P fn (callD P X C tab n) (iter (step2 P X C (tab f) (rSlots fn)) n [.code c] (T.ofL args 0 .leaf) [] M) else none)
theorem callOneS_spec {P : Program} {X : Exts} {C : Caller} {tab : Nat → Tab} {n : Nat} (hP : okP tab P.funcs.toList 0 = true) (hX : ExtOk P X) (hC : CS P C) (hm : P.follows .mixedOrders = true) : CS P (callOneS P X tab n C) := by
  intro f args M e M' h
  unfold callOneS endS at h
  split at h
  · cases h
  rename_i fn hf
  split at h
  · cases h
  rename_i c hb
  rw [cond_some] at h
  obtain ⟨hl, h⟩ := h
  have hl := Nat.le_of_ble_eq_true hl
  split at h
  · rename_i d ρ ds M2 hx
    refine acalls_of_ago_d hf hb rfl hl ?_
    rw [← slot_init]
    have hc : okC (tab f) fn.ntmps c = true := by
      have := okP_spec hP (j := f) (fn := fn) (by simpa using hf) hb
      rwa [Nat.zero_add] at this
    refine (iterS_spec (tab := tab f) (N := fn.ntmps) (rs := rSlots fn) (f := step2 P X C (tab f) (rSlots fn)) (fun todo ρ ds M h => step2_spec hX hC hm h) n _ _ _ _ (fun x hx => ?_)).1 ?_
    · obtain rfl := List.mem_singleton.1 hx
      exact hc
    rw [hx]
    intro ρ' hr
    exact leave_spec (callD_spec hX hC hm) hr h
  · cases h
/-- a call, so many deep -/
noncomputable def callS (P : Program) (X : Exts) (tab : Nat → Tab) (n : Nat) (d : Nat) : Caller := Nat.rec (motive := fun _ => Caller) (fun _ _ _ => none) (fun _ ih => callOneS P X tab n ih) d
theorem callS_spec {P : Program} {X : Exts} {tab : Nat → Tab} {n : Nat} (hP : okP tab P.funcs.toList 0 = true) (hX : ExtOk P X) (hm : P.follows .mixedOrders = true) : ∀ d, CS P (callS P X tab n d)
  | 0 => fun _ _ _ _ _ h => by cases h
  | d + 1 => callOneS_spec hP hX (callS_spec hP hX hm d) hm
end Go.Ri
