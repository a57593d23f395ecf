/- Printed by a program of the prover: what the Go functions of this seat do, in steps. -/
import Derived.Test.YtfdfakapkhflcaaBKA0
set_option linter.unusedSectionVars false
namespace Go.Proofs.Ytfdfakapkhflcaa
open Go.ChangeShapes Go.WideShapes Go.ChangeAt Go.RowKit Go.Am
open Go.ChangeMaps (open_string shut_string)
set_option linter.unusedVariables false
set_option linter.unusedSimpArgs false
set_option maxRecDepth 100000 in
theorem lifted3 (os : Os) (started : os.Started) (H : Type) (enc : TypeId × Value → H) :
    ReturnsInHanded {} Try.checked os 3 .any (Rows.ballotAloneSpec.pre6 enc Try.prog Try.f3 [] false) (Rows.ballotAloneSpec.post enc Try.prog Try.f3 false true false false) := by
  refine returnsInHanded_of_change_sized (C := Try.checked) own started (by kernel_rfl) Try.func3
    (ChangeSpec.witness6 (enc := enc) (C := Try.checked) false ⟨#[], #[.int .u8 0, .slice none 0 0, .int .i64 0], []⟩ 8 (by kernel_rfl) (by kernel_rfl) (by kernel_rfl) (by kernel_rfl)) ?_
  intro W base args ds gs before hval0 hW hcnd hwt _
  haveI : SymE := Go.Ri.symW
  have hval : ∀ (j : Nat) t v, Try.f3.params[j]? = some t → args[j]? = some v → Value.okWide Try.prog W .any base t v := hval0
  have hW' := hW
  obtain ⟨p, q, hA0, hV, rfl, hfz, hnd⟩ := hW
  have hA : DataW.TrodAll enc Try.prog W 0 (fun _ => true) true Try.f3.params.toList args.toList ds p := hA0
  rw [Try.params3] at hA hval
  obtain ⟨v0, vs0, d0, ds0, p0, q0, hargs, rfl, rfl, h0, r0⟩ := trodAll_cons hA
  obtain ⟨v1, vs1, d1, ds1, p1, q1, rfl, rfl, rfl, h1, r1⟩ := trodAll_cons r0
  obtain ⟨v2, vs2, d2, ds2, p2, q2, rfl, rfl, rfl, h2, r2⟩ := trodAll_cons r1
  obtain ⟨rfl, rfl, rfl⟩ := trodAll_nil r2
  obtain rfl : args = #[v0, v1, v2] := by cases args; simp_all
  obtain ⟨rfl, rfl⟩ := trodVars_none hV
  have hB : DataW.TrodAll enc Try.prog W 0 (fun _ => true) true [5, 22, 3] [v0, v1, v2] [d0, d1, d2] (p0 ++ (p1 ++ (p2 ++ []))) := (trodAll_cons_mk h0 (trodAll_cons_mk h1 (trodAll_cons_mk h2 trodAll_mk0)))
  clear hA0 hval0
  refine (walkAlone hB (by
    simp [ChangeSpec.plain, DataSpec.varTypes, Rows.ballotAloneSpec, show Try.f3.params = #[5, 22, 3] from Try.params3] at hwt ⊢
    exact hwt) (fun j t v h1 h2 => ⟨base, hval j t v (by simpa using h1) (by simpa using h2)⟩)).mono fun e W' ⟨he, bel⟩ => ?_
  subst he
  exact ⟨_, rfl, _, _, _, [], _, [], hW', trodAll_mk1 (shut_bool Try.underlying4 _), args_again laidOut bel (fun t ht => by
    have hall : ([5, 22, 3].all fun u => Try.prog.readableRec u && decide (u < Try.prog.types.size)) = true := by kernel_rfl
    simpa using List.all_eq_true.1 hall t ht) hB, rfl, bel.frame _, fun h => by cases h⟩
theorem over3 : Rows.BallotAloneSaid :=
  OpenClaim.holds_of_wide 3 Try.f3 rfl rfl rfl rfl rfl rfl rfl ⟨rfl, rfl, rfl, rfl, rfl⟩ rfl rfl rfl rfl rfl (by kernel_rfl) Try.func3 (by kernel_rfl)
    (of_decide_eq_true (by kernel_rfl)) (by unfold Func.isWrapper; first | (rw [if_pos (by decide +kernel)]; kernel_rfl) | (rw [if_neg (by decide +kernel)]; exact ⟨rfl, rfl⟩))
    (fun os started H enc _ => lifted3 os started H enc)
end Go.Proofs.Ytfdfakapkhflcaa
