/- A law's run, with blocks made at any time. -/
import Derived.Test.YthfjjcfceilahaaGreatDoorPK1
import Derived.Test.YthfjjcfceilahaaGreatDoorPTab2
namespace Go.Proofs.YthfjjcfceilahaaGreatDoor
open Go.ChangeShapes Go.WideShapes Go.ChangeAt Go.RowKit Go.Am Go.Ri
set_option linter.unusedVariables false
set_option linter.unusedSectionVars false
variable [SymE]
theorem hVB0 : VBok Tryz.prog VB0 := fun f tS e h => by cases h
theorem runPV {W : World} (hL : laidMetH Tryz.prog laidAll W) {F : Facts} (hF : F.ok) {n d : Nat} {f : FuncId} {sargs vs : List Value} (hv : ∀ s : Inj, VRs s sargs vs)
    (hrun : ∀ t u : Nat → TypeId, retB (@callV (ftOf F) Tryz.prog X0 RB0 VB0 O0 tab tab2 n d f sargs (PM t u)) = true) : Calls Tryz.prog f vs.toArray W fun e w' => e = .returned (.bool true) ∧ Below W.heap.size W w' := by
  obtain ⟨t, u, ents, hr⟩ := relP hL
  rw [← gsz] at hr
  exact run_lawV (fun C hC => orcl_spec orP hC) hF hP hX0 hRB0 hVB0 hmix hr (hv _) (hrun t u)
end Go.Proofs.YthfjjcfceilahaaGreatDoor
