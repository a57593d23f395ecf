/- awake() is known; a law's run. -/
import Derived.Test.YthfjjcfceilahaaGreatDoorPK0
import Derived.Test.YthfjjcfceilahaaGreatDoorPT1
namespace Go.Proofs.YthfjjcfceilahaaGreatDoor
open Go.ChangeShapes Go.WideShapes Go.ChangeAt Go.RowKit Go.Am Go.Ri
set_option linter.unusedVariables false
set_option linter.unusedSimpArgs false
set_option linter.unusedSectionVars false
set_option maxRecDepth 100000
theorem rn_id (v : Value) : rnV (fun b => b) v = v := by unfold rnV; split <;> rfl
theorem okCells (t u : Nat → TypeId) : ((PL t u).all fun p => p.2.1.all (okV 16)) = true := by kernel_rfl
theorem PLs_mem (t u : Nat → TypeId) : ∀ p ∈ PL t u, (p.1, p.2.1, p.2.2.2) ∈ PLs ∧ p.2.2.1 = (if p.1 < 9 then u p.1 else t (p.1 - 9)) := by
  intro p hp
  have hp' : p ∈ [(0, signsC, u 0, 0), (1, wordsC, u 1, 0), (3, levC, u 3, 0), (9, strC [[58, 61]], t 0, 1), (10, strC [[124, 124]], t 1, 1), (11, strC [[38, 38]], t 2, 1), (12, strC [[61], [60, 62], [60, 61], [60]], t 3, 1), (13, strC [[58, 58], [94]], t 4, 1), (14, strC [[43], [45]], t 5, 1), (15, strC [[42], [47], [109, 111, 100]], t 6, 1)] := hp
  have hq : ∀ q, q ∈ [(0, signsC, 0), (1, wordsC, 0), (3, levC, 0), (9, strC [[58, 61]], 1), (10, strC [[124, 124]], 1), (11, strC [[38, 38]], 1), (12, strC [[61], [60, 62], [60, 61], [60]], 1), (13, strC [[58, 58], [94]], 1), (14, strC [[43], [45]], 1), (15, strC [[42], [47], [109, 111, 100]], 1)] → q ∈ PLs := fun q h => h
  simp only [List.mem_cons, List.not_mem_nil, or_false] at hp'
  rcases hp' with rfl | rfl | rfl | rfl | rfl | rfl | rfl | rfl | rfl | rfl <;> exact ⟨hq _ (by simp), rfl⟩
variable [SymE]
theorem orP : OrOk Tryz.prog chkP 10 := fun M h => by
  letI : FT := ftOf {}
  haveI : FTok := ftOk (F := {}) ⟨(fun _ h => by cases h), (fun _ h => by cases h), (fun _ h => by cases h), (fun _ h => by cases h)⟩
  have hs := standL_spec (l := PLs) h
  let el : Nat → TypeId := fun k => match M.at k with
    | some B => B.elem
    | none => 0
  obtain ⟨M', hM⟩ := retB_some (aw1 (fun i => el (9 + i)) el)
  have hr := callR_spec hP hX0 hRB0 hmix 40 10 [] _ _ _ hM
  have hu : UnderR Tryz.prog.globals.size (fun b => b) (PM (fun i => el (9 + i)) el).abs M.abs := by
    refine ⟨by rw [gsz]; exact (show (9 : Nat) ≤ 16 by decide), fun _ _ => rfl, fun b hb => ?_, fun b B hB => ?_⟩
    · cases hB : (PM (fun i => el (9 + i)) el).abs.m b with
      | none => rfl
      | some B =>
        obtain ⟨p, hp, rfl, _⟩ := memR_abs _ b B hB
        have hlt : (PL (fun i => el (9 + i)) el).all (fun p => decide (p.1 < 16)) = true := by kernel_rfl
        have := List.all_eq_true.1 hlt p hp
        have hb' : 16 ≤ p.1 := hb
        simp at this
        omega
    · obtain ⟨p, hp, rfl, rfl⟩ := memR_abs _ b B hB
      obtain ⟨h1, h2⟩ := PLs_mem _ _ p hp
      obtain ⟨B, k1, k2⟩ := hs _ h1
      refine ⟨rfl, _, k2, ?_, rfl, fun _ => rfl, fun i v hi => ⟨?_, ?_⟩⟩
      · show B.elem = p.2.2.1
        rw [h2]
        have he : el p.1 = B.elem := by simp only [el, k1]
        split
        · exact he.symm
        · rename_i hn
          show B.elem = el (9 + (p.1 - 9))
          rw [show 9 + (p.1 - 9) = p.1 by omega]; exact he.symm
      · have := List.all_eq_true.1 (okCells (fun i => el (9 + i)) el) p hp
        exact List.all_eq_true.1 this v (List.mem_of_getElem? hi)
      · rw [rn_id]; exact hi
  exact acalls_ren hu (by rfl) (by rfl) hr
theorem runP {W : World} (hL : laidMetH Tryz.prog laidAll W) {F : Facts} (hF : F.ok) {n d : Nat} {f : FuncId} {sargs vs : List Value} (hv : ∀ s : Inj, VRs s sargs vs)
    (hrun : ∀ t u : Nat → TypeId, retB (@callRo (ftOf F) Tryz.prog X0 RB0 chkP 10 tab n d f sargs (PM t u)) = true) : Calls Tryz.prog f vs.toArray W fun e w' => e = .returned (.bool true) ∧ Below W.heap.size W w' := by
  obtain ⟨t, u, ents, hr⟩ := relP hL
  rw [← gsz] at hr
  exact run_lawR orP hF hP hX0 hRB0 hmix hr (hv _) (hrun t u)
def plainTypes : List TypeId := [5]
theorem plainOk : okTypes Tryz.prog plainTypes = true := by kernel_rfl
theorem und5 : Tryz.prog.underlying 5 = some (.int .u8) := by kernel_rfl
end Go.Proofs.YthfjjcfceilahaaGreatDoor
