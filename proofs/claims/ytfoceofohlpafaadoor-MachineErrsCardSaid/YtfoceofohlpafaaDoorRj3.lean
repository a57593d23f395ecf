/- A call whose answer is known: run no more where the program's variables still stand. -/
import Derived.Test.YtfoceofohlpafaaDoorRj2
import Derived.Test.YtfoceofohlpafaaDoorLo1
set_option linter.unusedSimpArgs false
set_option linter.unusedVariables false
set_option linter.unusedSectionVars false
namespace Go.Ri
open Go Go.Am Go.RowKit
variable [SymE]

/-- the variables stand there (their blocks' types apart) -/
noncomputable def stand (M : Mem) (l : List (Nat × List Value)) : Bool := List.rec (motive := fun _ => Bool) true
  (fun p _ ih => match M.at p.1 with
    | none => false
    | some B => bif Nat.beq B.len p.2.length && (Nat.beq B.esz 0 && !B.rw) then (match B.getN p.2.length 0 with
      | none => false
      | some cs => bif vEq.lEq (vEq 2) cs p.2 then ih else false) else false) l
def withT (ts : List TypeId) (l : List (Nat × List Value)) : List (Nat × List Value × TypeId) := (l.zip ts).map fun p => (p.1.1, p.1.2, p.2)
theorem stand_spec {M : Mem} : ∀ {l : List (Nat × List Value)}, stand M l = true → ∃ ts : List TypeId, ts.length = l.length ∧ ∀ p ∈ withT ts l, M.abs.m p.1 = some ⟨p.2.1, p.2.2, 0, false, 0⟩
  | [], _ => ⟨[], rfl, by simp [withT]⟩
  | (g, cells) :: l, h => by
    have h : (match M.at g with
      | none => false
      | some B => bif Nat.beq B.len cells.length && (Nat.beq B.esz 0 && !B.rw) then (match B.getN cells.length 0 with
        | none => false
        | some cs => bif vEq.lEq (vEq 2) cs cells then stand M l else false) else false) = true := h
    split at h
    · cases h
    rename_i B hB
    cases hc : Nat.beq B.len cells.length && (Nat.beq B.esz 0 && !B.rw) with
    | false => rw [hc] at h; cases h
    | true =>
      rw [hc] at h
      simp only [cond_true] at h
      split at h
      · cases h
      rename_i cs hcs
      cases hv : vEq.lEq (vEq 2) cs cells with
      | false => rw [hv] at h; cases h
      | true =>
        rw [hv] at h
        simp only [cond_true] at h
        obtain ⟨ts, h1, h2⟩ := stand_spec h
        simp only [Bool.and_eq_true, Nat.beq_eq, Bool.not_eq_true'] at hc
        obtain ⟨c1, c2, c3⟩ := hc
        refine ⟨B.elem :: ts, by simp [h1], fun p hp => ?_⟩
        simp only [withT, List.zip_cons_cons, List.map_cons, List.mem_cons] at hp
        rcases hp with rfl | hp
        · simp only
          rw [M.abs_m hB]
          have hlen : B.abs.cells.length = cells.length := by rw [B.abs_len]; exact c1
          have hg := RB.getN_spec hB (i := 0) (by omega) hcs
          have e := lEq_spec (vEq_spec 2) hv
          subst e
          have hcells : B.abs.cells = cs := by
            have hw := getN_whole (M.abs_m hB)
            rw [hlen, hg] at hw
            exact (Option.some.inj hw).symm
          rw [← hcells]
          simp only [RB.abs, Option.some.injEq, Blk.mk.injEq, and_true, true_and]
          exact ⟨c2, c3⟩
        · exact h2 p hp
/-- a law, run -/
theorem run_lawS {P : Program} {X : Exts} {tab : Nat → Tab} {n d : Nat} {F : Facts} (hF : F.ok) (hP : okP tab P.funcs.toList 0 = true) (hX : ExtOk P X) (hm : P.follows .mixedOrders = true) {f : FuncId} {sargs vs : List Value} {l : List (Nat × List Value × TypeId)} {W : World}
    (hG : ∀ p ∈ l, p.1 < P.globals.size ∧ (∃ cs fz, W.heap[p.1]? = some (.cells cs p.2.2 fz) ∧ cs.toList = p.2.1) ∧ plains p.2.1 = true) (hv : VRs (inj0 P.globals.size W []) sargs vs)
    (hrun : retB (@callS (ftOf F) P X tab n d f sargs (mem0 P.globals.size l)) = true) : Calls P f vs.toArray W fun e w' => e = .returned (.bool true) ∧ Below W.heap.size W w' := by
  letI : FT := ftOf F
  haveI : FTok := ftOk hF
  obtain ⟨M', hM⟩ := retB_some hrun
  have h := callS_spec hP hX hm d f sargs _ _ _ hM
  refine (h _ _ _ vs W (rel_mem0 hG) hv).mono ?_
  rintro e w' ⟨s', ae, aw', _, hr', her, rfl, _⟩
  cases her with
  | returned h =>
    cases h
    exact ⟨rfl, hr'.below⟩
/-- what scalars came in -/
theorem args_in {P : Program} {H : Type} {enc : TypeId × Value → H} {W : World} {l : List TypeId} (hl : okTypes P l = true) {ts : List TypeId} {vs : List Value} {ds : List (DataW H)} {ps : List MemPlace} (hts : (ts.all fun t => l.contains t) = true)
    (hA : DataW.TrodAll enc P W 0 (fun _ => true) true ts vs ds ps) (hw : (DataW.weightsEach P ts ds).all (· ≤ reachBytes) = true)
    (hv : ∀ (j : Nat) t v, ts[j]? = some t → vs[j]? = some v → ∃ base, Value.okWide P W .any base t v) : ∃ (s : Inj) (aw : AW) (vs' : List Value), ArgsIn P aw ts vs' ∧ VRs s vs' vs := by
  have r0 : Rel P.globals.size W.heap.size W (inj0 P.globals.size W []) (mem0 P.globals.size []).abs W := rel_mem0 (l := []) (fun p hp => by cases hp)
  obtain ⟨s', aw', vs', _, _, _, _, h5, h6⟩ := open_args hl ts vs ds ps hts hA hw hv _ _ r0 (fun c C hc => by
    obtain ⟨p, hp, _⟩ := mem0_abs [] c C hc
    cases hp)
  exact ⟨s', aw', vs', h6, h5⟩
end Go.Ri
