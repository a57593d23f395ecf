/- NotebookReplies, NotebookReads: from the row's world. -/
import Derived.Test.YtfgihmgeplcfoaaGreatDoorNK0
import Derived.Test.YtfgihmgeplcfoaaGreatDoorL5
set_option linter.unusedSectionVars false
set_option linter.unusedVariables false
set_option linter.unusedSimpArgs false
namespace Go.Proofs.YtfgihmgeplcfoaaGreatDoor
open Go.ChangeShapes Go.WideShapes Go.ChangeAt Go.RowKit Go.Am Go.Ri Go.Oc
set_option maxRecDepth 100000
theorem pOk : okTypes Tryz.prog [30, 5] = true := by kernel_rfl
theorem und5 : Tryz.prog.underlying 5 = some (.int .u8) := by kernel_rfl
theorem und30 : Tryz.prog.underlying 30 = some (.slice 5) := by kernel_rfl
section
variable [SymE] {aw : AW}
variable {ro : List (Nat × Blk)}
theorem rd_bytes {v : Value} (h : ArgIn Tryz.prog aw 30 v) : ∃ l : List UInt8, (Rs aw [] ro [] v l ∨ (l = [] ∧ ∃ q c, v = .slice q 0 c)) ∧ one v = true ∧ l.length < 2 ^ 60 ∧ ∃ q c, v = .slice q l.length c := by
  obtain ⟨v', l, e, hb, hl⟩ := (h.rd1 (by kernel_rfl)).bytes und30 und5 (by kernel_rfl) (by kernel_rfl)
  obtain rfl := (List.cons.inj e).1
  have hr : reachBytes < 2 ^ 60 := by decide
  refine ⟨l, ?_, ?_, by omega, hb.len⟩
  · cases hb with
    | nil => exact .inl fun _ _ _ _ => .nil
    | emp => exact .inr ⟨rfl, _, _, rfl⟩
    | «at» hb hm =>
      refine .inl (Rs.first (.at hm rfl (by simp [bytesV]) (by rw [List.drop_zero, List.take_of_length_le (by simp [bytesV])]) (fun h => absurd h (Nat.lt_irrefl _))) fun b off n c e => ?_)
      injection e with e1 e2 e3
      injection e1 with e1
      injection e1 with e1 e4
      subst e1
      exact ⟨hb, by simp⟩
  · cases hb <;> rfl
end
theorem walkReads {H : Type} {enc : TypeId × Value → H} {w : World} {vs : List Value} {ds : List (DataW H)} {ps : List MemPlace} (hL : laidMetH Tryz.prog laidAll w) (hA : DataW.TrodAll enc Tryz.prog w 0 (fun _ => true) true [30] vs ds ps)
    (hw : (DataW.weightsEach Tryz.prog [30] ds).all (· ≤ reachBytes) = true) (hv : ∀ (j : Nat) t v, [30][j]? = some t → vs[j]? = some v → ∃ base, Value.okWide Tryz.prog w .any base t v) :
    Calls Tryz.prog 4 vs.toArray w fun e w' => e = .returned (.bool true) ∧ Below w.heap.size w w' := by
  letI : SymE := symOf []
  obtain ⟨t, u, s, aw, vs', hr, hG, ha, hvs⟩ := args_at pOk hL (by kernel_rfl) hA hw hv
  obtain ⟨v1, r, rfl, h1, ha⟩ := ha.cons
  obtain rfl := ha.nil
  obtain ⟨l, hR, ho, hl, hc⟩ := rd_bytes (ro := NR t u) h1
  have := Tryz.reads_x (E := fun _ _ => False) (Q := fun b _ => b = true) (awkN t u) hG hR ho hc hl (fun p hp => by cases hp) fun _ => rfl
  exact calls_true (fun b => rfl) this hr hvs
end Go.Proofs.YtfgihmgeplcfoaaGreatDoor
