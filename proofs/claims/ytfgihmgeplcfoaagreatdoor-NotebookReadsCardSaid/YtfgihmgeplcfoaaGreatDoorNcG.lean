/- NotebookReads: any bytes as an outcome. -/
import Derived.Test.YtfgihmgeplcfoaaGreatDoorNcF
set_option linter.unusedSimpArgs false
set_option linter.unusedVariables false
set_option linter.unusedSectionVars false
namespace Go.Proofs.Tryz
open Go Go.Am Go.RowKit Go.Oc
variable [SymE]
theorem encB_pos (l : List UInt8) : 0 < (encB l).length := by
  unfold encB encU; simp
theorem encU_pos (n : Nat) : 0 < (encU n).length := by
  unfold encU; simp
theorem flat_le {α : Type} {f : α → List UInt8} (hf : ∀ x, 0 < (f x).length) : ∀ l : List α, l.length ≤ (l.flatMap f).length
  | [] => by simp
  | x :: l => by
    have h1 := hf x
    have h2 := flat_le hf l
    rw [List.flatMap_cons, List.length_append, List.length_cons]
    omega
theorem binds_le (l : List Bnd) : l.length ≤ (encBs l).length := flat_le (fun x => by unfold encBnd; rw [List.length_append]; have := encB_pos x.1; omega) l
theorem moves_le (l : List (Bool × Int)) : l.length ≤ (encMs l).length := flat_le (fun x => by unfold encMv; rw [List.length_append]; have := encU_pos (bif x.1 then 1 else 0); omega) l
theorem encO_le (o : Outc) : o.Binds.length ≤ (encO o).length ∧ o.Moves.length ≤ (encO o).length := by
  have h1 := binds_le o.Binds
  have h2 := moves_le o.Moves
  unfold encO
  simp only [List.length_append]
  omega
theorem rdO_nil : (rdO []).2 ≠ some [] := by
  have e1 : rI (some []) = (0, none) := rfl
  have e2 : rI none = (0, none) := rfl
  have e3 : ∀ m, rB m none = ([], none) := fun m => rfl
  have e4 : ∀ m, rUp m none = (0, none) := fun m => rfl
  unfold rdO
  simp only [e1, e2, e3, e4, rMany]
  intro h
  cases h
section
variable {aw0 aw : AW} {ro l L S : List (Nat × Blk)} {own : List Nat} {E : List PanicEntry → AW → Prop} {v : Value} {bs : List UInt8} {Q : Bool → AW → Prop}
theorem reads_x (hA : AwkN aw0 own ro) (M : Hp aw0 own ro aw l) (hR : Rs aw0 own ro S v bs ∨ (bs = [] ∧ ∃ q c, v = .slice q 0 c)) (ho : one v = true) (hv : ∃ q c, v = .slice q bs.length c) (hl : bs.length < 2 ^ 60) (hS : ∀ p ∈ S, p ∈ l)
    (hQ : ∀ aw', Q true aw') : CallP prog 4 [v] aw sh4 Q E := by
  refine F4_ok _ aw ?_
  unfold S4_0
  refine hA M (cnd_0x rfl ?_)
  obtain ⟨q0, c0, hv⟩ := hv
  have hsl : ∀ {X : Int → Prop}, X (bs.length : Int) → slen v X := fun hX => by rw [hv]; exact slen_x hX
  refine hsl ?_
  by_cases hc : 3000 < bs.length
  · rw [decide_eq_true (by omega : (3000 : Int) < (bs.length : Int))]
    unfold S4_1
    exact cnd_1x rfl (hA M (hQ _))
  rw [decide_eq_false (by omega : ¬ (3000 : Int) < (bs.length : Int))]
  unfold S4_1
  refine cnd_0x rfl (read_x hR ho (by omega) hS M ⟨?_, ?_⟩)
  · intro bv mv LB LM aw1 hst hB hM M1
    have hRs : Rs aw0 own ro S v bs := hR.resolve_right fun h => by
      have h1 := h.1
      rw [h1] at hst
      exact rdO_nil hst
    obtain ⟨hback, hok⟩ := rdO_back hst
    generalize hoq : (rdO bs).1 = o at hback hok hB hM
    refine alc_x M1 fun qb aw2 M2 => st_x M2 .here (by repeat constructor) rfl rfl (by show (true && (true && (true && (one bv && (true && (one mv && true)))))) = true; rw [hB.one', hM.one']; rfl) fun aw3 M3 => ?_
    have M3 : Hp aw0 own ro aw3 ((qb, OBk o.E o.At o.Raise bv o.Out mv) :: (LB ++ (LM ++ l))) := M3
    refine cnd_0x (by simp) ?_
    refine ptr_x (gI_x (M3.im .here) (by repeat constructor) (gI_x (M3.im .here) (by repeat constructor) (gS_x (M3.im .here) (by repeat constructor) (gV_x (M3.im .here) (by repeat constructor) (gS_x (M3.im .here) (by repeat constructor) (gV_x (M3.im .here) (by repeat constructor) ?_))))))
    have hS3 : ∀ p ∈ S, p ∈ (qb, OBk o.E o.At o.Raise bv o.Out mv) :: (LB ++ (LM ++ l)) := fun p hp => by simp [hS p hp]
    refine toS_b (hRs _ _ M3 hS3) ?_
    obtain ⟨l1, l2⟩ := encO_le o
    have hlen : (encO o).length < 2 ^ 40 := by rw [← hback]; omega
    refine reply_x (S := LB ++ LM) M3 hok.e hok.a hok.m (by omega) (by omega) hlen ((hB.fs (L := LB)).more fun p hp => by simp [hp]) ((hM.fs (L := LM)).more fun p hp => by simp [hp]) (fun p hp => by
      rcases List.mem_append.1 hp with hp | hp <;> simp [hp]) fun v3 L3 aw4 h3 M4 => ?_
    refine againS_b (hRs _ _ M4 fun p hp => List.mem_append.2 (.inr (hS3 p hp))) ?_
    refine toS_b (h3.rs _ _ M4 fun p hp => List.mem_append.2 (.inl hp)) ?_
    have e : (encO ⟨o.E, o.At, o.Raise, o.Binds, o.Out, o.Moves⟩) = bs := by rw [hback]
    rw [e, decide_eq_true rfl]
    exact hQ _
  · intro hst aw1 M1
    refine alc_x M1 fun qb aw2 M2 => st_x M2 .here (by repeat constructor) rfl rfl rfl fun aw3 M3 => ?_
    have M3 : Hp aw0 own ro aw3 ((qb, OBk 0 0 [] nilS [] nilS) :: l) := M3
    refine cnd_1x (by simp) (cnd_1x (by simp) ?_)
    refine ptr_x (gI_x (M3.im .here) (by repeat constructor) (gI_x (M3.im .here) (by repeat constructor) (gS_x (M3.im .here) (by repeat constructor) (gV_x (M3.im .here) (by repeat constructor) (gS_x (M3.im .here) (by repeat constructor) (gV_x (M3.im .here) (by repeat constructor) ?_))))))
    exact same_x (S := []) (binds := []) (moves := []) (by decide) (by decide) .nil .nil .nil .nil (fun p hp => by cases hp) M3 fun aw' _ => hQ aw'
end
end Go.Proofs.Tryz
