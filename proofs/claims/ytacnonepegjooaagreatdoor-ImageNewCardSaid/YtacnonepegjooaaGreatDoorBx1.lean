/- A round of a range over a function: a piece of a run in any frame, till its code is at an end or returns. -/
import Derived.Test.YtacnonepegjooaaGreatDoorL5
set_option linter.unusedSimpArgs false
set_option linter.unusedVariables false
set_option linter.unusedSectionVars false
namespace Go.Ri
open Go Go.Am Go.RowKit
theorem wpOps_R {P : Program} {ops : Array Oper} {Q : Exit → Act → World → Prop} (hQ : ∀ a w, ¬ Q .outgrown a w) (hQp : ∀ ch a w, ¬ Q (.panic ch) a w) (hnd : ∀ (i : Nat) (o : Oper), ops[i]? = some o → ∀ c, o.op ≠ .defer c) (l : List Nat) :
    ∀ (a : Act) (w : World), wpOps P ops Q l a w → ∀ (b : Frame) (k : List Item) (cs : List Frame),
      ∃ a' w', Q .normal a' w' ∧ Steps P (lone (b.atR a (.inRegion ops l :: k)) cs w) (lone (b.atR a' k) cs w') := by
  induction l with
  | nil => exact fun a w h b k cs => ⟨a, w, h, .one stepR_region_end⟩
  | cons i rest ih =>
    intro a w h b k cs
    simp only [wpOps] at h
    cases ho : ops[i]? with
    | none =>
      simp only [ho] at h
      obtain ⟨a', w', hq, harr⟩ := ih a w h b k cs
      have hs := stepR_op_skip (P := P) (b := b) (a := a) (k := k) (cs := cs) (w := w) (ops := ops) (i := i) (rest := rest) (by simp [ho])
      simp only [ho, Option.bind_none, Act.put] at hs
      exact ⟨a', w', hq, .head hs harr⟩
    | some o =>
      simp only [ho] at h
      by_cases hw : Region.wanted o (yielded ops a.tmps) = true
      · simp only [hw, if_true] at h
        rcases h with h | ⟨hasks, a₀, w₀, hq⟩
        case inr => exact (hQ _ _ hq).elim
        simp only [Oper.wp, Oper.upon] at h
        have hg := stepGR_op (P := P) (b := b) (k := k) (cs := cs) (w := w) (rest := rest) ho hw
        rw [Oper.semAt_eq _ _ _ (hnd i o ho)] at hg
        have hfin : ∀ v, (b.atR a (.inRegion ops (i :: rest) :: k)).finish v = b.atR (a.put o.dst v) (.inRegion ops rest :: k) := by
          intro v; rw [Frame.finish_atR, ho]; rfl
        split at h
        · rename_i v w' hr
          obtain ⟨a', w'', hq, harr⟩ := ih _ _ h b k cs
          refine ⟨a', w'', hq, .head (step_lone_go ?_) harr⟩
          rw [hg, ← hfin]; simp [stepG.apply, hr]
        · rename_i w' hr
          obtain ⟨a', w'', hq, harr⟩ := ih _ _ h b k cs
          refine ⟨a', w'', hq, .head (step_lone_go ?_) harr⟩
          rw [hg, ← hfin]; simp [stepG.apply, hr]
        · rename_i d w' hr
          obtain ⟨a', w'', hq, harr⟩ := ih _ _ h b k cs
          refine ⟨a', w'', hq, .head (step_lone_go ?_) harr⟩
          have : ({ b.atR a (.inRegion ops (i :: rest) :: k) with defers := d :: a.defers } : Frame).finish undef =
              b.atR ({ a with defers := d :: a.defers }.put o.dst undef) (.inRegion ops rest :: k) := by
            have := Frame.finish_atR b { a with defers := d :: a.defers } ops i rest k undef
            rw [ho] at this; exact this
          rw [hg]; simp only [stepG.apply, Sem.runT_eq, hr, GStep.bare_after]
          exact congrArg (fun fr => GStep.go { frame := fr, callers := cs, status := .running, dying := none } w') this
        · rename_i f args w' hr
          obtain ⟨e, w'', fr, hR, hsteps, _, hleave⟩ := h (b.atR a (.inRegion ops (i :: rest) :: k) :: cs)
          have henter : step P (lone (b.atR a (.inRegion ops (i :: rest) :: k)) cs w) =
              .next (lone (Frame.enter P f args .normal) (b.atR a (.inRegion ops (i :: rest) :: k) :: cs) w') :=
            step_lone_go (by rw [hg]; simp [stepG.apply, hr, Frame.atR])
          cases e with
          | returned v =>
            obtain ⟨a', w₃, hq, harr⟩ := ih _ _ hR b k cs
            refine ⟨a', w₃, hq, .head henter (hsteps.trans (.head ?_ harr))⟩
            rw [← hfin]; exact step_leave_returned hleave
          | panicked chain => exact (hQp _ _ _ hR).elim
          | outgrown =>
            obtain ⟨a₀, w₀, hq⟩ := hR
            exact (hQ _ _ hq).elim
        · rename_i row args w' hr
          obtain ⟨v, w'', hR, hsteps⟩ := h (b.atR a (.inRegion ops (i :: rest) :: k)) cs
          have henter : step P (lone (b.atR a (.inRegion ops (i :: rest) :: k)) cs w) =
              .next (lone (Frame.ofRow P row args .normal) (b.atR a (.inRegion ops (i :: rest) :: k) :: cs) w') :=
            step_lone_go (by rw [hg]; simp [stepG.apply, hr, Frame.atR])
          obtain ⟨a', w₃, hq, harr⟩ := ih _ _ hR b k cs
          rw [hfin] at hsteps
          exact ⟨a', w₃, hq, .head henter (hsteps.trans harr)⟩
        · exact (hQp _ _ _ h).elim
        · exact h.elim
      · simp only [hw, if_false, Bool.false_eq_true] at h
        obtain ⟨a', w', hq, harr⟩ := ih _ _ h b k cs
        have hs := stepR_op_skip (P := P) (b := b) (a := a) (k := k) (cs := cs) (w := w) (ops := ops) (i := i) (rest := rest)
          (by simp [ho]; simpa using hw)
        simp only [ho, Option.bind_some] at hs
        exact ⟨a', w', hq, .head hs harr⟩
end Go.Ri
namespace Go.Am
open Go Go.RowKit
variable [SymE]
section
variable {P : Program} {N : Nat} {ops : Array Oper} {k : List Item} {ρ : Env} {ds : List Deferred} {aw : AW} {p : List Nat} {pl : List Pe} {post : Tl} {o : Oper}
theorem any_drawP {Kn : Env → List Deferred → AW → Prop} {Kp : List PanicEntry → Env → List Deferred → AW → Prop} {ρ1 : Env} (hN : dstsOk N ops = true) {two : Bool} (hok : linPOk two ops p pl post = true)
    (hoff : OffL ops p ρ ρ1) (hop : FFl P ops p ρ1 aw) (hk : LinP two P ops post aw Kn Kp pl [] ρ1 ds aw) :
    ∀ (base : Nat → Prop) (w0 : World) (s : Inj) (a : Act) (w : World), St P.globals.size base w0 s ρ N ds aw a w →
      wpAny P .any ops (QQ P.globals.size base w0 s N Kn Kp) ops.size (Array.replicate ops.size false) a { w with drawn := w.drawn + 1 } := by
  simp only [linPOk, Bool.and_eq_true] at hok
  obtain ⟨⟨⟨⟨⟨⟨h1, h2⟩, h3⟩, h4⟩, h5⟩, h6⟩, h7⟩ := hok
  intro base w0 s a w hst
  simp only [List.all_eq_true, Bool.and_eq_true, bne_iff_ne, ne_eq, Bool.or_eq_true, beq_iff_eq, decide_eq_true_eq, List.mem_range, List.any_eq_true] at h1 h2 h3 h6
  have hmask : ∀ j, (Array.replicate ops.size false).getD j true = if j < ops.size then false else true := by
    intro j
    simp only [Array.getD_eq_getD_getElem?]
    by_cases hj : j < ops.size
    · simp [hj]
    · simp [hj]
  have h0 : left (Array.replicate ops.size false) = ops.size := by
    unfold left
    rw [Array.toList_replicate, List.countP_replicate]
    simp
  have hst' : St P.globals.size base w0 s ρ N ds aw a w.drew := ⟨hst.rel.drew, hst.env, hst.size, hst.dfr, hst.mrk, hst.nd⟩
  have hq1 : ∀ e ∈ pl, ∀ j, j ∈ e.q ∨ j ∈ e.nh → j ∈ quietP p pl post := fun e he j hj => List.mem_append.2 (.inr (List.mem_append.2 (.inl (List.mem_flatMap.2 ⟨e, he, List.mem_append.2 hj⟩))))
  have hq2 : ∀ e ∈ post, ∀ j, j ∈ e.2.1 ∨ j ∈ e.2.2 → j ∈ quietP p pl post := fun e he j hj => List.mem_append.2 (.inr (List.mem_append.2 (.inr (List.mem_flatMap.2 ⟨e, he, List.mem_append.2 hj⟩))))
  have ho1 : ∀ e ∈ pl, ∀ j ∈ e.own, j ∈ pl.flatMap Pe.own ++ post.map (·.1) := fun e he j hj => List.mem_append.2 (.inl (List.mem_flatMap.2 ⟨e, he, hj⟩))
  have ho2 : ∀ e ∈ post, e.1 ∈ pl.flatMap Pe.own ++ post.map (·.1) := fun e he => List.mem_append.2 (.inr (List.mem_map.2 ⟨e, he, rfl⟩))
  have hqs : ∀ i ∈ quietP p pl post, i < ops.size := fun i hi => (h1 i hi).1.1.1
  refine lin_plan (hs := quietP p pl post) (wS := w.drew) (awS := aw) hN ?_ h4 h5 ?_ hst'.rel ?_ (ops.size + pl.length) ops.size pl rfl _ ρ ρ1 ds aw p [] [] a w.drew (by simp) h0 ?_ ?_ ?_ h6 ?_ (fun i hi => List.mem_append.2 (.inl hi)) ?_ (fun F hF => by cases hF) (fun F hF => by cases hF) h7 (fun c hc => by cases hc) (fun F hF => by cases hF) (fun c hc => by cases hc) hop hk
    ⟨⟨s, Inj.le_refl s, ?_, fun p hp => by cases hp⟩, Nat.le_refl _, (fun p hp => by cases hp), List.nodup_nil⟩
  · intro i hi
    obtain ⟨⟨⟨b1, b2⟩, b3⟩, b4⟩ := h1 i hi
    obtain ⟨d, hd⟩ := Option.isSome_iff_exists.1 b2
    exact ⟨b1, d, hd, fun j hj hjd => ((b3 j hj).resolve_right (fun h => h (hd.trans hjd.symm))).symm⟩
  · intro e he
    exact ⟨h2 e.1 (ho2 e he), fun i hi => (h1 i hi).2 e.1 (ho2 e he), fun j hj => hq2 e he j (.inl hj), fun j hj => hq2 e he j (.inr hj)⟩
  · exact (List.nodup_append.1 h6).2.1
  · intro j hj _
    rcases h3 j hj with (h | ⟨e, he, h⟩) | ⟨e, he, h⟩
    · exact .inl (by simpa using h)
    · refine .inr (.inr (.inl ⟨e, he, ?_⟩))
      rcases h with h | h
      · exact .inl (by simpa using h)
      · exact .inr (by simpa using h)
    · refine .inr (.inr (.inr ⟨e, he, ?_⟩))
      rcases h with h | h
      · exact .inl h
      · exact .inr (by simpa using h)
  · intro e he
    refine ⟨fun j hj => ?_, fun j hj => hq1 e he j (.inl hj), fun j hj => ?_⟩
    · have hjs := h2 j (ho1 e he j hj)
      exact ⟨hjs, by rw [hmask, if_pos hjs], fun i hi => (h1 i hi).2 j (ho1 e he j hj), fun F hF => by cases hF⟩
    · have hm' := hq1 e he j (.inr hj)
      exact ⟨hm', by rw [hmask, if_pos (hqs j hm')]⟩
  · intro e he
    refine ⟨by rw [hmask, if_pos (h2 e.1 (ho2 e he))], (fun F hF => by cases hF), fun j hj => ?_⟩
    rw [hmask, if_pos (hqs j (hq2 e he j (.inr hj)))]
  · intro j hj hjs
    unfold listedOf at hj
    rw [hmask, if_pos hjs] at hj; cases hj
  · intro t ht
    refine (hoff t fun j hj => ht j hj ?_).symm
    rw [hmask, if_pos (hqs j (List.mem_append.2 (.inl hj)))]
  · have e : hide (ApV.ds []) ρ = ρ := by funext t; simp [hide, ApV.ds]
    rw [e]; exact hst'
end
end Go.Am
