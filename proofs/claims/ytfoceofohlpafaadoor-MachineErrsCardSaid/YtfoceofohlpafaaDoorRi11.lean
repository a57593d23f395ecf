/- A call that stands by itself: what it makes is left behind. -/
import Derived.Test.YtfoceofohlpafaaDoorRi10
set_option linter.unusedSimpArgs false
set_option linter.unusedVariables false
set_option linter.unusedSectionVars false
namespace Go.Ri
open Go Go.Am Go.RowKit
variable [SymE]
variable [FT] [FTok]

theorem _root_.Go.Am.Rel.later {G base : Nat} {w0 w w' : World} {s : Inj} {aw : AW} (h : Rel G base w0 s aw w) (hb : Below w.heap.size w w') : Rel G base w0 s aw w' where
  fresh := h.fresh
  mfresh := h.mfresh
  blk b B hB := by
    obtain ⟨e, cs, fz, h1, h2, h3, h4⟩ := h.blk b B hB
    refine ⟨e, cs, fz, h1, h2, ?_, h4⟩
    rw [hb.block _ (Array.getElem?_eq_some_iff.1 h3).1]
    exact h3
  sep := h.sep
  hbase := Nat.le_trans h.hbase hb.size
  glob := h.glob
  below := h.below.trans (hb.mono h.hbase)
theorem plain_ER {s t : Inj} {v : Value} {e : Ending} (hp : plain v = true) (h : ER s (.returned v) e) : ER t (.returned v) e := by
  cases h with
  | returned h =>
    have := VR.eq_of_plain h hp
    subst this
    exact .returned (VR.ofPlain hp)
/-- what is looked at lies there in the memory too -/
def Under (G : Nat) (aw0 aw : AW) : Prop := aw0.next = G ∧ ∀ b B, aw0.m b = some B → b < G ∧ aw.m b = some B ∧ B.rw = false ∧ plains B.cells = true
theorem acalls_apart {P : Program} {f : FuncId} {args : List Value} {aw0 aw aw1 : AW} {v : Value} (hu : Under P.globals.size aw0 aw) (ha : plains args = true) (hv : plain v = true)
    (h : ACalls P f args aw0 fun e aw' => e = .returned v ∧ aw' = aw1) : ACalls P f args aw fun e aw' => e = .returned v ∧ aw' = aw := by
  intro base w0 s args' w hr hargs
  have hargs' : args' = args := by
    have key : ∀ {l l' : List Value}, VRs s l l' → plains l = true → l' = l := by
      intro l
      induction l with
      | nil => intro l' h _; cases h; rfl
      | cons x l ih =>
        intro l' h hp
        cases h with
        | cons hx t =>
          simp only [plains, Bool.and_eq_true] at hp
          rw [VR.eq_of_plain hx hp.1, ih t hp.2]
    exact key hargs ha
  have r0 : Rel P.globals.size w.heap.size w (fun b => if b < P.globals.size then s b else none) aw0 w := by
    refine ⟨?_, ?_, ?_, ?_, Nat.le_refl _, ?_, Below.refl _ _⟩
    · intro b hb
      rw [hu.1] at hb
      simp only [if_neg (show ¬ b < P.globals.size by omega)]
    · intro b hb
      cases hB : aw0.m b with
      | none => rfl
      | some B => have := (hu.2 b B hB).1; rw [hu.1] at hb; omega
    · intro b B hB
      obtain ⟨h1, h2, h3, h4⟩ := hu.2 b B hB
      obtain ⟨e, cs, fz, g1, g2, g3, g4, g5, g6, g7⟩ := hr.blk b B h2
      refine ⟨e, cs, fz, by simp only [if_pos h1]; exact g1, g2, g3, g4, g5, fun i u hi => ?_, fun h => by rw [h3] at h; cases h⟩
      obtain ⟨u', k1, k2⟩ := g6 i u hi
      have hp : plain u = true := by
        have key : ∀ (l : List Value) (i : Nat), plains l = true → l[i]? = some u → plain u = true := by
          intro l
          induction l with
          | nil => intro i _ h; simp at h
          | cons x l ih =>
            intro i hp h
            simp only [plains, Bool.and_eq_true] at hp
            cases i with
            | zero => simp at h; subst h; exact hp.1
            | succ i => exact ih i hp.2 (by simpa using h)
        exact key _ i h4 hi
      rw [VR.eq_of_plain k2 hp] at k1
      exact ⟨u, k1, VR.ofPlain hp⟩
    · intro b1 b2 B1 B2 e1 e2 _ hB1 _ _ _ hrw
      obtain ⟨_, _, h3, _⟩ := hu.2 b1 B1 hB1
      rw [h3] at hrw; cases hrw
    · intro g hg
      obtain ⟨e, h1, h2⟩ := hr.glob g hg
      exact ⟨e, by simp only [if_pos hg]; exact h1, h2⟩
  subst hargs'
  refine (h _ _ _ args' w r0 (VRs.ofPlains ha)).mono ?_
  rintro e w' ⟨s', ae, aw', _, hrel, her, hq, _⟩
  subst hq
  exact ⟨s, .returned v, aw, Inj.le_refl s, hr.later hrel.below, plain_ER hv her, rfl, rfl⟩
/-- a run that ends well, in any memory that bears the variables -/
theorem run_apart {P : Program} {X : Exts} {tab : Nat → Tab} {n d : Nat} (hX : ExtOk P X) (hm : P.follows .mixedOrders = true) {f : FuncId} {args : List Value} {M M' : Mem} {v : Value} (hrun : callN P X tab n d f args M = some (.returned v, M'))
    (ha : plains args = true) (hv : plain v = true) {aw : AW} (hu : Under P.globals.size M.abs aw) {α : Type} {sh : α → Value} {r : α} (hs : v = sh r) {Q : α → AW → Prop} {E : List PanicEntry → AW → Prop} (hQ : Q r aw) : CallP P f args aw sh Q E := by
  refine ACalls.mono (acalls_apart hu ha hv (callN_spec hX hm d f args M _ _ hrun)) fun e aw' he => ?_
  obtain ⟨rfl, rfl⟩ := he
  exact ⟨r, hs, hQ⟩
end Go.Ri
namespace Go.Ri
open Go Go.Am Go.RowKit
variable [SymE]
/-- the memory at first, as abstract memory -/
theorem mem0_abs {G : Nat} : ∀ (l : List (Nat × List Value × TypeId)) (b : Nat) (B : Blk), (mem0 G l).abs.m b = some B → ∃ p ∈ l, p.1 = b ∧ B = ⟨p.2.1, p.2.2, 0, false, 0⟩
  | [], b, B, h => by
    have : (mem0 G []).abs.m b = none := rfl
    rw [this] at h; cases h
  | p :: l, b, B, h => by
    have hbl : (mem0 G (p :: l)).bl = T.set (some ⟨T.ofL p.2.1 0 .leaf, p.2.1.length, p.2.2, 0, false⟩) (mem0 G l).bl p.1 := by
      show (match (mem0 G l).bl with
        | .leaf => T.set (some (⟨T.ofL p.2.1 0 .leaf, p.2.1.length, p.2.2, 0, false⟩ : RB)) .leaf p.1
        | .node a b c => T.set (some ⟨T.ofL p.2.1 0 .leaf, p.2.1.length, p.2.2, 0, false⟩) (.node a b c) p.1) = _
      cases (mem0 G l).bl <;> rfl
    simp only [Mem.abs, Mem.at, hbl, T.get_set] at h
    by_cases hb : b = p.1
    · rw [if_pos hb] at h
      simp only [Option.map_some, Option.some.injEq] at h
      refine ⟨p, by simp, hb.symm, ?_⟩
      rw [← h]
      simp only [RB.abs, Blk.mk.injEq, and_true]
      apply List.ext_getElem?
      intro k
      simp only [List.getElem?_map]
      rcases Nat.lt_or_ge k p.2.1.length with hk | hk
      · rw [List.getElem?_range hk]
        simp only [Option.map_some, T.get_ofL]
        rw [if_pos (by omega), Nat.sub_zero, List.getElem?_eq_getElem hk]; rfl
      · rw [List.getElem?_eq_none (by simp; omega), List.getElem?_eq_none hk]; rfl
    · rw [if_neg hb] at h
      obtain ⟨q, hq, h1, h2⟩ := mem0_abs l b B h
      exact ⟨q, by simp [hq], h1, h2⟩
theorem under_of {G : Nat} {l : List (Nat × List Value × TypeId)} {aw : AW} (h : ∀ p ∈ l, p.1 < G ∧ aw.m p.1 = some ⟨p.2.1, p.2.2, 0, false, 0⟩ ∧ plains p.2.1 = true) : Under G (mem0 G l).abs aw := by
  refine ⟨rfl, fun b B hB => ?_⟩
  obtain ⟨p, hp, rfl, rfl⟩ := mem0_abs l b B hB
  obtain ⟨h1, h2, h3⟩ := h p hp
  exact ⟨h1, h2, rfl, h3⟩
end Go.Ri
