/- awake() is known. -/
import Derived.Test.YtacnonepegjooaaGreatDoorIK0
import Derived.Test.YtacnonepegjooaaGreatDoorIT1
import Derived.Test.YtacnonepegjooaaGreatDoorIT2
import Derived.Test.YtacnonepegjooaaGreatDoorIaS
import Derived.Test.YtacnonepegjooaaGreatDoorSd3
set_option linter.unusedSimpArgs false
set_option linter.unusedVariables false
set_option linter.unusedSectionVars false
set_option maxRecDepth 100000
namespace Go.Proofs.YtacnonepegjooaaGreatDoor
open Go Go.Am Go.Ri Go.RowKit
variable [SymE]
theorem O0_spec (C : Caller) (hC : CS Tryz.prog C) : CS Tryz.prog (O0 C) := orSum_spec Tryz.sum_calls (fun h => absurd rfl h) hC
theorem C0_spec : CS Tryz.prog C0 := by
  letI : FT := ftOf {}
  haveI : FTok := ftOk (F := {}) ⟨(fun _ h => by cases h), (fun _ h => by cases h), (fun _ h => by cases h), (fun _ h => by cases h)⟩
  exact callQ_spec (O := O0) O0_spec hP hX0 hRB0 hmix 60
theorem callP_of_cs {α : Type} {P : Program} {C : Caller} (hC : CS P C) {f : FuncId} {args : List Value} {M M' : Mem} {e : AEnd} (h : C f args M = some (e, M')) {sh : α → Value} {K : α → AW → Prop} {E : List PanicEntry → AW → Prop} (hk : Am.Ends sh K E e M'.abs) : CallP P f args M.abs sh K E :=
  ACalls.mono (hC f args M e M' h) fun e' aw' ⟨h1, h2⟩ => by subst h1; subst h2; exact hk
theorem w5_spec {w a0 a1 a2 a3 a4 : Value} (h : w5 w = some (a0, a1, a2, a3, a4)) : w = .agg ⟨[a0, a1, a2, a3, a4]⟩ ∧ ([a0, a1, a2, a3, a4].all Am.one) = true ∧ ∃ q n c, a3 = .slice q n c := by
  unfold w5 at h
  split at h
  · cases h; exact ⟨rfl, rfl, _, _, _, rfl⟩
  · cases h
theorem alloc_st {aw : AW} {z cs : List Value} {t e : Nat} (h : z.length = cs.length) : aw.alloc cs t e = (aw.alloc z t e).setN aw.next 0 cs := by
  have hB : (aw.alloc z t e).m aw.next = some ⟨z, t, e, true, 0⟩ := by simp [AW.alloc]
  rw [setN_lay cs hB]
  refine AW.ext' ?_ rfl
  funext c
  simp only [AW.alloc, AW.lay]
  by_cases hc : c = aw.next
  · simp only [hc, if_true, Option.some.injEq, Blk.mk.injEq, and_true, true_and]
    apply List.ext_getElem?
    intro k
    rw [putL_get _ _ _ _ (by omega)]
    by_cases hk : k < cs.length
    · rw [if_pos (by omega), Nat.sub_zero]
    · rw [if_neg (by omega), List.getElem?_eq_none (by omega), List.getElem?_eq_none (by omega)]
  · simp [hc]
theorem box5 {M1 : Mem} {a0 a1 a2 a3 a4 : Value} (ho : ([a0, a1, a2, a3, a4].all Am.one) = true) {K : Value → AW → Prop}
    (hK : (∀ (i : Nat) v, [a0, a1, a2, a3, a4][i]? = some v → (M1.alloc [a0, a1, a2, a3, a4] 31 0).abs.get M1.next i = some v) → K (.pointer (some ⟨M1.next, 0, none⟩)) (M1.alloc [a0, a1, a2, a3, a4] 31 0).abs) :
    alc M1.abs [(.slice none 0 0), (.slice none 0 0), (.slice none 0 0), (.slice none 0 0), (.pointer none)] 31 0 fun p aw => st aw p [a0, a1, a2, a3, a4] fun aw => K p aw := by
  have hst := alloc_st (aw := M1.abs) (z := [(.slice none 0 0), (.slice none 0 0), (.slice none 0 0), (.slice none 0 0), (.pointer none)]) (cs := [a0, a1, a2, a3, a4]) (t := 31) (e := 0) rfl
  rw [← M1.alloc_spec] at hst
  have hB2 : (M1.alloc [a0, a1, a2, a3, a4] 31 0).abs.m M1.next = some ⟨[a0, a1, a2, a3, a4], 31, 0, true, 0⟩ := by
    rw [M1.alloc_spec]
    show (if M1.abs.next = M1.abs.next then _ else _) = _
    rw [if_pos rfl]
  refine ⟨_, _, rfl, rfl, M1.next, 0, _, rfl, ⟨⟨[(.slice none 0 0), (.slice none 0 0), (.slice none 0 0), (.slice none 0 0), (.pointer none)], 31, 0, true, 0⟩, ?_, rfl, Nat.le_refl 5, rfl⟩, ho, hst, hK fun i v hv => ?_⟩
  · show (if M1.abs.next = M1.abs.next then _ else _) = _
    rw [if_pos rfl]
  · rw [AW.get, hB2]; exact hv
theorem PLs_mem (u : Nat → TypeId) : ∀ p ∈ PL u, (p.1, p.2.1, p.2.2.2) ∈ PLs ∧ p.2.2.1 = u p.1 := by
  intro p hp
  have hp' : p ∈ [(0, givenC, u 0, 0), (1, primsC, u 1, 0), (2, takesC, u 2, 0), (3, leavesC, u 3, 0)] := hp
  have hq : ∀ q, q ∈ [(0, givenC, 0), (1, primsC, 0), (2, takesC, 0), (3, leavesC, 0)] → q ∈ PLs := fun q h => h
  simp only [List.mem_cons, List.not_mem_nil, or_false] at hp'
  rcases hp' with rfl | rfl | rfl | rfl <;> exact ⟨hq _ (by simp), rfl⟩
noncomputable def elsOf (M : Mem) (k : Nat) : TypeId := match M.at k with
  | some B => B.elem
  | none => 0
theorem sub_AB {M2 : Mem} {x : Option (AEnd × Mem)} (h : endA x = true) (hx : ∃ e, x = some (e, M2)) : x = some (.returned (.slice (some ⟨2190, 0, none⟩) 455 UNK), M2) ∧ Sub (MB (elsOf M2)).abs M2.abs := by
  letI : FT := ftOf {}
  haveI : FTok := ftOk (F := {}) ⟨(fun _ h => by cases h), (fun _ h => by cases h), (fun _ h => by cases h), (fun _ h => by cases h)⟩
  obtain ⟨e, rfl⟩ := hx
  unfold endA at h
  split at h; rotate_left; · cases h
  rename_i b n c M2' heq
  simp only [Option.some.injEq, Prod.mk.injEq] at heq
  obtain ⟨rfl, rfl⟩ := heq
  simp only [Bool.and_eq_true, Nat.beq_eq] at h
  obtain ⟨⟨rfl, rfl, rfl, hnx⟩, hB, hG, hS⟩ := h
  refine ⟨rfl, ?_, fun b B' hB' => ?_, fun b => T.get_leaf b⟩
  · show 2191 = M2.next
    exact hnx.symm
  · obtain ⟨p, hp, rfl, rfl⟩ := memR_abs _ b B' hB'
    rcases List.mem_cons.1 hp with rfl | hp
    · split at hB; rotate_left; · cases hB
      rename_i B hb
      simp only [Bool.and_eq_true, Nat.beq_eq] at hB
      obtain ⟨h1, h2, h3, h4⟩ := hB
      split at hG; rotate_left; · cases hG
      rename_i l hl
      have hl2 := lEq_spec (vEq_spec 2) hG
      subst hl2
      have hw := getN_whole (M2.abs_m hb)
      rw [B.abs_len, h1, Mem.getN_spec hl] at hw
      exact ⟨B.abs, M2.abs_m hb, Option.some.inj hw, h2.symm, h3.symm, rfl⟩
    · obtain ⟨g1, g2⟩ := PLs_mem _ p hp
      obtain ⟨B, k1, k2⟩ := standL_spec (l := PLs) hS _ g1
      refine ⟨_, k2, rfl, ?_, rfl, rfl⟩
      show p.2.2.1 = B.elem
      rw [g2]
      simp only [elsOf, k1]
theorem awk_x (u : Nat → TypeId) : ∃ aw1, ACalls Tryz.prog 4 [] (PM u).abs fun e aw' => e = .returned (.bool true) ∧ aw' = aw1 := by
  have hC := C0_spec
  have hA := rA u
  unfold runA at hA
  cases hA1 : C0 12 [.int .i64 3000, .slice (some ⟨8, 0, none⟩) 1 1] (M00 u) with
  | none => rw [hA1] at hA; cases hA
  | some x =>
  rw [hA1] at hA
  obtain ⟨e1, M1⟩ := x
  unfold midA at hA
  split at hA; rotate_left; · cases hA
  rename_i w M1' heq
  simp only [Option.some.injEq, Prod.mk.injEq] at heq
  obtain ⟨rfl, rfl⟩ := heq
  split at hA; rotate_left; · cases hA
  rename_i a0 a1 a2 a3 a4 hw
  obtain ⟨rfl, ho, _⟩ := w5_spec hw
  cases hA2 : C0 6 [.agg ⟨[a0, a1, a2, a3, a4]⟩] (M1.alloc [a0, a1, a2, a3, a4] 31 0) with
  | none => rw [hA2] at hA; cases hA
  | some x =>
  obtain ⟨e2, M2⟩ := x
  rw [hA2] at hA
  obtain ⟨heq, hsub⟩ := sub_AB hA ⟨_, rfl⟩
  simp only [Option.some.injEq, Prod.mk.injEq, and_true] at heq
  subst heq
  have hB := rB (elsOf M2)
  unfold runB at hB
  cases hB1 : C0 7 [.slice (some ⟨2190, 0, none⟩) 455 UNK] (MB (elsOf M2)) with
  | none => rw [hB1] at hB; cases hB
  | some x =>
  rw [hB1] at hB
  obtain ⟨e3, M3⟩ := x
  unfold midB at hB
  split at hB; rotate_left; · cases hB
  rename_i w M3' heq
  simp only [Option.some.injEq, Prod.mk.injEq] at heq
  obtain ⟨rfl, rfl⟩ := heq
  split at hB; rotate_left; · cases hB
  rename_i b0 b1 b2 q3 n3 c3 b4 hw2
  obtain ⟨rfl, ho2, _⟩ := w5_spec hw2
  simp only [Bool.and_eq_true, Nat.beq_eq] at hB
  obtain ⟨rfl, hB⟩ := hB
  cases hB2 : C0 13 [.agg ⟨[b0, b1, b2, .slice q3 10 c3, b4]⟩, .string ⟨⟨[102, 32, 55]⟩⟩, .int .i64 9] (M3.alloc [b0, b1, b2, .slice q3 10 c3, b4] 31 0) with
  | none => rw [hB2] at hB; cases hB
  | some x =>
  obtain ⟨e4, M4⟩ := x
  rw [hB2] at hB
  unfold endB at hB
  split at hB; rotate_left; · cases hB
  rename_i w s M4' heq
  simp only [Option.some.injEq, Prod.mk.injEq] at heq
  obtain ⟨rfl, rfl⟩ := heq
  split at hB; rotate_left; · cases hB
  rename_i x5 hw3
  obtain ⟨d0, d1, d2, d3, d4⟩ := x5
  obtain ⟨rfl, ho3, _⟩ := w5_spec hw3
  have hs := vEq_spec 2 _ _ hB
  refine ⟨(M4.alloc [d0, d1, d2, d3, d4] 31 0).abs, ?_⟩
  refine ACalls.mono (Tryz.F4_ok (Q := fun r aw => r = true ∧ aw = (M4.alloc [d0, d1, d2, d3, d4] 31 0).abs) (E := fun _ _ => False) (PM u).abs ?_) (fun e' aw' h => match e', h with
    | .returned _, ⟨r, h1, h2⟩ => by subst h1; obtain ⟨rfl, rfl⟩ := h2; exact ⟨rfl, rfl⟩
    | .panicked _, h => h.elim)
  unfold Tryz.S4_0
  refine ⟨_, (M00 u).abs, rfl, Mem.alloc_spec _ _ _ _, ?_⟩
  refine callP_of_cs hC hA1 ⟨(a0, a1, a2, a3, a4, true), rfl, ?_⟩
  refine box5 ho fun g => ⟨M1.next, 0, rfl, a0, g 0 _ rfl, a1, g 1 _ rfl, a2, g 2 _ rfl, a3, g 3 _ rfl, a4, g 4 _ rfl, ?_⟩
  refine callP_of_cs hC hA2 ⟨_, rfl, ?_⟩
  refine acalls_sub hsub ?_
  refine callP_of_cs hC hB1 ⟨(b0, b1, b2, .slice q3 10 c3, b4, 0), rfl, ?_⟩
  refine box5 ho2 fun g => cnd_0x rfl (cnd_0x rfl (fldA_x (fldA_x ⟨M3.next, 3, _, rfl, g 3 _ rfl, slen_x (cnd_0x rfl ⟨M3.next, 0, rfl, b0, g 0 _ rfl, b1, g 1 _ rfl, b2, g 2 _ rfl, _, g 3 _ rfl, b4, g 4 _ rfl, ?_⟩)⟩)))
  refine callP_of_cs hC hB2 ⟨(d0, d1, d2, d3, d4, ⟨⟨s⟩⟩), rfl, ?_⟩
  refine box5 ho3 fun g => ⟨decide_eq_true (Value.string.inj hs), rfl⟩
end Go.Proofs.YtacnonepegjooaaGreatDoor
