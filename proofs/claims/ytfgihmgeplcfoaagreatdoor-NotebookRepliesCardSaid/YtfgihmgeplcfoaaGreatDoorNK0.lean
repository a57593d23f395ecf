/- The notebook's laws: from the row's world to a run. -/
import Derived.Test.YtfgihmgeplcfoaaGreatDoorRows
import Derived.Test.YtfgihmgeplcfoaaGreatDoorNT1
import Derived.Test.YtfgihmgeplcfoaaGreatDoorNcG
import Derived.Test.YtfgihmgeplcfoaaGreatDoorL5
import Derived.Stop.LaidErr
import Derived.WalkKit
import Derived.ProofKit
import Derived.OpenShut
import Derived.ShutString
import Derived.ChangeOld
import Derived.Below
import Derived.LaidMore
import Derived.Stop.Joined
namespace Go.Proofs.YtfgihmgeplcfoaaGreatDoor
open Go.ChangeShapes Go.WideShapes Go.ChangeAt Go.RowKit Go.Am Go.Ri
open Go.ChangeMaps (open_string shut_string)
set_option linter.unusedVariables false
set_option linter.unusedSimpArgs false
set_option linter.unusedSectionVars false
set_option maxRecDepth 100000
theorem own : ownKnob Tryz.prog.godebug = none := by kernel_rfl
theorem laidOut : laidOutB Tryz.prog = true := by kernel_rfl
def laidAll : List (String × DataW Unit) := [("math/bits.deBruijn32tab", Rows.laid_math_bits_deBruijn32tab), ("math/bits.deBruijn64tab", Rows.laid_math_bits_deBruijn64tab), ("internal/strconv.uint64pow10", Rows.laid_internal_strconv_uint64pow10), ("battledore/code.takes", Rows.laid_battledore_code_takes), ("battledore/code.leaves", Rows.laid_battledore_code_leaves), ("battledore/infer.given", Rows.laid_battledore_infer_given), ("battledore/infer.Prims", Rows.laid_battledore_infer_Prims), ("strconv.ErrRange", Rows.laid_strconv_ErrRange), ("strconv.ErrSyntax", Rows.laid_strconv_ErrSyntax), ("bytes.ErrTooLarge", Rows.laid_bytes_ErrTooLarge), ("battledore/lex.words", Rows.laid_battledore_lex_words), ("battledore/lex.signs", Rows.laid_battledore_lex_signs), ("battledore/parse.levels", Rows.laid_battledore_parse_levels)]
theorem door_met (os : Os) (args : Array Value) : laidMetH Tryz.prog laidAll ((World.doorLaid Tryz.prog 4000 os).forCall (fun _ _ => 0) ⟨#[], args, []⟩).memory :=
  laidMetH_of_parts3 (fuel := 8) (laidMet_of_run' 8 (by kernel_rfl) (by kernel_rfl)) (by kernel_rfl) (by kernel_rfl)
theorem gsz : Tryz.prog.globals.size = 14 := by kernel_rfl
theorem hmix : Tryz.prog.follows .mixedOrders = true := by kernel_rfl
theorem ext201 : IsExt Tryz.prog 201 Extern.BytealgIndexByte.indexByte := ⟨Tryz.f201, Tryz.func201, by kernel_rfl, by kernel_rfl, by kernel_rfl, by kernel_rfl⟩
theorem ext282 : IsExt Tryz.prog 282 Extern.AbiNoEscape.same := ⟨Tryz.f282, Tryz.func282, by kernel_rfl, by kernel_rfl, by kernel_rfl, by kernel_rfl⟩
theorem hX0 : ExtOk Tryz.prog X0 := fun g => by
  unfold X0
  cases h201 : Nat.beq g 201 with
  | true => obtain rfl := Nat.eq_of_beq_eq_true h201; exact ⟨(fun _ => ext201), (fun h => by cases h)⟩
  | false =>
    cases h282 : Nat.beq g 282 with
    | true => obtain rfl := Nat.eq_of_beq_eq_true h282; exact ⟨(fun h => by cases h), (fun _ => ext282)⟩
    | false => exact ⟨(fun h => by cases h), (fun h => by cases h)⟩
theorem back210 : IsBack Tryz.prog 210 62 9 := ⟨Tryz.f210, _, _, _, _, _, _, _, _, _, _, _, _, _, _, _, Tryz.func210, by kernel_rfl, by kernel_rfl, by kernel_rfl, rfl, rfl, rfl, rfl, rfl⟩
theorem back302 : IsBack Tryz.prog 302 219 332 := ⟨Tryz.f302, _, _, _, _, _, _, _, _, _, _, _, _, _, _, _, Tryz.func302, by kernel_rfl, by kernel_rfl, by kernel_rfl, rfl, rfl, rfl, rfl, rfl⟩
theorem back304 : IsBack Tryz.prog 304 65 148 := ⟨Tryz.f304, _, _, _, _, _, _, _, _, _, _, _, _, _, _, _, Tryz.func304, by kernel_rfl, by kernel_rfl, by kernel_rfl, rfl, rfl, rfl, rfl, rfl⟩
theorem back353 : IsBack Tryz.prog 353 103 325 := ⟨Tryz.f353, _, _, _, _, _, _, _, _, _, _, _, _, _, _, _, Tryz.func353, by kernel_rfl, by kernel_rfl, by kernel_rfl, rfl, rfl, rfl, rfl, rfl⟩
theorem back355 : IsBack Tryz.prog 355 104 106 := ⟨Tryz.f355, _, _, _, _, _, _, _, _, _, _, _, _, _, _, _, Tryz.func355, by kernel_rfl, by kernel_rfl, by kernel_rfl, rfl, rfl, rfl, rfl, rfl⟩
theorem hRB0 : RBok Tryz.prog RB0 := fun g tS e h => by
  unfold RB0 at h
  cases h0 : Nat.beq g 210 with
  | true =>
    obtain rfl := Nat.eq_of_beq_eq_true h0
    rw [h0] at h
    simp only [cond_true, cond_false, Option.some.injEq, Prod.mk.injEq] at h
    obtain ⟨rfl, rfl⟩ := h
    exact back210
  | false =>
    rw [h0] at h
    cases h1 : Nat.beq g 302 with
    | true =>
      obtain rfl := Nat.eq_of_beq_eq_true h1
      rw [h1] at h
      simp only [cond_true, cond_false, Option.some.injEq, Prod.mk.injEq] at h
      obtain ⟨rfl, rfl⟩ := h
      exact back302
    | false =>
      rw [h1] at h
      cases h2 : Nat.beq g 304 with
      | true =>
        obtain rfl := Nat.eq_of_beq_eq_true h2
        rw [h2] at h
        simp only [cond_true, cond_false, Option.some.injEq, Prod.mk.injEq] at h
        obtain ⟨rfl, rfl⟩ := h
        exact back304
      | false =>
        rw [h2] at h
        cases h3 : Nat.beq g 353 with
        | true =>
          obtain rfl := Nat.eq_of_beq_eq_true h3
          rw [h3] at h
          simp only [cond_true, cond_false, Option.some.injEq, Prod.mk.injEq] at h
          obtain ⟨rfl, rfl⟩ := h
          exact back353
        | false =>
          rw [h3] at h
          cases h4 : Nat.beq g 355 with
          | true =>
            obtain rfl := Nat.eq_of_beq_eq_true h4
            rw [h4] at h
            simp only [cond_true, cond_false, Option.some.injEq, Prod.mk.injEq] at h
            obtain ⟨rfl, rfl⟩ := h
            exact back355
          | false =>
            rw [h4] at h
            cases h
variable [SymE]
theorem csz_of {W : World} {b : Nat} {C : Array Value} {el : TypeId} {fz : Nat × Nat} (h : W.heap[b]? = some (.cells C el fz)) : csz W b = C.size := by simp [csz, h]
theorem str_blk {W : World} {G : Nat} {ents : List Ent} {a : Addr} {C : Array Value} {el : TypeId} {fz : Nat × Nat} {s : List (List UInt8)} (hh : W.heap[a.block]? = some (.cells C el fz)) (hne : s ≠ []) (hc : ∀ (j : Nat) (x : List UInt8), s[j]? = some x → C[a.off + j]? = some (.string ⟨⟨x⟩⟩)) {k : Nat}
    (hk : inj0 G W ents k = some ⟨a.block, a.off, csz W a.block, 1⟩) {n : Nat} (hn : k < n) : k < n ∧ ∃ e cs fz', inj0 G W ents k = some e ∧ e.esz = 1 ∧ (1 = 0 → e.off = 0 ∧ e.csize = (strC s).length) ∧ W.heap[e.cb]? = some (.cells cs el fz') ∧ cs.size = e.csize ∧ e.off + (strC s).length ≤ e.csize ∧
      ∀ (i : Nat) (v : Value), (strC s)[i]? = some v → ∃ v', cs[e.off + i]? = some v' ∧ VR (inj0 G W ents) v v' := by
  refine ⟨hn, _, C, fz, hk, rfl, (fun h => by cases h), hh, (csz_of hh).symm, ?_, fun i v hi => ?_⟩
  · simp only [csz_of hh, strC, List.length_map]
    have hl : 0 < s.length := List.length_pos_iff.2 hne
    have := hc (s.length - 1) s[s.length - 1] (List.getElem?_eq_getElem (by omega))
    have := (Array.getElem?_eq_some_iff.1 this).1
    omega
  · simp only [strC, List.getElem?_map, Option.map_eq_some_iff] at hi
    obtain ⟨x, hx, rfl⟩ := hi
    exact ⟨_, hc i x hx, .string _⟩
theorem glob_blk {W : World} {G : Nat} {ents : List Ent} {g : Nat} {cs : Array Value} {cells : List Value} {t : TypeId} {fz : Nat × Nat} (hh : W.heap[g]? = some (.cells cs t fz)) (hc : cs.toList = cells) (hp : plains cells = true) (hg : g < G) {n : Nat} (hn : g < n) :
    g < n ∧ ∃ e cs fz', inj0 G W ents g = some e ∧ e.esz = 0 ∧ (0 = 0 → e.off = 0 ∧ e.csize = cells.length) ∧ W.heap[e.cb]? = some (.cells cs t fz') ∧ cs.size = e.csize ∧ e.off + cells.length ≤ e.csize ∧
      ∀ (i : Nat) (v : Value), cells[i]? = some v → ∃ v', cs[e.off + i]? = some v' ∧ VR (inj0 G W ents) v v' := by
  have hl : cs.size = cells.length := by rw [← hc]; simp
  refine ⟨hn, ⟨g, 0, csz W g, 0⟩, cs, fz, by simp [inj0, hg], rfl, fun _ => ⟨rfl, by simp only [csz_of hh]; exact hl⟩, hh, (csz_of hh).symm, by simp only [csz_of hh]; omega, fun i v hi => ⟨v, ?_, ?_⟩⟩
  · simp only [Nat.zero_add]
    rw [← hi, ← hc]; simp
  · refine VR.ofPlain ?_
    have key : ∀ (l : List Value) (i : Nat), plains l = true → l[i]? = some v → plain v = true := by
      intro l
      induction l with
      | nil => intro i _ h; simp at h
      | cons x l ih =>
        intro i hp h
        simp only [plains, Bool.and_eq_true] at hp
        cases i with
        | zero => simp at h; subst h; exact hp.1
        | succ i => exact ih i hp.2 (by simpa using h)
    exact key _ i hp hi
theorem sl_vr {s : Inj} {k n : Nat} {a : Addr} {e : Ent} (hs : s k = some e) (h1 : e.cb = a.block) (h2 : e.off = a.off) (hsp : a.spot = none) (hn : n < UNK) : VR s (.slice (some ⟨k, 0, none⟩) n n) (.slice (some a) n n) :=
  .slice (Nat.le_refl _) (fun _ => rfl) fun _ => ⟨e, hs, by cases a; simp_all, fun h => by omega⟩
theorem relN {W : World} (hL : laidMetH Tryz.prog laidAll W) : ∃ (t u : Nat → TypeId) (ents : List Ent), Rel 14 (· < W.heap.size) W (inj0 14 W ents) (PM t u).abs W := by
  letI : FT := ftOf {}
  haveI : FTok := ftOk (F := {}) ⟨(fun _ h => by cases h), (fun _ h => by cases h), (fun _ h => by cases h), (fun _ h => by cases h)⟩
  have hL' : laidMet Tryz.prog laidAll W := by
    rw [MakeChecks.laidMetH_plain _ _ _ (by kernel_rfl)] at hL; exact hL
  obtain ⟨ps, hl, _, _⟩ := hL'
  obtain ⟨t0, cs0, fz0, a0, b0⟩ := laid_cells hl (n := "battledore/infer.given") (d := Rows.laid_battledore_infer_given) (by simp [laidAll]) (g := 0) (t := 142) (m := 5) (cells := givenC) (by kernel_rfl) (by kernel_rfl) (by kernel_rfl)
  obtain ⟨t1, cs1, fz1, a1, b1⟩ := laid_cells hl (n := "battledore/infer.Prims") (d := Rows.laid_battledore_infer_Prims) (by simp [laidAll]) (g := 1) (t := 145) (m := 5) (cells := primsC) (by kernel_rfl) (by kernel_rfl) (by kernel_rfl)
  obtain ⟨t2, cs2, fz2, a2, b2⟩ := laid_cells hl (n := "battledore/lex.signs") (d := Rows.laid_battledore_lex_signs) (by simp [laidAll]) (g := 2) (t := 265) (m := 5) (cells := signsC) (by kernel_rfl) (by kernel_rfl) (by kernel_rfl)
  obtain ⟨t3, cs3, fz3, a3, b3⟩ := laid_cells hl (n := "battledore/lex.words") (d := Rows.laid_battledore_lex_words) (by simp [laidAll]) (g := 3) (t := 320) (m := 5) (cells := wordsC) (by kernel_rfl) (by kernel_rfl) (by kernel_rfl)
  obtain ⟨t6, cs6, fz6, a6, b6⟩ := laid_cells hl (n := "battledore/code.takes") (d := Rows.laid_battledore_code_takes) (by simp [laidAll]) (g := 6) (t := 400) (m := 5) (cells := takesC) (by kernel_rfl) (by kernel_rfl) (by kernel_rfl)
  obtain ⟨t7, cs7, fz7, a7, b7⟩ := laid_cells hl (n := "battledore/code.leaves") (d := Rows.laid_battledore_code_leaves) (by simp [laidAll]) (g := 7) (t := 400) (m := 5) (cells := leavesC) (by kernel_rfl) (by kernel_rfl) (by kernel_rfl)
  obtain ⟨g, tt, cs5, fuel, p, q1, q2, q3, q4⟩ := laid_get hl "battledore/parse.levels" Rows.laid_battledore_parse_levels (by simp [laidAll])
  obtain rfl := Option.some.inj ((show Tryz.prog.globalNamed "battledore/parse.levels" = some 5 by kernel_rfl).symm.trans q1)
  obtain rfl := Option.some.inj ((show (Tryz.prog.globals[5]?).map (·.type) = some 383 by kernel_rfl).symm.trans q2)
  obtain ⟨t5, fz5, a5⟩ := var_heap q1 q3
  obtain ⟨hlen, hS⟩ := trod_slices (ss := levS) (n := 7) (e1 := 62) (e := 9) (show Tryz.prog.underlying 383 = some (.array 7 62) by kernel_rfl) (show Tryz.prog.underlying 62 = some (.slice 9) by kernel_rfl) (show Tryz.prog.underlying 9 = some .string by kernel_rfl) (by kernel_rfl) (by kernel_rfl) (by kernel_rfl) q4
  obtain ⟨d0, c0, s0, C0, e0, f0, h0, k0⟩ := hS 0 _ rfl (by decide)
  obtain ⟨d1, c1, s1, C1, e1, f1, h1, k1⟩ := hS 1 _ rfl (by decide)
  obtain ⟨d2, c2, s2, C2, e2, f2, h2, k2⟩ := hS 2 _ rfl (by decide)
  obtain ⟨d3, c3, s3, C3, e3, f3, h3, k3⟩ := hS 3 _ rfl (by decide)
  obtain ⟨d4, c4, s4, C4, e4, f4, h4, k4⟩ := hS 4 _ rfl (by decide)
  obtain ⟨d5, c5, s5, C5, e5, f5, h5, k5⟩ := hS 5 _ rfl (by decide)
  obtain ⟨d6, c6, s6, C6, e6, f6, h6, k6⟩ := hS 6 _ rfl (by decide)
  let E : Addr → Ent := fun d => ⟨d.block, d.off, csz W d.block, 1⟩
  refine ⟨fun i => [e0, e1, e2, e3, e4, e5, e6].getD i 0, fun g => [t0, t1, t2, t3, 0, t5, t6, t7].getD g 0, [E d0, E d1, E d2, E d3, E d4, E d5, E d6], ?_⟩
  refine rel_memR rfl ?_
  intro p hp
  have hp' : p ∈ [(0, givenC, t0, 0), (1, primsC, t1, 0), (2, signsC, t2, 0), (3, wordsC, t3, 0), (5, levC, t5, 0), (6, takesC, t6, 0), (7, leavesC, t7, 0), (14, strC [[58, 61]], e0, 1), (15, strC [[124, 124]], e1, 1), (16, strC [[38, 38]], e2, 1), (17, strC [[61], [60, 62], [60, 61], [60]], e3, 1), (18, strC [[58, 58], [94]], e4, 1), (19, strC [[43], [45]], e5, 1), (20, strC [[42], [47], [109, 111, 100]], e6, 1)] := hp
  simp only [List.mem_cons, List.not_mem_nil, or_false] at hp'
  have h57 : cs5.size = 7 := by have := hlen; simpa [levS] using this
  rcases hp' with rfl | rfl | rfl | rfl | rfl | rfl | rfl | rfl | rfl | rfl | rfl | rfl | rfl | rfl
  · exact glob_blk a0 b0 (by kernel_rfl) (by decide) (by decide)
  · exact glob_blk a1 b1 (by kernel_rfl) (by decide) (by decide)
  · exact glob_blk a2 b2 (by kernel_rfl) (by decide) (by decide)
  · exact glob_blk a3 b3 (by kernel_rfl) (by decide) (by decide)
  · refine ⟨(show (5 : Nat) < 21 by decide), ⟨5, 0, csz W 5, 0⟩, cs5, fz5, rfl, rfl, fun _ => ⟨rfl, by simp only [csz_of a5, h57]; rfl⟩, a5, (csz_of a5).symm, by simp only [csz_of a5, h57]; decide, fun i v hi => ?_⟩
    have gt : ∀ (j : Nat) (x : Value), cs5.toList[j]? = some x → cs5[0 + j]? = some x := fun j x h => by rw [Nat.zero_add, ← h]; simp
    match i, hi with
    | 0, hi => obtain rfl := Option.some.inj hi; exact ⟨_, gt 0 _ c0, sl_vr (e := E d0) rfl rfl rfl s0 (by decide)⟩
    | 1, hi => obtain rfl := Option.some.inj hi; exact ⟨_, gt 1 _ c1, sl_vr (e := E d1) rfl rfl rfl s1 (by decide)⟩
    | 2, hi => obtain rfl := Option.some.inj hi; exact ⟨_, gt 2 _ c2, sl_vr (e := E d2) rfl rfl rfl s2 (by decide)⟩
    | 3, hi => obtain rfl := Option.some.inj hi; exact ⟨_, gt 3 _ c3, sl_vr (e := E d3) rfl rfl rfl s3 (by decide)⟩
    | 4, hi => obtain rfl := Option.some.inj hi; exact ⟨_, gt 4 _ c4, sl_vr (e := E d4) rfl rfl rfl s4 (by decide)⟩
    | 5, hi => obtain rfl := Option.some.inj hi; exact ⟨_, gt 5 _ c5, sl_vr (e := E d5) rfl rfl rfl s5 (by decide)⟩
    | 6, hi => obtain rfl := Option.some.inj hi; exact ⟨_, gt 6 _ c6, sl_vr (e := E d6) rfl rfl rfl s6 (by decide)⟩
    | n + 7, hi => simp [levC] at hi
  · exact glob_blk a6 b6 (by kernel_rfl) (by decide) (by decide)
  · exact glob_blk a7 b7 (by kernel_rfl) (by decide) (by decide)
  · exact str_blk h0 (by decide) k0 rfl (show (14 : Nat) < 21 by decide)
  · exact str_blk h1 (by decide) k1 rfl (show (15 : Nat) < 21 by decide)
  · exact str_blk h2 (by decide) k2 rfl (show (16 : Nat) < 21 by decide)
  · exact str_blk h3 (by decide) k3 rfl (show (17 : Nat) < 21 by decide)
  · exact str_blk h4 (by decide) k4 rfl (show (18 : Nat) < 21 by decide)
  · exact str_blk h5 (by decide) k5 rfl (show (19 : Nat) < 21 by decide)
  · exact str_blk h6 (by decide) k6 rfl (show (20 : Nat) < 21 by decide)
theorem memR_some {n : Nat} : ∀ (l : List (Nat × List Value × TypeId × Nat)) (b : Nat), b ∈ l.map (·.1) → (memR n l).abs.m b ≠ none
  | [], b, h => by cases h
  | p :: l, b, h => by
    have hbl : (memR n (p :: l)).bl = T.set (some ⟨T.ofL p.2.1 0 .leaf, p.2.1.length, p.2.2.1, p.2.2.2, false, 0⟩) (memR n l).bl p.1 := by rfl
    intro h0
    simp only [Mem.abs, Mem.at, hbl, T.get_set] at h0
    by_cases hb : b = p.1
    · rw [if_pos hb] at h0; cases h0
    · rw [if_neg hb] at h0
      rcases List.mem_cons.1 h with h | h
      · exact hb h
      · exact memR_some l b h h0
theorem memR_get {n : Nat} {l : List (Nat × List Value × TypeId × Nat)} (hn : (l.map (·.1)).Nodup) {p : Nat × List Value × TypeId × Nat} (hp : p ∈ l) : (memR n l).abs.m p.1 = some ⟨p.2.1, p.2.2.1, p.2.2.2, false, 0⟩ := by
  letI : FT := ftOf {}
  haveI : FTok := ftOk (F := {}) ⟨(fun _ h => by cases h), (fun _ h => by cases h), (fun _ h => by cases h), (fun _ h => by cases h)⟩
  cases h : (memR n l).abs.m p.1 with
  | none => exact absurd h (memR_some l p.1 (List.mem_map.2 ⟨p, hp, rfl⟩))
  | some B =>
    obtain ⟨q, hq, h1, h2⟩ := memR_abs l p.1 B h
    have : q = p := by
      clear h h2
      induction l with
      | nil => cases hp
      | cons x l ih =>
        simp only [List.map_cons, List.nodup_cons] at hn
        rcases List.mem_cons.1 hq with hq2 | hq2
        · rcases List.mem_cons.1 hp with hp2 | hp2
          · rw [hq2, hp2]
          · exact absurd (List.mem_map.2 ⟨p, hp2, by rw [← hq2]; exact h1.symm⟩) hn.1
        · rcases List.mem_cons.1 hp with hp2 | hp2
          · exact absurd (List.mem_map.2 ⟨q, hq2, by rw [← hp2]; exact h1⟩) hn.1
          · exact ih hn.2 hp2 hq2
    rw [h2, this]
noncomputable def NR (t u : Nat → TypeId) : List (Nat × Blk) := (PL t u).map fun p => (p.1, ⟨p.2.1, p.2.2.1, p.2.2.2, false, 0⟩)
theorem okCells (t u : Nat → TypeId) : ((PL t u).all fun p => p.2.1.all (okV 21)) = true := by kernel_rfl
theorem PL_lt (t u : Nat → TypeId) : ((PL t u).all fun p => decide (p.1 < 21)) = true := by kernel_rfl
theorem PL_nd (t u : Nat → TypeId) : ((PL t u).map (·.1)).Nodup := by
  show [0, 1, 2, 3, 5, 6, 7, 14, 15, 16, 17, 18, 19, 20].Nodup
  decide
theorem rn_id (v : Value) : rnV (fun b => b) v = v := by unfold rnV; split <;> rfl
theorem awkN {aw0 : AW} {own : List Nat} (t u : Nat → TypeId) : Tryz.AwkN aw0 own (NR t u) := fun {Q E aw l} M hQ => by
  letI : FT := ftOf {}
  haveI : FTok := ftOk (F := {}) ⟨(fun _ h => by cases h), (fun _ h => by cases h), (fun _ h => by cases h), (fun _ h => by cases h)⟩
  obtain ⟨M', hM⟩ := retB_some (aw1 t u)
  have hr := callPl_spec (O := O0) (fun C h => h) hP hX0 hRB0 hmix 60 5 [] _ _ _ hM
  have hu : UnderR Tryz.prog.globals.size (fun b => b) (PM t u).abs aw := by
    refine ⟨by rw [gsz]; exact (show (14 : Nat) ≤ 21 by decide), fun _ _ => rfl, fun b hb => ?_, fun b B hB => ?_, fun b => T.get_leaf b⟩
    · cases hB : (PM t u).abs.m b with
      | none => rfl
      | some B =>
        obtain ⟨p, hp, rfl, _⟩ := memR_abs _ b B hB
        have := List.all_eq_true.1 (PL_lt t u) p hp
        have hb' : 21 ≤ p.1 := hb
        simp at this
        omega
    · obtain ⟨p, hp, rfl, rfl⟩ := memR_abs _ b B hB
      have hb := M.ro_ (p.1, ⟨p.2.1, p.2.2.1, p.2.2.2, false, 0⟩) (List.mem_map.2 ⟨p, hp, rfl⟩)
      have hb2 : aw.m p.1 = some ⟨p.2.1, p.2.2.1, p.2.2.2, false, 0⟩ := (M.keep _ hb.2.1 hb.2.2).trans hb.1
      refine ⟨rfl, _, hb2, rfl, rfl, fun _ => rfl, fun i v hi => ⟨?_, ?_⟩⟩
      · exact List.all_eq_true.1 (List.all_eq_true.1 (okCells t u) p hp) v (List.mem_of_getElem? hi)
      · rw [rn_id]; exact hi
  have := acalls_ren hu (by rfl) (by rfl) hr
  exact this.mono fun e aw' he => by
    obtain ⟨rfl, rfl⟩ := he
    exact ⟨true, rfl, hQ⟩
theorem args_at {l : List TypeId} (hl : okTypes Tryz.prog l = true) {H : Type} {enc : TypeId × Value → H} {W : World} {ts : List TypeId} {vs : List Value} {ds : List (DataW H)} {ps : List MemPlace} (hL : laidMetH Tryz.prog laidAll W) (hts : (ts.all fun t => l.contains t) = true)
    (hA : DataW.TrodAll enc Tryz.prog W 0 (fun _ => true) true ts vs ds ps) (hw : (DataW.weightsEach Tryz.prog ts ds).all (· ≤ reachBytes) = true)
    (hv : ∀ (j : Nat) t v, ts[j]? = some t → vs[j]? = some v → ∃ base, Value.okWide Tryz.prog W .any base t v) :
    ∃ (t u : Nat → TypeId) (s : Inj) (aw : AW) (vs' : List Value), Rel Tryz.prog.globals.size (· < W.heap.size) W s aw W ∧ Hp aw [] (NR t u) aw [] ∧ ArgsIn Tryz.prog aw ts vs' ∧ VRs s vs' vs := by
  letI : FT := ftOf {}
  haveI : FTok := ftOk (F := {}) ⟨(fun _ h => by cases h), (fun _ h => by cases h), (fun _ h => by cases h), (fun _ h => by cases h)⟩
  obtain ⟨t, u, ents, hr⟩ := relN hL
  have hro : (PM t u).abs.ro := fun c C h => by
    obtain ⟨p, _, _, rfl⟩ := memR_abs _ c C h
    rfl
  obtain ⟨s', aw', vs', _, h2, h3, _, h5, h6'⟩ := open_args hl ts vs ds ps hts hA hw hv _ _ hr hro
  refine ⟨t, u, s', aw', vs', by rw [gsz]; exact h3, ?_, h6', h5⟩
  refine Hp.init (l := []) List.nodup_nil (fun p hp => by cases hp) fun p hp => ?_
  obtain ⟨q, hq, rfl⟩ := List.mem_map.1 hp
  have k1 := memR_get (n := 21) (PL_nd t u) hq
  have k2 : q.1 < (PM t u).abs.next := by
    have : q.1 < 21 := by simpa using List.all_eq_true.1 (PL_lt t u) q hq
    exact this
  exact ⟨h2.get k2 k1, Nat.lt_of_lt_of_le k2 h2.next, by simp⟩
end Go.Proofs.YtfgihmgeplcfoaaGreatDoor
