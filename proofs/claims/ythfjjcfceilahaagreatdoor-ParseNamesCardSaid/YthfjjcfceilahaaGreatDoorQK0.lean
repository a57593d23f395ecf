/- The parser's laws: from the row's world to a run. -/
import Derived.Test.YthfjjcfceilahaaGreatDoorRows
import Derived.Test.YthfjjcfceilahaaGreatDoorQM0
import Derived.Test.YthfjjcfceilahaaGreatDoorL5
import Derived.Stop.LaidErr
import Derived.WalkKit
import Derived.ProofKit
import Derived.OpenShut
import Derived.ShutString
import Derived.ChangeOld
import Derived.Below
import Derived.LaidMore
import Derived.Stop.Joined
namespace Go.Proofs.YthfjjcfceilahaaGreatDoor
open Go.ChangeShapes Go.WideShapes Go.ChangeAt Go.RowKit Go.Am Go.Ri
open Go.ChangeMaps (open_string shut_string)
set_option linter.unusedVariables false
set_option linter.unusedSimpArgs false
set_option linter.unusedSectionVars false
set_option maxRecDepth 100000
theorem own : ownKnob Tryz.prog.godebug = none := by kernel_rfl
theorem laidOut : laidOutB Tryz.prog = true := by kernel_rfl
def laidAll : List (String × DataW Unit) := [("math/bits.deBruijn32tab", Rows.laid_math_bits_deBruijn32tab), ("math/bits.deBruijn64tab", Rows.laid_math_bits_deBruijn64tab), ("internal/strconv.uint64pow10", Rows.laid_internal_strconv_uint64pow10), ("strconv.ErrRange", Rows.laid_strconv_ErrRange), ("strconv.ErrSyntax", Rows.laid_strconv_ErrSyntax), ("battledore/lex.words", Rows.laid_battledore_lex_words), ("battledore/lex.signs", Rows.laid_battledore_lex_signs), ("battledore/parse.levels", Rows.laid_battledore_parse_levels)]
theorem door_met (os : Os) (args : Array Value) : laidMetH Tryz.prog laidAll ((World.doorLaid Tryz.prog 4000 os).forCall (fun _ _ => 0) ⟨#[], args, []⟩).memory :=
  laidMetH_of_parts3 (fuel := 8) (laidMet_of_run' 8 (by kernel_rfl) (by kernel_rfl)) (by kernel_rfl) (by kernel_rfl)
theorem gsz : Tryz.prog.globals.size = 9 := by kernel_rfl
theorem hmix : Tryz.prog.follows .mixedOrders = true := by kernel_rfl
theorem ext63 : IsExt Tryz.prog 63 Extern.BytealgIndexByte.indexByte := ⟨Tryz.f63, Tryz.func63, by kernel_rfl, by kernel_rfl, by kernel_rfl, by kernel_rfl⟩
theorem ext90 : IsExt Tryz.prog 90 Extern.AbiNoEscape.same := ⟨Tryz.f90, Tryz.func90, by kernel_rfl, by kernel_rfl, by kernel_rfl, by kernel_rfl⟩
theorem hX0 : ExtOk Tryz.prog X0 := fun g => by
  unfold X0
  cases h63 : Nat.beq g 63 with
  | true => obtain rfl := Nat.eq_of_beq_eq_true h63; exact ⟨(fun _ => ext63), (fun h => by cases h)⟩
  | false =>
    cases h90 : Nat.beq g 90 with
    | true => obtain rfl := Nat.eq_of_beq_eq_true h90; exact ⟨(fun h => by cases h), (fun _ => ext90)⟩
    | false => exact ⟨(fun h => by cases h), (fun h => by cases h)⟩
theorem back73 : IsBack Tryz.prog 73 30 9 := ⟨Tryz.f73, _, _, _, _, _, _, _, _, _, _, _, _, _, _, _, Tryz.func73, by kernel_rfl, by kernel_rfl, by kernel_rfl, rfl, rfl, rfl, rfl, rfl⟩
theorem back124 : IsBack Tryz.prog 124 32 44 := ⟨Tryz.f124, _, _, _, _, _, _, _, _, _, _, _, _, _, _, _, Tryz.func124, by kernel_rfl, by kernel_rfl, by kernel_rfl, rfl, rfl, rfl, rfl, rfl⟩
theorem back126 : IsBack Tryz.prog 126 33 35 := ⟨Tryz.f126, _, _, _, _, _, _, _, _, _, _, _, _, _, _, _, Tryz.func126, by kernel_rfl, by kernel_rfl, by kernel_rfl, rfl, rfl, rfl, rfl, rfl⟩
theorem hRB0 : RBok Tryz.prog RB0 := fun g tS e h => by
  unfold RB0 at h
  cases h1 : Nat.beq g 73 with
  | true =>
    obtain rfl := Nat.eq_of_beq_eq_true h1
    rw [h1] at h
    simp only [cond_true, Option.some.injEq, Prod.mk.injEq] at h
    obtain ⟨rfl, rfl⟩ := h
    exact back73
  | false =>
    rw [h1] at h
    cases h2 : Nat.beq g 124 with
    | true =>
      obtain rfl := Nat.eq_of_beq_eq_true h2
      rw [h2] at h
      simp only [cond_true, cond_false, Option.some.injEq, Prod.mk.injEq] at h
      obtain ⟨rfl, rfl⟩ := h
      exact back124
    | false =>
      rw [h2] at h
      cases h3 : Nat.beq g 126 with
      | true =>
        obtain rfl := Nat.eq_of_beq_eq_true h3
        rw [h3] at h
        simp only [cond_true, cond_false, Option.some.injEq, Prod.mk.injEq] at h
        obtain ⟨rfl, rfl⟩ := h
        exact back126
      | false => rw [h3] at h; cases h
variable [SymE]
theorem csz_of {W : World} {b : Nat} {C : Array Value} {el : TypeId} {fz : Nat × Nat} (h : W.heap[b]? = some (.cells C el fz)) : csz W b = C.size := by simp [csz, h]
theorem str_blk {W : World} {G : Nat} {ents : List Ent} {a : Addr} {C : Array Value} {el : TypeId} {fz : Nat × Nat} {s : List (List UInt8)} (hh : W.heap[a.block]? = some (.cells C el fz)) (hne : s ≠ []) (hc : ∀ (j : Nat) (x : List UInt8), s[j]? = some x → C[a.off + j]? = some (.string ⟨⟨x⟩⟩)) {k : Nat}
    (hk : inj0 G W ents k = some ⟨a.block, a.off, csz W a.block, 1⟩) {n : Nat} (hn : k < n) : k < n ∧ ∃ e cs fz', inj0 G W ents k = some e ∧ e.esz = 1 ∧ (1 = 0 → e.off = 0 ∧ e.csize = (strC s).length) ∧ W.heap[e.cb]? = some (.cells cs el fz') ∧ cs.size = e.csize ∧ e.off + (strC s).length ≤ e.csize ∧
      ∀ (i : Nat) (v : Value), (strC s)[i]? = some v → ∃ v', cs[e.off + i]? = some v' ∧ VR (inj0 G W ents) v v' := by
  refine ⟨hn, _, C, fz, hk, rfl, (fun h => by cases h), hh, (csz_of hh).symm, ?_, fun i v hi => ?_⟩
  · simp only [csz_of hh, strC, List.length_map]
    have hl : 0 < s.length := List.length_pos_iff.2 hne
    have := hc (s.length - 1) s[s.length - 1] (List.getElem?_eq_getElem (by omega))
    have := (Array.getElem?_eq_some_iff.1 this).1
    omega
  · simp only [strC, List.getElem?_map, Option.map_eq_some_iff] at hi
    obtain ⟨x, hx, rfl⟩ := hi
    exact ⟨_, hc i x hx, .string _⟩
theorem glob_blk {W : World} {G : Nat} {ents : List Ent} {g : Nat} {cs : Array Value} {cells : List Value} {t : TypeId} {fz : Nat × Nat} (hh : W.heap[g]? = some (.cells cs t fz)) (hc : cs.toList = cells) (hp : plains cells = true) (hg : g < G) {n : Nat} (hn : g < n) :
    g < n ∧ ∃ e cs fz', inj0 G W ents g = some e ∧ e.esz = 0 ∧ (0 = 0 → e.off = 0 ∧ e.csize = cells.length) ∧ W.heap[e.cb]? = some (.cells cs t fz') ∧ cs.size = e.csize ∧ e.off + cells.length ≤ e.csize ∧
      ∀ (i : Nat) (v : Value), cells[i]? = some v → ∃ v', cs[e.off + i]? = some v' ∧ VR (inj0 G W ents) v v' := by
  have hl : cs.size = cells.length := by rw [← hc]; simp
  refine ⟨hn, ⟨g, 0, csz W g, 0⟩, cs, fz, by simp [inj0, hg], rfl, fun _ => ⟨rfl, by simp only [csz_of hh]; exact hl⟩, hh, (csz_of hh).symm, by simp only [csz_of hh]; omega, fun i v hi => ⟨v, ?_, ?_⟩⟩
  · simp only [Nat.zero_add]
    rw [← hi, ← hc]; simp
  · refine VR.ofPlain ?_
    have key : ∀ (l : List Value) (i : Nat), plains l = true → l[i]? = some v → plain v = true := by
      intro l
      induction l with
      | nil => intro i _ h; simp at h
      | cons x l ih =>
        intro i hp h
        simp only [plains, Bool.and_eq_true] at hp
        cases i with
        | zero => simp at h; subst h; exact hp.1
        | succ i => exact ih i hp.2 (by simpa using h)
    exact key _ i hp hi
theorem sl_vr {s : Inj} {k n : Nat} {a : Addr} {e : Ent} (hs : s k = some e) (h1 : e.cb = a.block) (h2 : e.off = a.off) (hsp : a.spot = none) (hn : n < UNK) : VR s (.slice (some ⟨k, 0, none⟩) n n) (.slice (some a) n n) :=
  .slice (Nat.le_refl _) (fun _ => rfl) fun _ => ⟨e, hs, by cases a; simp_all, fun h => by omega⟩
theorem relP {W : World} (hL : laidMetH Tryz.prog laidAll W) : ∃ (t u : Nat → TypeId) (ents : List Ent), Rel 9 (· < W.heap.size) W (inj0 9 W ents) (PM t u).abs W := by
  letI : FT := ftOf {}
  haveI : FTok := ftOk (F := {}) ⟨(fun _ h => by cases h), (fun _ h => by cases h), (fun _ h => by cases h), (fun _ h => by cases h)⟩
  have hL' : laidMet Tryz.prog laidAll W := by
    rw [MakeChecks.laidMetH_plain _ _ _ (by kernel_rfl)] at hL; exact hL
  obtain ⟨ps, hl, _, _⟩ := hL'
  obtain ⟨t0, cs0, fz0, a0, b0⟩ := laid_cells hl (n := "battledore/lex.signs") (d := Rows.laid_battledore_lex_signs) (by simp [laidAll]) (g := 0) (t := 91) (m := 5) (cells := signsC) (by kernel_rfl) (by kernel_rfl) (by kernel_rfl)
  obtain ⟨t1, cs1, fz1, a1, b1⟩ := laid_cells hl (n := "battledore/lex.words") (d := Rows.laid_battledore_lex_words) (by simp [laidAll]) (g := 1) (t := 100) (m := 5) (cells := wordsC) (by kernel_rfl) (by kernel_rfl) (by kernel_rfl)
  obtain ⟨g, tt, cs3, fuel, p, q1, q2, q3, q4⟩ := laid_get hl "battledore/parse.levels" Rows.laid_battledore_parse_levels (by simp [laidAll])
  obtain rfl := Option.some.inj ((show Tryz.prog.globalNamed "battledore/parse.levels" = some 3 by kernel_rfl).symm.trans q1)
  obtain rfl := Option.some.inj ((show (Tryz.prog.globals[3]?).map (·.type) = some 122 by kernel_rfl).symm.trans q2)
  obtain ⟨t3, fz3, a3⟩ := var_heap q1 q3
  obtain ⟨hlen, hS⟩ := trod_slices (ss := levS) (n := 7) (e1 := 30) (e := 9) (show Tryz.prog.underlying 122 = some (.array 7 30) by kernel_rfl) (show Tryz.prog.underlying 30 = some (.slice 9) by kernel_rfl) (show Tryz.prog.underlying 9 = some .string by kernel_rfl) (by kernel_rfl) (by kernel_rfl) (by kernel_rfl) q4
  obtain ⟨d0, c0, s0, C0, e0, f0, h0, k0⟩ := hS 0 _ rfl (by decide)
  obtain ⟨d1, c1, s1, C1, e1, f1, h1, k1⟩ := hS 1 _ rfl (by decide)
  obtain ⟨d2, c2, s2, C2, e2, f2, h2, k2⟩ := hS 2 _ rfl (by decide)
  obtain ⟨d3, c3, s3, C3, e3, f3, h3, k3⟩ := hS 3 _ rfl (by decide)
  obtain ⟨d4, c4, s4, C4, e4, f4, h4, k4⟩ := hS 4 _ rfl (by decide)
  obtain ⟨d5, c5, s5, C5, e5, f5, h5, k5⟩ := hS 5 _ rfl (by decide)
  obtain ⟨d6, c6, s6, C6, e6, f6, h6, k6⟩ := hS 6 _ rfl (by decide)
  let E : Addr → Ent := fun d => ⟨d.block, d.off, csz W d.block, 1⟩
  refine ⟨fun i => [e0, e1, e2, e3, e4, e5, e6].getD i 0, fun g => [t0, t1, 0, t3].getD g 0, [E d0, E d1, E d2, E d3, E d4, E d5, E d6], ?_⟩
  refine rel_memR rfl ?_
  intro p hp
  have hp' : p ∈ [(0, signsC, t0, 0), (1, wordsC, t1, 0), (3, levC, t3, 0), (9, strC [[58, 61]], e0, 1), (10, strC [[124, 124]], e1, 1), (11, strC [[38, 38]], e2, 1), (12, strC [[61], [60, 62], [60, 61], [60]], e3, 1), (13, strC [[58, 58], [94]], e4, 1), (14, strC [[43], [45]], e5, 1), (15, strC [[42], [47], [109, 111, 100]], e6, 1)] := hp
  simp only [List.mem_cons, List.not_mem_nil, or_false] at hp'
  have h37 : cs3.size = 7 := by have := hlen; simpa [levS] using this
  rcases hp' with rfl | rfl | rfl | rfl | rfl | rfl | rfl | rfl | rfl | rfl
  · exact glob_blk a0 b0 (by kernel_rfl) (by decide) (by decide)
  · exact glob_blk a1 b1 (by kernel_rfl) (by decide) (by decide)
  · refine ⟨(show (3 : Nat) < 16 by decide), ⟨3, 0, csz W 3, 0⟩, cs3, fz3, rfl, rfl, fun _ => ⟨rfl, by simp only [csz_of a3, h37]; rfl⟩, a3, (csz_of a3).symm, by simp only [csz_of a3, h37]; decide, fun i v hi => ?_⟩
    have gt : ∀ (j : Nat) (x : Value), cs3.toList[j]? = some x → cs3[0 + j]? = some x := fun j x h => by rw [Nat.zero_add, ← h]; simp
    match i, hi with
    | 0, hi => obtain rfl := Option.some.inj hi; exact ⟨_, gt 0 _ c0, sl_vr (e := E d0) rfl rfl rfl s0 (by decide)⟩
    | 1, hi => obtain rfl := Option.some.inj hi; exact ⟨_, gt 1 _ c1, sl_vr (e := E d1) rfl rfl rfl s1 (by decide)⟩
    | 2, hi => obtain rfl := Option.some.inj hi; exact ⟨_, gt 2 _ c2, sl_vr (e := E d2) rfl rfl rfl s2 (by decide)⟩
    | 3, hi => obtain rfl := Option.some.inj hi; exact ⟨_, gt 3 _ c3, sl_vr (e := E d3) rfl rfl rfl s3 (by decide)⟩
    | 4, hi => obtain rfl := Option.some.inj hi; exact ⟨_, gt 4 _ c4, sl_vr (e := E d4) rfl rfl rfl s4 (by decide)⟩
    | 5, hi => obtain rfl := Option.some.inj hi; exact ⟨_, gt 5 _ c5, sl_vr (e := E d5) rfl rfl rfl s5 (by decide)⟩
    | 6, hi => obtain rfl := Option.some.inj hi; exact ⟨_, gt 6 _ c6, sl_vr (e := E d6) rfl rfl rfl s6 (by decide)⟩
    | n + 7, hi => simp [levC] at hi
  · exact str_blk h0 (by decide) k0 rfl (show (9 : Nat) < 16 by decide)
  · exact str_blk h1 (by decide) k1 rfl (show (10 : Nat) < 16 by decide)
  · exact str_blk h2 (by decide) k2 rfl (show (11 : Nat) < 16 by decide)
  · exact str_blk h3 (by decide) k3 rfl (show (12 : Nat) < 16 by decide)
  · exact str_blk h4 (by decide) k4 rfl (show (13 : Nat) < 16 by decide)
  · exact str_blk h5 (by decide) k5 rfl (show (14 : Nat) < 16 by decide)
  · exact str_blk h6 (by decide) k6 rfl (show (15 : Nat) < 16 by decide)
end Go.Proofs.YthfjjcfceilahaaGreatDoor
