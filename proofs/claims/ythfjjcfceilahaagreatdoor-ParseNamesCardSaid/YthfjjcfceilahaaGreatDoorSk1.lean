/- slices.Sort and slices.Compact on texts: the library's contracts, over an abstract memory. -/
import Derived.Test.YthfjjcfceilahaaGreatDoorL5
import Derived.Shelf.Sort.Plain
import Derived.Shelf.Slices.CompactS
import Derived.Lib.RowBridge
set_option linter.unusedSimpArgs false
set_option linter.unusedVariables false
set_option linter.unusedSectionVars false
namespace Go.Ri
open Go Go.Am Go.RowKit Go.Sort
open Go.Proofs (encStr)
variable [SymE]
variable {G : Nat} {base : Nat → Prop} {w0 w : World} {s : Inj} {aw : AW}
theorem Rel.aheadN (h : Rel G base w0 s aw w) : ∀ n, Rel G base w0 s aw (Sort.ahead w n)
  | 0 => h
  | n + 1 => by
    have := (Rel.aheadN h n).drew
    rwa [ahead_drew] at this
theorem Rel.growN (h : Rel G base w0 s aw w) (os : Array Obj) : Rel G base w0 s aw (grow w os) := by
  have old : ∀ (k : Nat) o, w.heap[k]? = some o → (grow w os).heap[k]? = some o := by
    intro k o ho
    have hk : k < w.heap.size := (Array.getElem?_eq_some_iff.1 ho).1
    rw [heap_grow_old _ _ hk]; exact ho
  refine ⟨h.fresh, h.mfresh, fun b B hB => ?_, h.sep, fun k hk => ?_, h.glob, ?_, h.maps.to rfl (Nat.le_refl _) fun k xs ck hk => old k _ hk⟩
  · obtain ⟨e, cs, fz, g1, g2, g3, g4, g5, g6, g7⟩ := h.blk b B hB
    exact ⟨e, cs, fz, g1, g2, old _ _ g3, g4, g5, g6, g7⟩
  · have := h.hbase k hk
    simp only [grow, Array.size_append]; omega
  · refine h.below.trans ⟨rfl, rfl, rfl, by simp [grow], fun k hk => ?_, fun k o ho _ => old k o ho⟩
    rw [heap_grow_old _ _ (h.hbase k hk)]
def putA (aw : AW) (b : Nat) (B : Blk) (cs : List Value) : AW := { aw with m := fun c => if c = b then some { B with cells := cs } else aw.m c }
theorem putA_at {aw : AW} {b : Nat} {B : Blk} {cs : List Value} : (putA aw b B cs).m b = some { B with cells := cs } := by simp [putA]
theorem putA_ne {aw : AW} {b c : Nat} {B : Blk} {cs : List Value} (h : c ≠ b) : (putA aw b B cs).m c = aw.m c := by simp [putA, h]
theorem Rel.row (h : Rel G base w0 s aw w) {b : Nat} {B : Blk} (hB : aw.m b = some B) (hrw : B.rw = true) {e : Ent} (he : s b = some e) {d : List (List UInt8)} (hd : d.length = B.cells.length) :
    Rel G base w0 s (putA aw b B (d.map encStr)) (putRow encStr w e.cb e.off d.toArray) := by
  obtain ⟨e', cs, fz, g1, g2, g3, g4, g5, g6, g7⟩ := h.blk b B hB
  rw [he] at g1; obtain rfl := Option.some.inj g1
  have hoff : e.off = 0 := g2.2.1 hrw
  have new : (putRow encStr w e.cb e.off d.toArray).heap[e.cb]? = some (.cells (putCells encStr e.off d.toArray cs) B.elem fz) := by
    simp [putRow, mapBlock, Array.getElem?_modify, g3, onCells]
  have oth : ∀ k, k ≠ e.cb → (putRow encStr w e.cb e.off d.toArray).heap[k]? = w.heap[k]? := by
    intro k hk
    simp only [putRow, mapBlock, Array.getElem?_modify, if_neg (fun x : e.cb = k => hk x.symm)]
  have hne : ∀ b' B' e', b' ≠ b → aw.m b' = some B' → s b' = some e' → e'.cb ≠ e.cb := fun b' B' e' hn hb' he' hx => h.sep b b' B B' e e' (fun x => hn x.symm) hB hb' he he' hrw hx.symm
  refine ⟨h.fresh, fun c hc => ?_, fun b' B' hB' => ?_, fun b1 b2 B1 B2 e1 e2 hn h1 h2 k1 k2 hr => ?_, fun k hk => ?_, h.glob, ?_, ?_⟩
  · by_cases hcb : c = b
    · subst hcb; rw [h.mfresh c hc] at hB; cases hB
    · rw [putA_ne hcb]; exact h.mfresh c hc
  · by_cases hcb : b' = b
    · subst hcb
      rw [putA_at] at hB'
      obtain rfl := Option.some.inj hB'
      refine ⟨e, _, fz, he, ⟨g2.1, g2.2.1, fun h0 => ⟨hoff, by rw [(g2.2.2 h0).2]; simp [hd]⟩⟩, new, by simp [putCells, g4], by simp [hd]; exact g5, fun i v hi => ?_, g7⟩
      simp only [List.getElem?_map, Option.map_eq_some_iff] at hi
      obtain ⟨x, hx, rfl⟩ := hi
      have hlt : i < d.length := (List.getElem?_eq_some_iff.1 hx).1
      refine ⟨encStr x, ?_, .string _⟩
      have hsz : e.off + i < cs.size := by omega
      simp only [putCells, Array.getElem?_mapIdx, Array.getElem?_eq_getElem hsz, Option.map_some]
      rw [if_pos ⟨by omega, by simp; omega⟩, show e.off + i - e.off = i by omega]
      have : d.toArray[i]! = x := by
        rw [getElem!_pos _ i (by simpa using hlt)]
        have := List.getElem?_eq_some_iff.1 hx
        simpa using this.2
      rw [this]
    · rw [putA_ne hcb] at hB'
      obtain ⟨e2, cs2, fz2, q1, q2, q3, q4, q5, q6, q7⟩ := h.blk b' B' hB'
      exact ⟨e2, cs2, fz2, q1, q2, by rw [oth _ (hne b' B' e2 hcb hB' q1)]; exact q3, q4, q5, q6, q7⟩
  · have f : ∀ c C, (putA aw b B (d.map encStr)).m c = some C → ∃ C', aw.m c = some C' ∧ C'.rw = C.rw := by
      intro c C hC
      by_cases hcb : c = b
      · subst hcb; rw [putA_at] at hC; obtain rfl := Option.some.inj hC; exact ⟨B, hB, rfl⟩
      · rw [putA_ne hcb] at hC; exact ⟨C, hC, rfl⟩
    obtain ⟨C1, c1, d1⟩ := f b1 B1 h1
    obtain ⟨C2, c2, d2⟩ := f b2 B2 h2
    exact h.sep b1 b2 C1 C2 e1 e2 hn c1 c2 k1 k2 (d1.trans hr)
  · have := h.hbase k hk
    simp only [putRow, mapBlock, Array.size_modify]; exact this
  · have hb : ¬ base e.cb := (g7 hrw).1
    refine h.below.trans ⟨rfl, rfl, rfl, by simp [putRow, mapBlock], fun k hk => oth k fun x => hb (x ▸ hk), fun k o ho hs => ?_⟩
    by_cases hk : k = e.cb
    · subst hk; rw [g3] at ho; obtain rfl := Option.some.inj ho; cases hs
    · rw [oth k hk]; exact ho
  · refine h.maps.to rfl (Nat.le_refl _) fun k xs ck hk => ?_
    by_cases hx : k = e.cb
    · subst hx; rw [g3] at hk; cases hk
    · rw [oth k hx]; exact hk
def TxtsAt (B : Blk) (ss : List (List UInt8)) : Prop := B.rw = true ∧ B.fz = 0 ∧ B.cells.map den = ss.map encStr
theorem TxtsAt.len {B : Blk} {ss : List (List UInt8)} (h : TxtsAt B ss) : ss.length = B.cells.length := by
  have := congrArg List.length h.2.2
  simpa using this.symm
theorem den_str {v v' : Value} {x : List UInt8} (h : den v = encStr x) (hv : VR s v v') : v' = encStr x := by
  have h2 := vr_den hv
  rw [h] at h2
  cases h2; rfl
theorem holds_of (h : Rel G base w0 s aw w) {b : Nat} {B : Blk} (hB : aw.m b = some B) {ss : List (List UInt8)} (ht : TxtsAt B ss) {e : Ent} (he : s b = some e) : Holds encStr w e.cb e.off ss.toArray := by
  intro j hj
  have hj : j < ss.length := by simpa using hj
  have hjB : j < B.cells.length := by rw [← ht.len]; exact hj
  obtain ⟨e', v', g1, g2, g3⟩ := h.cell (b := b) (i := j) (v := B.cells[j]) (by simp [AW.get, hB, List.getElem?_eq_getElem hjB])
  rw [he] at g1; obtain rfl := Option.some.inj g1
  have hd : den B.cells[j] = encStr ss[j] := by
    have := congrArg (fun l => l[j]?) ht.2.2
    simpa [List.getElem?_eq_getElem hjB, List.getElem?_eq_getElem hj] using this
  have hv := den_str hd g3
  refine ⟨?_, (h.set hB ht.1 hjB ht.2.1 (VR.string _) he (v := .string ⟨#[]⟩)).1⟩
  rw [g2, hv]
  simp [hj]
theorem sort_calls {P : Program} {f : FuncId} (hc : ∀ (blk off cap : Nat) (ss : List (List UInt8)) (w : World), Holds encStr w blk off ss.toArray → blk < w.heap.size → ss.length < 4611686018427387904 →
      Calls P f #[.slice (some ⟨blk, off, none⟩) ss.length cap] w fun e w' => e = .returned (.tuple #[]) ∧ ∃ n os, w' = grow (putRow encStr (Sort.ahead w n) blk off (ss.mergeSort fun x y => decide (x ≤ y)).toArray) os)
    {aw : AW} {b c : Nat} {B : Blk} (hB : aw.m b = some B) {ss : List (List UInt8)} (ht : TxtsAt B ss) (h0 : 0 < ss.length) (h1 : ss.length < 4611686018427387904) :
    ACalls P f [.slice (some ⟨b, 0, none⟩) ss.length c] aw fun e aw' => e = .returned (.tuple #[]) ∧ aw' = putA aw b B ((ss.mergeSort fun x y => decide (x ≤ y)).map encStr) := by
  intro base w0 s args' w hr hargs
  cases hargs with
  | cons hv t =>
  cases t
  cases hv with
  | slice hl hcc hh =>
  rename_i a' c'
  obtain ⟨e, he, rfl, _⟩ := hh (by omega)
  obtain ⟨e', cs, fz, g1, g2, g3, g4, g5, g6, g7⟩ := hr.blk b B hB
  rw [he] at g1; obtain rfl := Option.some.inj g1
  refine (hc e.cb (e.off + 0) c' ss w (holds_of hr hB ht he) (Array.getElem?_eq_some_iff.1 g3).1 h1).mono ?_
  rintro e1 w' ⟨rfl, n, os, rfl⟩
  refine ⟨s, .returned (.tuple #[]), _, Inj.le_refl s, ?_, .returned (.tuple .nil), rfl, rfl⟩
  exact Rel.growN (Rel.row (Rel.aheadN hr n) hB ht.1 he (by simp [ht.len])) os
theorem compact_calls {P : Program} {f : FuncId} (hc : ∀ (blk off cap : Nat) (zs : List (List UInt8)) (w : World), Holds encStr w blk off zs.toArray → zs.length ≤ 9223372036854775807 → zs.length ≤ cap →
      Calls P f #[.slice (some ⟨blk, off, none⟩) zs.length cap] w fun e w' => e = .returned (.slice (some ⟨blk, off, none⟩) (Lib.compact zs).length cap) ∧ ∃ q, w' = putRow encStr (Sort.ahead w q) blk off (Lib.compact zs ++ List.replicate (zs.length - (Lib.compact zs).length) []).toArray)
    {aw : AW} {b c : Nat} {B : Blk} (hB : aw.m b = some B) {ss : List (List UInt8)} (ht : TxtsAt B ss) (h0 : 0 < ss.length) (h1 : ss.length < 4611686018427387904) :
    ACalls P f [.slice (some ⟨b, 0, none⟩) ss.length c] aw fun e aw' => e = .returned (.slice (some ⟨b, 0, none⟩) (Lib.compact ss).length c) ∧ ∃ cs, aw' = putA aw b B cs := by
  intro base w0 s args' w hr hargs
  cases hargs with
  | cons hv t =>
  cases t
  cases hv with
  | slice hl hcc hh =>
  rename_i a' c'
  obtain ⟨e, he, rfl, hu⟩ := hh (by omega)
  have hle := Lib.compact_length_le ss
  refine (hc e.cb (e.off + 0) c' ss w (holds_of hr hB ht he) (by omega) hl).mono ?_
  rintro e1 w' ⟨rfl, q, rfl⟩
  refine ⟨s, .returned (.slice (some ⟨b, 0, none⟩) (Lib.compact ss).length c), _, Inj.le_refl s, Rel.row (Rel.aheadN hr q) hB ht.1 he (by simp [← ht.len]; omega), .returned (.slice (by omega) hcc fun hp => ⟨e, he, rfl, hu⟩), rfl, _, rfl⟩
theorem acalls_kill {P : Program} {f : FuncId} {args : List Value} {aw : AW} {b : Nat} {B : Blk} {cs : List Value} {Q : AEnd → AW → Prop} (h : ACalls P f args (aw.kill b) Q) : ACalls P f args (putA aw b B cs) Q := by
  intro base w0 s args' w hr hargs
  have := hr.kill b
  have e : (putA aw b B cs).kill b = aw.kill b := by
    simp only [AW.kill, putA, AW.mk.injEq, and_true]
    funext c
    by_cases hc : c = b <;> simp [hc]
  rw [e] at this
  exact h base w0 s args' w this hargs
end Go.Ri
