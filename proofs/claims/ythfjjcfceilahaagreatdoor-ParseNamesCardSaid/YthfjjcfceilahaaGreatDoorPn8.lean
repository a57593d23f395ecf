/- ParseNames: from the row's world. -/
import Derived.Test.YthfjjcfceilahaaGreatDoorPn7
import Derived.Test.YthfjjcfceilahaaGreatDoorPnRA
import Derived.Test.YthfjjcfceilahaaGreatDoorPnRB
import Derived.Test.YthfjjcfceilahaaGreatDoorPnRC
import Derived.Test.YthfjjcfceilahaaGreatDoorPnRD
set_option linter.unusedVariables false
set_option linter.unusedSimpArgs false
set_option linter.unusedSectionVars false
set_option maxRecDepth 100000
namespace Go.Proofs.YthfjjcfceilahaaGreatDoor
open Go Go.ChangeShapes Go.WideShapes Go.ChangeAt Go.RowKit Go.Am Go.Ri
theorem namesOk : okTypes Tryz.prog [41, 5] = true := by kernel_rfl
theorem und5 : Tryz.prog.underlying 5 = some (.int .u8) := by kernel_rfl
theorem und41 : Tryz.prog.underlying 41 = some (.slice 5) := by kernel_rfl
theorem runT (n : Nat) (h2 : 2 ≤ n) (h20 : n ≤ 20) (t u : Nat → TypeId) : chkTw (runN true n t u) = true := match n, h2, h20 with
  | 2, _, _ => qT2 t u
  | 3, _, _ => qT3 t u
  | 4, _, _ => qT4 t u
  | 5, _, _ => qT5 t u
  | 6, _, _ => qT6 t u
  | 7, _, _ => qT7 t u
  | 8, _, _ => qT8 t u
  | 9, _, _ => qT9 t u
  | 10, _, _ => qT10 t u
  | 11, _, _ => qT11 t u
  | 12, _, _ => qT12 t u
  | 13, _, _ => qT13 t u
  | 14, _, _ => qT14 t u
  | 15, _, _ => qT15 t u
  | 16, _, _ => qT16 t u
  | 17, _, _ => qT17 t u
  | 18, _, _ => qT18 t u
  | 19, _, _ => qT19 t u
  | 20, _, _ => qT20 t u
  | n + 21, _, h => absurd h (by omega)
theorem runF (n : Nat) (h2 : 2 ≤ n) (h20 : n ≤ 20) (t u : Nat → TypeId) : chkK n (runN false n t u) = true := match n, h2, h20 with
  | 2, _, _ => qF2 t u
  | 3, _, _ => qF3 t u
  | 4, _, _ => qF4 t u
  | 5, _, _ => qF5 t u
  | 6, _, _ => qF6 t u
  | 7, _, _ => qF7 t u
  | 8, _, _ => qF8 t u
  | 9, _, _ => qF9 t u
  | 10, _, _ => qF10 t u
  | 11, _, _ => qF11 t u
  | 12, _, _ => qF12 t u
  | 13, _, _ => qF13 t u
  | 14, _, _ => qF14 t u
  | 15, _, _ => qF15 t u
  | 16, _, _ => qF16 t u
  | 17, _, _ => qF17 t u
  | 18, _, _ => qF18 t u
  | 19, _, _ => qF19 t u
  | 20, _, _ => qF20 t u
  | n + 21, _, h => absurd h (by omega)
section
variable [SymE]
theorem memR_some {n : Nat} : ∀ (l : List (Nat × List Value × TypeId × Nat)) (b : Nat), b ∈ l.map (·.1) → (memR n l).abs.m b ≠ none
  | [], b, h => by cases h
  | p :: l, b, h => by
    have hbl : (memR n (p :: l)).bl = T.set (some ⟨T.ofL p.2.1 0 .leaf, p.2.1.length, p.2.2.1, p.2.2.2, false, 0⟩) (memR n l).bl p.1 := by rfl
    intro h0
    simp only [Mem.abs, Mem.at, hbl, T.get_set] at h0
    by_cases hb : b = p.1
    · rw [if_pos hb] at h0; cases h0
    · rw [if_neg hb] at h0
      rcases List.mem_cons.1 h with h | h
      · exact hb h
      · exact memR_some l b h h0
theorem memR_get {n : Nat} {l : List (Nat × List Value × TypeId × Nat)} (hn : (l.map (·.1)).Nodup) {p : Nat × List Value × TypeId × Nat} (hp : p ∈ l) : (memR n l).abs.m p.1 = some ⟨p.2.1, p.2.2.1, p.2.2.2, false, 0⟩ := by
  letI : FT := ftOf {}
  haveI : FTok := ftOk (F := {}) ⟨(fun _ h => by cases h), (fun _ h => by cases h), (fun _ h => by cases h), (fun _ h => by cases h)⟩
  cases h : (memR n l).abs.m p.1 with
  | none => exact absurd h (memR_some l p.1 (List.mem_map.2 ⟨p, hp, rfl⟩))
  | some B =>
    obtain ⟨q, hq, h1, h2⟩ := memR_abs l p.1 B h
    have : q = p := by
      clear h h2
      induction l with
      | nil => cases hp
      | cons x l ih =>
        simp only [List.map_cons, List.nodup_cons] at hn
        rcases List.mem_cons.1 hq with hq2 | hq2
        · rcases List.mem_cons.1 hp with hp2 | hp2
          · rw [hq2, hp2]
          · exact absurd (List.mem_map.2 ⟨p, hp2, by rw [← hq2]; exact h1.symm⟩) hn.1
        · rcases List.mem_cons.1 hp with hp2 | hp2
          · exact absurd (List.mem_map.2 ⟨q, hq2, by rw [← hp2]; exact h1⟩) hn.1
          · exact ih hn.2 hp2 hq2
    rw [h2, this]
theorem PL_nd (t u : Nat → TypeId) : ((PL t u).map (·.1)).Nodup := by
  show [0, 1, 3, 9, 10, 11, 12, 13, 14, 15].Nodup
  decide
theorem args_at {l : List TypeId} (hl : okTypes Tryz.prog l = true) {H : Type} {enc : TypeId × Value → H} {W : World} {ts : List TypeId} {vs : List Value} {ds : List (DataW H)} {ps : List MemPlace} (hL : laidMetH Tryz.prog laidAll W) (hts : (ts.all fun t => l.contains t) = true)
    (hA : DataW.TrodAll enc Tryz.prog W 0 (fun _ => true) true ts vs ds ps) (hw : (DataW.weightsEach Tryz.prog ts ds).all (· ≤ reachBytes) = true)
    (hv : ∀ (j : Nat) t v, ts[j]? = some t → vs[j]? = some v → ∃ base, Value.okWide Tryz.prog W .any base t v) :
    ∃ (t u : Nat → TypeId) (s : Inj) (aw : AW) (vs' : List Value), Rel Tryz.prog.globals.size (· < W.heap.size) W s aw W ∧ Hp aw [] (NR t u) aw [] ∧ ArgsIn Tryz.prog aw ts vs' ∧ VRs s vs' vs := by
  letI : FT := ftOf {}
  haveI : FTok := ftOk (F := {}) ⟨(fun _ h => by cases h), (fun _ h => by cases h), (fun _ h => by cases h), (fun _ h => by cases h)⟩
  obtain ⟨t, u, ents, hr⟩ := relP hL
  have hro : (PM t u).abs.ro := fun c C h => by
    obtain ⟨p, _, _, rfl⟩ := memR_abs _ c C h
    rfl
  obtain ⟨s', aw', vs', _, h2, h3, _, h5, h6'⟩ := open_args hl ts vs ds ps hts hA hw hv _ _ hr hro
  refine ⟨t, u, s', aw', vs', by rw [gsz]; exact h3, ?_, h6', h5⟩
  refine Hp.init (l := []) List.nodup_nil (fun p hp => by cases hp) fun p hp => ?_
  obtain ⟨q, hq, rfl⟩ := List.mem_map.1 hp
  have k1 := memR_get (n := 16) (PL_nd t u) hq
  have k2 : q.1 < (PM t u).abs.next := by
    have : q.1 < 16 := by simpa using List.all_eq_true.1 (PL_lt t u) q hq
    exact this
  exact ⟨h2.get k2 k1, Nat.lt_of_lt_of_le k2 h2.next, by simp⟩
variable {aw : AW}
def cellAt (w : World) (v : Value) (i : Nat) : Value := match v with
  | .slice (some a) _ _ => (match w.heap[a.block]? with
    | some (.cells cs _ _) => (cs[a.off + i]?).getD (.bool false)
    | _ => .bool false)
  | _ => .bool false
def byteOf : Value → UInt8
  | .int .u8 (.ofNat n) => UInt8.ofNat n
  | _ => 0
def namesOf (w : World) (v : Value) : List UInt8 := match v with
  | .slice _ n _ => (List.range n).map fun i => ltr (byteOf (cellAt w v i))
  | _ => []
theorem cellAt_eq {G : Nat} {base : Nat → Prop} {w0 w : World} {s : Inj} {b n : Nat} {B : Blk} {v u : Value} {i : Nat} (hr : Rel G base w0 s aw w) (hB : aw.m b = some B) (hv : VR s (.slice (some ⟨b, 0, none⟩) n UNK) v) (hn : 0 < n) (hu : B.cells[i]? = some u) : VR s u (cellAt w v i) := by
  cases hv with
  | slice hl hc h =>
    obtain ⟨e, h1, rfl, h2⟩ := h (by omega)
    obtain ⟨e', cs, fz, g1, _, g3, _, _, g6, _⟩ := hr.blk b B hB
    rw [h1] at g1; obtain rfl := Option.some.inj g1
    obtain ⟨v', k1, k2⟩ := g6 i u hu
    unfold cellAt
    simp only [g3, Nat.add_zero, k1, Option.getD_some]
    exact k2
theorem namesOf_eq {G : Nat} {base : Nat → Prop} {w0 w : World} {s : Inj} {v v' : Value} {bs : List UInt8} (hr : Rel G base w0 s aw w) (hb : BytesAt aw v bs) (hv : VR s v v') : namesOf w v' = bs.map ltr := by
  cases hb with
  | nil => cases hv; rfl
  | emp => cases hv; rfl
  | «at» hbn hm =>
    rename_i b el
    have hv0 := hv
    cases hv with
    | slice hl hc h =>
      rename_i a c
      show (List.range bs.length).map (fun i => ltr (byteOf (cellAt w (.slice a bs.length c) i))) = bs.map ltr
      apply List.ext_getElem
      · simp
      · intro i h1 h2
        simp only [List.getElem_map, List.getElem_range]
        have hlt : i < bs.length := by simpa using h2
        have hu : (bytesV bs)[i]? = some (.int .u8 (bs[i].toNat : Int)) := by
          unfold bytesV
          rw [List.getElem?_map, List.getElem?_eq_getElem hlt]; rfl
        have := cellAt_eq hr hm hv0 (by omega) hu
        generalize cellAt w (.slice a bs.length c) i = z at this
        cases this
        show ltr (UInt8.ofNat bs[i].toNat) = _
        rw [UInt8.ofNat_toNat]
end
def csOf (w : World) : List Value → List UInt8
  | [v] => namesOf w v
  | _ => []
theorem law_x {aw : AW} {t u : Nat → TypeId} {nv : Value} {bs cs : List UInt8} (hcs : cs = bs.map ltr) (M : Hp aw [] (NR t u) aw []) (hb : BytesAt aw nv bs) : @CallP (symT (txtN cs)) _ Tryz.prog 6 [nv] aw Tryz.sh6 (fun r _ => r = true) (fun _ _ => False) := by
  letI S := symT (txtN cs)
  have hl : ∀ c ∈ cs, let' c = true := by
    intro c hc
    rw [hcs] at hc
    obtain ⟨b, _, rfl⟩ := List.mem_map.1 hc
    exact ltr_let b
  have hlb : cs.length = bs.length := by rw [hcs]; simp
  refine Tryz.F6_ok nv aw ?_
  unfold Tryz.S6_0
  have hsl : ∀ K : Int → Prop, K (cs.length : Int) → slen nv K := fun K h => by
    rw [hlb] at h
    cases hb with
    | nil => exact slen_x h
    | emp => exact slen_x h
    | «at» => exact slen_x h
  refine awkQ M (cnd_0x rfl (hsl _ ?_))
  by_cases h20 : 20 < cs.length
  · exact cnd_1x (decide_eq_true (by omega)) (awkQ M rfl)
  refine cnd_0x (decide_eq_false (by omega)) (hsl _ ?_)
  by_cases h2 : cs.length < 2
  · exact cnd_1x (decide_eq_true (by omega)) (awkQ M rfl)
  refine cnd_0x (decide_eq_false (by omega)) ⟨cs.length + 1, ?_⟩
  exact outer_x hcs hb (by omega) (by omega) (fun _ => rfl) (fun hd aw hV => cell_tw hl (by omega) (by omega) hd hV (runT _ (by omega) (by omega) t u))
    (fun hd aw hV => cell_no hl (by omega) (by omega) hd hV (runF _ (by omega) (by omega) t u)) cs.length 0 false _ [] aw (by omega) (by simp) .nil M
theorem walkNames {H : Type} {enc : TypeId × Value → H} {w : World} {vs : List Value} {ds : List (DataW H)} {ps : List MemPlace} (hL : laidMetH Tryz.prog laidAll w) (hA : DataW.TrodAll enc Tryz.prog w 0 (fun _ => true) true [41] vs ds ps)
    (hw : (DataW.weightsEach Tryz.prog [41] ds).all (· ≤ reachBytes) = true) (hv : ∀ (j : Nat) t v, [41][j]? = some t → vs[j]? = some v → ∃ base, Value.okWide Tryz.prog w .any base t v) :
    Calls Tryz.prog 6 vs.toArray w fun e w' => e = .returned (.bool true) ∧ Below w.heap.size w w' := by
  letI S : SymE := symT (txtN (csOf w vs))
  obtain ⟨t, u, s, aw, vs', hr, M, ha, hvs⟩ := args_at namesOk hL (by kernel_rfl) hA hw hv
  obtain ⟨v1, r, rfl, h1, ha⟩ := ha.cons
  obtain rfl := ha.nil
  obtain ⟨bs, hb, _⟩ := h1.bytes und41 und5 (by kernel_rfl) (by kernel_rfl)
  have hcs : csOf w vs = bs.map ltr := by
    cases hvs with
    | cons hv1 t =>
      cases t
      exact namesOf_eq hr hb hv1
  exact calls_true (fun b => rfl) (law_x hcs M hb) hr hvs
end Go.Proofs.YthfjjcfceilahaaGreatDoor
