/- MachineMoves: from the row's world. -/
import Derived.Test.YtfoceofohlpafaaDoorMK2
import Derived.Test.YtfoceofohlpafaaDoorMy6
import Derived.Test.YtfoceofohlpafaaDoorL3
set_option linter.unusedSectionVars false
set_option linter.unusedSimpArgs false
namespace Go.Proofs.YtfoceofohlpafaaDoor
open Go Go.ChangeShapes Go.WideShapes Go.ChangeAt Go.RowKit Go.Am Go.Ri Go.Proofs.Tryd
set_option linter.unusedVariables false
set_option maxRecDepth 100000
theorem movOk : okTypes Tryd.prog [27, 48, 4, 2, 9] = true := by kernel_rfl
theorem und9 : Tryd.prog.underlying 9 = some .string := by kernel_rfl
theorem und4 : Tryd.prog.underlying 4 = some .bool := by kernel_rfl
theorem und2 : Tryd.prog.underlying 2 = some (.int .i64) := by kernel_rfl
theorem und27 : Tryd.prog.underlying 27 = some (.slice 48) := by kernel_rfl
noncomputable def fsOf (t : TypeId) : Array Field := match Tryd.prog.underlying t with
  | some (.struct fs) => fs
  | _ => #[]
theorem und48 : ∃ fs, Tryd.prog.underlying 48 = some (.struct fs) ∧ fs.toList.map (·.type) = [4, 2] := ⟨fsOf 48, by kernel_rfl, by kernel_rfl⟩
theorem cells48 : Tryd.prog.cellsOf 48 = 2 := by kernel_rfl
def cellAt (w : World) (v : Value) (i : Nat) : Value := match v with
  | .slice (some a) _ _ => (match w.heap[a.block]? with
    | some (.cells cs _ _) => (cs[a.off + i]?).getD (.bool false)
    | _ => .bool false)
  | _ => .bool false
def strOf : Value → Value
  | .string s => .string s
  | _ => .string (⟨#[]⟩ : ByteArray)
def gOf : Value → Value
  | .bool true => .int .i64 7
  | _ => .int .i64 2
def intOf : Value → Value
  | .int .i64 n => .int .i64 n
  | _ => .int .i64 0
theorem strOf_leaf (v : Value) : ∃ x, strOf v = .string x := by unfold strOf; split <;> exact ⟨_, rfl⟩
theorem gOf_leaf (v : Value) : gOf v = .int .i64 2 ∨ gOf v = .int .i64 7 := by
  unfold gOf; split
  · exact .inr rfl
  · exact .inl rfl
theorem intOf_leaf (v : Value) : ∃ n, intOf v = .int .i64 n := by unfold intOf; split <;> exact ⟨_, rfl⟩
@[reducible] def symM (w : World) (lv sv : Value) : SymE := ⟨fun i => if i = 0 then strOf sv else if i % 2 = 1 then gOf (cellAt w lv ((i - 1) / 2 * 2)) else intOf (cellAt w lv ((i - 2) / 2 * 2 + 1)), fun i => by
  split
  · exact .inr (strOf_leaf _)
  · split
    · rcases gOf_leaf (cellAt w lv ((i - 1) / 2 * 2)) with h | h <;> exact .inl ⟨_, _, h⟩
    · obtain ⟨n, h⟩ := intOf_leaf (cellAt w lv ((i - 2) / 2 * 2 + 1))
      exact .inl ⟨_, _, h⟩⟩
theorem symM_g (w : World) (lv sv : Value) (t : Nat) : (symM w lv sv).E (1 + 2 * t) = gOf (cellAt w lv (t * 2)) := by
  show (if 1 + 2 * t = 0 then _ else _) = _
  rw [if_neg (by omega), if_pos (by omega), show (1 + 2 * t - 1) / 2 * 2 = t * 2 by omega]
theorem symM_n (w : World) (lv sv : Value) (t : Nat) : (symM w lv sv).E (2 + 2 * t) = intOf (cellAt w lv (t * 2 + 1)) := by
  show (if 2 + 2 * t = 0 then _ else _) = _
  rw [if_neg (by omega), if_neg (by omega), show (2 + 2 * t - 2) / 2 * 2 + 1 = t * 2 + 1 by omega]
section
variable [SymE] {aw : AW}
theorem rdl_mv : ∀ (n : Nat) (cells : List Value), RdL Tryd.prog aw (List.replicate n 48) cells → ∃ ls : List (Bool × Int), cells = mvC ls ∧ ls.length = n
  | 0, cells, h => by
    obtain rfl := h.inv_nil
    exact ⟨[], rfl, rfl⟩
  | n + 1, cells, h => by
    obtain ⟨c1, c2, rfl, h1, h2⟩ := RdL.inv_cons (show RdL Tryd.prog aw (48 :: List.replicate n 48) cells from h)
    obtain ⟨fs, hu, hts⟩ := und48
    have h1 := h1.inv_struct hu
    rw [hts] at h1
    obtain ⟨a1, r1, rfl, k1, h1⟩ := h1.inv_cons
    obtain ⟨a2, r2, rfl, k2, h1⟩ := h1.inv_cons
    obtain rfl := h1.inv_nil
    obtain ⟨x1, rfl⟩ := k1.inv_bool und4
    obtain ⟨x2, rfl, _⟩ := k2.inv_int und2
    obtain ⟨ls, rfl, e⟩ := rdl_mv n c2 h2
    exact ⟨(x1, x2) :: ls, rfl, by simp [e]⟩
theorem cellAt_eq {G : Nat} {base : Nat → Prop} {w0 w : World} {s : Inj} {b n : Nat} {B : Blk} {v u : Value} {i : Nat} (hr : Rel G base w0 s aw w) (hB : aw.m b = some B) (hv : VR s (.slice (some ⟨b, 0, none⟩) n UNK) v) (hn : 0 < n) (hu : B.cells[i]? = some u) : VR s u (cellAt w v i) := by
  cases hv with
  | slice hl hc h =>
    obtain ⟨e, h1, rfl, h2⟩ := h (by omega)
    obtain ⟨e', cs, fz, g1, _, g3, _, _, g6, _⟩ := hr.blk b B hB
    rw [h1] at g1; obtain rfl := Option.some.inj g1
    obtain ⟨v', k1, k2⟩ := g6 i u hu
    unfold cellAt
    simp only [g3, Nat.add_zero, k1, Option.getD_some]
    exact k2
end
theorem walkMoves {H : Type} {enc : TypeId × Value → H} {w : World} {vs : List Value} {ds : List (DataW H)} {ps : List MemPlace} (hL : laidMetH Tryd.prog laidAll w) (hA : DataW.TrodAll enc Tryd.prog w 0 (fun _ => true) true [27, 9] vs ds ps)
    (hw : (DataW.weightsEach Tryd.prog [27, 9] ds).all (· ≤ reachBytes) = true) (hv : ∀ (j : Nat) t v, [27, 9][j]? = some t → vs[j]? = some v → ∃ base, Value.okWide Tryd.prog w .any base t v) :
    Calls Tryd.prog 5 vs.toArray w fun e w' => e = .returned (.bool true) ∧ Below w.heap.size w w' := by
  obtain ⟨w1, w2, rfl⟩ : ∃ w1 w2, vs = [w1, w2] := by
    letI : SymE := symW
    obtain ⟨t1, t2, s, aw, vs', _, _, ha, hvs⟩ := args_at movOk hL (by kernel_rfl) hA hw hv
    obtain ⟨v1, r, rfl, h1, ha⟩ := ha.cons
    obtain ⟨v2, r, rfl, h2, ha⟩ := ha.cons
    obtain rfl := ha.nil
    cases hvs with
    | cons e1 t =>
      cases t with
      | cons e2 t =>
        cases t
        exact ⟨_, _, rfl⟩
  letI : SymE := symM w w1 w2
  obtain ⟨t1, t2, s, aw, vs', hr, hM, ha, hvs⟩ := args_at movOk hL (by kernel_rfl) hA hw hv
  obtain ⟨v1, r, rfl, h1, ha⟩ := ha.cons
  obtain ⟨v2, r, rfl, h2, ha⟩ := ha.cons
  obtain rfl := ha.nil
  obtain ⟨a, rfl, _⟩ := h2.str und9
  have hvs' := hvs
  cases hvs with
  | cons e1 t =>
    cases t with
    | cons e2 t =>
      have es : w2 = .string (mkB a) := e2.string_inv
      have h0 : SymE.E 0 = .string (mkB a) := by
        show (if 0 = 0 then strOf w2 else _) = _
        rw [if_pos rfl, es]; rfl
      have hodd : ∀ t, SymE.E (1 + 2 * t) = .int .i64 2 ∨ SymE.E (1 + 2 * t) = .int .i64 7 := fun t => by
        show (symM w w1 w2).E (1 + 2 * t) = _ ∨ (symM w w1 w2).E (1 + 2 * t) = _
        rw [symM_g]; exact gOf_leaf _
      have h1 : Rd Tryd.prog aw 27 [v1] := by
        cases h1 with
        | one h hn => exact h
        | agg h hn => exact absurd hn (by rw [show isAggT Tryd.prog 27 = false by kernel_rfl]; decide)
      have fin : ∀ (ro : List (Nat × Blk)) (ls : List (Bool × Int)), (∀ p ∈ ro0 t1 t2, p ∈ ro) → LsAt ro v1 ls → Hp aw [] ro aw [] → (∀ t x, ls[t]? = some x → cellAt w w1 (t * 2) = .bool x.1 ∧ cellAt w w1 (t * 2 + 1) = .int .i64 x.2) → Calls Tryd.prog 5 #[w1, w2] w fun e w' => e = .returned (.bool true) ∧ Below w.heap.size w w' := by
        intro ro ls hro hl M hc
        have := moves_law (E := fun _ _ => False) (s := a) (ls := ls) hro hl h0 (fun t x hx => ?_) hodd M
        · exact calls_true (args := [v1, .string (mkB a)]) (args' := [w1, w2]) (fun b => rfl) this hr hvs'
        · have hx' : ls[t]? = some x := by
            rw [List.getElem?_take] at hx
            split at hx
            · exact hx
            · cases hx
          obtain ⟨c1, c2⟩ := hc t x hx'
          refine ⟨?_, ?_⟩
          · show (symM w w1 w2).E (1 + 2 * t) = _
            rw [symM_g, c1]
            cases x.1 <;> rfl
          · show (symM w w1 w2).E (2 + 2 * t) = _
            rw [symM_n, c2]; rfl
      rcases h1.inv_slice und27 with h | ⟨b, h, hlt⟩ | ⟨b, len, el, cells, h, hlt, hm, hn, hl, hrl⟩
      · obtain rfl := (List.cons.inj h).1
        exact fin _ [] (fun p hp => hp) (.inl ⟨rfl, rfl⟩) hM fun t x hx => by cases hx
      · obtain rfl := (List.cons.inj h).1
        exact fin _ [] (fun p hp => hp) (.inr ⟨b, 0, false, 0, rfl, .inl rfl⟩) hM fun t x hx => by cases hx
      · obtain rfl := (List.cons.inj h).1
        obtain ⟨ls, rfl, rfl⟩ := rdl_mv len cells hrl
        rw [cells48] at hm
        refine fin (ro0 t1 t2 ++ [(b, ⟨mvC ls, el, 2, false, 0⟩)]) ls (fun p hp => List.mem_append_left _ hp) (.inr ⟨b, el, false, 0, rfl, .inr (At.app .here)⟩) ?_ fun t x hx => ?_
        · refine Hp.init (l := []) List.nodup_nil (fun p hp => by cases hp) fun p hp => ?_
          rcases List.mem_append.1 hp with hp | hp
          · obtain ⟨k1, k2, k3⟩ := hM.ro_ p hp
            exact ⟨k1, k2, by simp⟩
          · obtain rfl := List.mem_singleton.1 hp
            exact ⟨hm, hlt, by simp⟩
        · obtain ⟨g1, g2⟩ := mvC_get hx
          have hpos : 0 < ls.length := Nat.lt_of_le_of_lt (Nat.zero_le _) (List.getElem?_eq_some_iff.1 hx).1
          exact ⟨(cellAt_eq hr hm e1 hpos g1).bool_inv, (cellAt_eq hr hm e1 hpos g2).int_inv⟩
end Go.Proofs.YtfoceofohlpafaaDoor
