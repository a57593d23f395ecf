/- Append where the capacity isn't known; copy, make; bytes and texts; what is alike; types. -/
import Derived.Test.YtfoceofohlpafaaDoorAm6
import Derived.Laws.StructEq
import Derived.IntWalk
set_option linter.unusedSimpArgs false
set_option linter.unusedVariables false
set_option linter.unusedSectionVars false
namespace Go.Am
open Go Go.RowKit
variable [SymE]

section
variable {P : Program} {ρ : Env} {aw aw' : AW} {o : Oper} {v xv sv : Value} {x y : Operand} {t el sT xT : TypeId} {d dx : TypeDesc} {b i n l c size bytes : Nat} {cs os : List Value} {z : Value} {at' : Array TypeId}

theorem opv_appendU {B : Blk} (hop : o.op = .call { callee := .builtin .append, args := #[x, y], argTypes := at' }) (hat : at' = #[sT, xT]) (hx : okOpd P.globals.size x = true) (hy : okOpd P.globals.size y = true)
    (hu : P.underlying sT = some (.slice el)) (hsz : (P.info? el).map (·.size) = some size) (hby : (P.info? el).map (·.bytes) = some bytes) (hxu : P.underlying xT = some dx) (hni : notInt dx = true)
    (hz0 : (P.info? el).bind (·.zero) = some z) (hzs : z.cells.size = size) (hb0 : 0 < bytes)
    (h1 : ρ.eval x = .slice (some ⟨b, i, none⟩) l c) (h2 : ρ.eval y = xv) (hos : aw.getN b i (l * size) = some os) (hs : Src aw size xv n cs) (hc : UNK ≤ c)
    (hB : aw.m b = some B) (hrw : B.rw = true) (hfz : B.fz = 0) (hBe : B.elem = el) (hBs : B.esz = size) (ho : cs.all one = true) (hi : i = 0) (hsz0 : 0 < size)
    (hb : (2 * (l + n) + 768) * bytes ≤ 2 ^ 48) : OpV P o ρ aw (.slice (some ⟨aw.next, 0, none⟩) (l + n) UNK) ((aw.kill b).alloc (os ++ cs) el size) := by
  intro base w0 s f w hr hf
  have e1 := hf x hx; rw [h1] at e1
  have e2 := hf y hy; rw [h2] at e2
  obtain ⟨a', c', q1, q2, q3, q4⟩ := e1.slice_inv
  by_cases hfit : l + n ≤ c'
  · -- in place, or nothing at all
    rcases Nat.eq_zero_or_pos c' with h0 | h0
    · -- an empty one: nothing is appended to nothing
      have hl0 : l = 0 := by omega
      have hn0 : n = 0 := by omega
      subst hl0 hn0 h0
      obtain ⟨r1, cs', r2, r3⟩ := hs.run (P := P) hr e2
      have hcs : cs = [] := List.eq_nil_of_length_eq_zero (by rw [hs.length]; omega)
      subst hcs
      cases r2
      have hos' : os = [] := List.eq_nil_of_length_eq_zero (by rw [AW.getN_length hos]; omega)
      subst hos'
      obtain ⟨e, C, fz, g1, g2, g3, g4, g5, g6, g7⟩ := hr.blk b B hB
      obtain ⟨w', s', k1, k2, k3, k4⟩ := Rel.move P (i := 0) hr hB hrw hfz g1 (os := []) (cs := []) (cs' := []) rfl .nil rfl (by simp; omega) rfl (by rw [g2.1, hBs]; exact hsz0)
      simp only [storeCells, Sem.run_pure, Result.ok.injEq, true_and] at k1
      subst k1
      have := run_append_fits (P := P) (a := some a') (c' := 0) (l := 0) hat hu hsz hxu hni r1 r3 (by omega) (w' := w) (by simp [storeCells]) o.type
      refine ⟨_, .slice (some a') 0 0, w, s', ?_, .inl rfl, k2, ?_, .slice (Nat.le_refl _) (fun h => absurd h (Nat.lt_irrefl _)) fun h => absurd h (Nat.lt_irrefl _)⟩
      · simp only [execOp, hop, resolve, Sem.run_bind, Sem.run_pure, Result.andThen_ok, invoke, builtin, List.map_toArray, List.map_cons, List.map_nil, q1]
        rw [this]; rfl
      · rw [hBe] at k4
        rw [show e.esz = size by rw [g2.1, hBs]] at k4
        exact k4
    · obtain ⟨e, q5, q6, q7⟩ := q4 h0
      subst q6
      obtain ⟨r1, cs', r2, r3⟩ := hs.run (P := P) hr e2
      have hlo := AW.getN_length hos
      have hlc := hs.length
      have q8 := q7 hc
      obtain ⟨e', C, fz, g1, g2, g3, g4, g5, g6, g7⟩ := hr.blk b B hB
      rw [q5] at g1; obtain rfl := Option.some.inj g1
      have hes : e.esz = size := by rw [g2.1, hBs]
      rw [hes] at q8
      have hroom : e.off + i + os.length + cs.length ≤ e.csize := by
        rw [hlo, hlc]
        have : (l + n) * size ≤ c' * size := Nat.mul_le_mul_right _ hfit
        rw [Nat.add_mul] at this
        omega
      obtain ⟨w', s', k1, k2, k3, k4⟩ := Rel.move P hr hB hrw hfz q5 (by rw [hlo]; exact hos) r2 ho hroom hi (by rw [hes]; exact hsz0)
      have := run_append_fits (P := P) (a := some ⟨e.cb, e.off + i, none⟩) (c' := c') (l := l) hat hu hsz hxu hni r1 r3 hfit (w' := w') (by simp only [Addr.add_lit]; rw [← hlo]; exact k1) o.type
      rw [hBe, hes] at k4
      refine ⟨_, .slice (some ⟨e.cb, e.off + i, none⟩) (l + n) c', w', s', ?_, .inl rfl, k2, k4, .slice hfit (fun h => absurd h (Nat.lt_irrefl _)) fun _ => ⟨_, k3, rfl, fun _ => ?_⟩⟩
      · simp only [execOp, hop, resolve, Sem.run_bind, Sem.run_pure, Result.andThen_ok, invoke, builtin, List.map_toArray, List.map_cons, List.map_nil, q1]
        rw [this]; rfl
      · simp only [Nat.add_zero, hes]; exact q8
  · have hkr := hr.kill b
    obtain ⟨r1, _⟩ := hs.run (P := P) hr e2
    obtain ⟨_, cs', r2, r3⟩ := hs.run (P := P) hr.drew e2
    have hsrc : Src aw size (.slice (some ⟨b, i, none⟩) l c) l os := .slice hos
    obtain ⟨_, os', t2, t3⟩ := hsrc.run (P := P) hr.drew (q1 ▸ e1)
    obtain ⟨N, hN, hrun⟩ := run_append_grows (P := P) (a := some a') (c' := c') (l := l) hat hu hsz hby hxu hni hz0 hb0 r1 (fun _ _ => trivial) r3 t3 (by omega) hb o.type
    obtain ⟨s', k1, k2, k3⟩ := alloc_append (hr.drew.kill b) t2 r2 el size hsz0 (Builtin.zeroCells z.cells (N - (l + n)))
    refine ⟨_, .slice (some ⟨w.heap.size, 0, none⟩) (l + n) N, _, s', ?_, .inl rfl, k1, k3, .slice hN (fun h => absurd h (Nat.lt_irrefl _)) fun _ => ⟨_, k2, rfl, fun _ => ?_⟩⟩
    · simp only [execOp, hop, resolve, Sem.run_bind, Sem.run_pure, Result.andThen_ok, invoke, builtin, List.map_toArray, List.map_cons, List.map_nil, q1]
      rw [hrun]; rfl
    · have l1 := t2.length; have l2 := r2.length
      rw [AW.getN_length hos] at l1; rw [hs.length] at l2
      simp only [Array.size_append, List.size_toArray, zeroCells_size, hzs, ← l1, ← l2, Nat.zero_add]
      rw [← Nat.add_mul, ← Nat.add_mul]
      exact Nat.le_of_eq (by congr 1; omega)

/-! copy -/
theorem Src.take {aw : AW} {size n m : Nat} {v : Value} {cs : List Value} (h : Src aw size v n cs) (hm : m ≤ n) {s : Inj} {G base : Nat} {w0 w : World} (hr : Rel G base w0 s aw w) {v' : Value} (hv : VR s v v') :
    ∃ cs', VRs s (cs.take (m * size)) cs' ∧ (Builtin.firstCells size m v').run P w = .ok cs'.toArray w := by
  have getN_take : ∀ (k b i n : Nat) (cs : List Value), aw.getN b i n = some cs → k ≤ n → aw.getN b i k = some (cs.take k) := by
    intro k
    induction k with
    | zero => intro b i n cs _ _; simp [AW.getN]
    | succ k ih =>
      intro b i n cs hg hk
      cases n with
      | zero => omega
      | succ n =>
        simp only [AW.getN] at hg ⊢
        split at hg
        · simp at hg
        · rename_i u hu
          cases hg2 : aw.getN b (i + 1) n with
          | none => simp [hg2] at hg
          | some l =>
            simp [hg2] at hg; subst hg
            simp [hu, ih b (i + 1) n l hg2 (by omega)]
  cases h with
  | @slice b i n c cs hg =>
    have := getN_take (m * size) b i (n * size) cs hg (Nat.mul_le_mul_right _ hm)
    have h2 : Src aw size (.slice (some ⟨b, i, none⟩) m c) m (cs.take (m * size)) := .slice this
    obtain ⟨a', c', rfl, q2, q3, q4⟩ := hv.slice_inv
    have hv2 : VR s (.slice (some ⟨b, i, none⟩) m c) (.slice (some a') m c') := .slice (by omega) q3 q4
    obtain ⟨_, cs', k1, k2⟩ := h2.run (P := P) hr hv2
    exact ⟨cs', k1, by simpa [Builtin.firstCells] using k2⟩
  | nil =>
    obtain ⟨_, _, rfl⟩ := hv.nilslice_inv
    have : m = 0 := by omega
    subst this
    exact ⟨[], by simp; exact .nil, rfl⟩
  | str a hz =>
    subst hz
    rw [hv.string_inv]
    refine ⟨_, (VRs.ofPlains (plains_bytes _)).take _, ?_⟩
    simp only [Builtin.firstCells, Sem.run_pure, Nat.mul_one]
    congr 1
    apply Array.toList_inj.1
    simp only [Array.toList_map, List.map_take, ByteArray.data_extract]
    simp [← List.map_take]
theorem opv_copy {m : Nat} (hop : o.op = .call { callee := .builtin .copy, args := #[x, y], argTypes := at' }) (hat : at' = #[sT, xT]) (hx : okOpd P.globals.size x = true) (hy : okOpd P.globals.size y = true)
    (hu : P.underlying sT = some (.slice el)) (hsz : (P.info? el).map (·.size) = some size)
    (h1 : ρ.eval x = .slice (some ⟨b, i, none⟩) l c) (h2 : ρ.eval y = xv) (hs : Src aw size xv n cs) (hm : m = min n l) (ho : (cs.take (m * size)).all one = true) (hw : aw.wr b i (cs.take (m * size)).length) :
    OpV P o ρ aw (.int .i64 m) (aw.setN b i (cs.take (m * size))) := by
  intro base w0 s f w hr hf
  have e1 := hf x hx; rw [h1] at e1
  have e2 := hf y hy; rw [h2] at e2
  obtain ⟨a', c', q1, q2, q3, q4⟩ := e1.slice_inv
  obtain ⟨r1, _⟩ := hs.run (P := P) hr e2
  obtain ⟨cs', r2, r3⟩ := hs.take (P := P) (m := m) (by omega) hr e2
  have hmn : Nat.min n l = m := hm.symm
  rcases Nat.eq_zero_or_pos m with h0 | h0
  · have hnil : cs.take (m * size) = [] := by subst h0; simp
    rw [hnil] at r2 hw ho ⊢
    cases r2
    refine ⟨_, .int .i64 m, w, s, ?_, .inl rfl, Inj.le_refl s, hr, .int _ _⟩
    subst hat
    simp only [execOp, hop, resolve, Sem.run_bind, Sem.run_pure, Result.andThen_ok, invoke, builtin, List.map_toArray, List.map_cons, List.map_nil, q1, Builtin.copy_, List.getElem?_toArray, List.getElem?_cons_zero, List.getElem?_cons_succ,
      run_underlying hu, run_sizeOf' hsz, r1, hmn, r3, storeCells, goInt]
  · obtain ⟨e, q5, q6, q7⟩ := q4 (by omega)
    subst q6
    obtain ⟨w', k1, k2⟩ := Rel.setN P (i := i) (k := 0) hr q5 (by simpa using hw) r2 ho
    refine ⟨_, .int .i64 m, w', s, ?_, .inl rfl, Inj.le_refl s, by simpa using k2, .int _ _⟩
    subst hat
    simp only [execOp, hop, resolve, Sem.run_bind, Sem.run_pure, Result.andThen_ok, invoke, builtin, List.map_toArray, List.map_cons, List.map_nil, q1, Builtin.copy_, List.getElem?_toArray, List.getElem?_cons_zero, List.getElem?_cons_succ,
      run_underlying hu, run_sizeOf' hsz, r1, hmn, r3, goInt]
    rw [k1]; rfl

/-! make -/
/-- n elements, each nought -/
def zeros (z : List Value) : Nat → List Value
  | 0 => []
  | n + 1 => z ++ zeros z n
theorem zeros_length (z : List Value) : ∀ n, (zeros z n).length = n * z.length
  | 0 => by simp [zeros]
  | n + 1 => by simp [zeros, zeros_length z n, Nat.add_mul]; omega
theorem zeros_get (z : List Value) (hz : 0 < z.length) : ∀ (n j : Nat), j < n * z.length → (zeros z n)[j]? = z[j % z.length]?
  | 0, j, h => by simp at h
  | n + 1, j, h => by
    simp only [zeros]
    by_cases hj : j < z.length
    · rw [List.getElem?_append_left hj, Nat.mod_eq_of_lt hj]
    · rw [List.getElem?_append_right (by omega), zeros_get z hz n _ (by rw [Nat.add_mul] at h; omega)]
      congr 1
      rw [← Nat.mod_eq_sub_mod (by omega)]
theorem madeCells_zeros {z : Array Value} (hz : 0 < z.size) (n : Nat) : ((Array.range (n * z.size)).map (z[· % z.size]!)).toList = zeros z.toList n := by
  apply List.ext_getElem?
  intro j
  by_cases hj : j < n * z.size
  · rw [zeros_get _ (by simpa using hz) n j (by simpa using hj)]
    have : j % z.size < z.size := Nat.mod_lt _ hz
    simp [hj, this]
  · have h2 : (zeros z.toList n).length ≤ j := by rw [zeros_length]; simp; omega
    rw [List.getElem?_eq_none h2]
    simp; omega
theorem zeros_plain {z : List Value} (h : plains z = true) : ∀ n, plains (zeros z n) = true
  | 0 => rfl
  | n + 1 => by
    have app : ∀ a b : List Value, plains a = true → plains b = true → plains (a ++ b) = true := by
      intro a
      induction a with
      | nil => intro b _ h; exact h
      | cons u a ih => intro b h1 h2; simp only [plains, List.cons_append, Bool.and_eq_true] at h1 ⊢; exact ⟨h1.1, ih b h1.2 h2⟩
    exact app _ _ h (zeros_plain h n)
theorem opv_makeSlice {k k' : IntKind} {m cp : Nat} (hop : o.op = .makeSlice t x y) (hx : okOpd P.globals.size x = true) (hy : okOpd P.globals.size y = true)
    (hu : P.underlying t = some (.slice el)) (hsz : (P.info? el).map (·.size) = some size) (hby : (P.info? el).map (·.bytes) = some bytes) (hz0 : (P.info? el).bind (·.zero) = some z) (hzs : z.cells.size = size) (hs0 : 0 < size) (hp : plains z.cells.toList = true)
    (h1 : ρ.eval x = .int k (m : Int)) (h2 : ρ.eval y = .int k' (cp : Int)) (hm : m ≤ cp) (hb : bytes * cp ≤ 2 ^ 47) (hcp : cp < 2 ^ 60) :
    OpV P o ρ aw (.slice (some ⟨aw.next, 0, none⟩) m cp) (aw.alloc (zeros z.cells.toList cp) el size) := by
  intro base w0 s f w hr hf
  have e1 := hf x hx; rw [h1] at e1
  have e2 := hf y hy; rw [h2] at e2
  obtain ⟨inf, hinf⟩ : ∃ inf, P.info? el = some inf := by
    cases h : P.info? el with
    | none => simp [h] at hsz
    | some q => exact ⟨q, rfl⟩
  have hbb : inf.bytes = bytes := by simpa [hinf] using hby
  have w1 : IntKind.i64.wrap (m : Int) = m := IntWalk.i64_in _ (by omega)
  have w2 : IntKind.i64.wrap (cp : Int) = cp := IntWalk.i64_in _ (by omega)
  have hb' : ((inf.bytes : Int) * (cp : Int)) ≤ 2 ^ 47 := by rw [hbb]; exact_mod_cast hb
  obtain ⟨s', k1, k2, k3⟩ := hr.alloc (cells := zeros z.cells.toList cp) (cs := (Array.range (cp * size)).map (z.cells[· % size]!)) el size (by
      rw [← hzs, ← madeCells_zeros (by omega) cp]; simp) (by omega) (fun j u hj => by
      have hpl := VRs.ofPlains (s := s) (zeros_plain hp cp)
      rw [← hzs]
      obtain ⟨u', a1, a2⟩ := hpl.get hj
      refine ⟨u', ?_, a2⟩
      rw [← madeCells_zeros (by omega) cp] at a1
      rw [← Array.getElem?_toList]; exact a1) (0, 0) (by simp)
  have hfin : (Instr.makeSlice t (.int k (m : Int)) (.int k' (cp : Int))).run P w = .ok (.slice (some ⟨w.heap.size, 0, none⟩) m cp) (w.alloc (.cells ((Array.range (cp * size)).map (z.cells[· % size]!)) el)) := by
    simp only [Instr.makeSlice, Sem.run_bind, run_underlying hu, Result.andThen_ok, asInt, run_asIntOf, Sem.run_pure, run_typeInfo w hinf, w1, w2]
    rw [if_neg (by simp; omega)]
    simp only [Sem.run_bind, run_askRoom, Result.andThen_ok, run_sizeOf' hsz, Int.toNat_natCast]
    by_cases hn : cp * size = 0
    · have : cp = 0 := by
        rcases Nat.mul_eq_zero.1 hn with h | h
        · exact h
        · omega
      subst this
      simp only [hn, if_true, Sem.run_pure, Result.andThen_ok, Sem.run_bind, run_newRow]
      congr 3
      apply Array.toList_inj.1
      simp
    · simp only [hn, if_false, Sem.run_bind, run_zeroValue' hz0, Result.andThen_ok, Sem.run_pure, run_newRow, hzs]
  refine ⟨_, .slice (some ⟨w.heap.size, 0, none⟩) m cp, _, s', ?_, .inl rfl, k1, k3, .slice hm (fun _ => rfl) fun _ => ⟨_, k2, rfl, fun h => ?_⟩⟩
  · simp only [execOp, hop, VR.int_inv e1, VR.int_inv e2, Sem.run_bind, hfin, Result.andThen_ok, Sem.run_pure]
  · unfold UNK at h; omega

/-! bytes and texts -/
theorem freeze_alloc (w : World) (cs : Array Value) (e : TypeId) : (w.alloc (.cells cs e)).freeze ⟨w.heap.size, cs.size, none⟩ 1 = w.alloc (.cells cs e (cs.size, cs.size + 1)) := by
  simp only [World.freeze, World.alloc]
  simp only [Nat.one_ne_zero, if_false]
  congr 1
  apply Array.ext_getElem?
  intro j
  rw [Array.getElem?_modify, Array.getElem?_push, Array.getElem?_push]
  by_cases hj : w.heap.size = j
  · subst hj; simp
  · have : ¬ j = w.heap.size := fun h => hj h.symm
    simp [hj, this]
end
end Go.Am
