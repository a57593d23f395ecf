/- Operations, one by one: memory. -/
import Derived.Test.YtfoceofohlpafaaDoorAm3
set_option linter.unusedSimpArgs false
set_option linter.unusedVariables false
set_option linter.unusedSectionVars false
namespace Go.Am
open Go Go.RowKit
variable [SymE]

def AW.getN (aw : AW) (b i : Nat) : Nat → Option (List Value)
  | 0 => some []
  | n + 1 => match aw.get b i with
    | none => none
    | some v => (aw.getN b (i + 1) n).map (v :: ·)
theorem AW.getN_length {aw : AW} {b : Nat} : ∀ {n i : Nat} {cs : List Value}, aw.getN b i n = some cs → cs.length = n
  | 0, i, cs, h => by simp [AW.getN] at h; subst h; rfl
  | n + 1, i, cs, h => by
    simp only [AW.getN] at h
    split at h
    · simp at h
    · cases hg : aw.getN b (i + 1) n with
      | none => simp [hg] at h
      | some l => simp [hg] at h; subst h; simp [AW.getN_length hg]
/-- cells from i on can be written -/
def AW.wr (aw : AW) (b i n : Nat) : Prop := ∃ B, aw.m b = some B ∧ B.rw = true ∧ i + n ≤ B.cells.length ∧ B.fz ≤ i

section
variable {G base : Nat} {w0 : World} {s : Inj} {aw : AW} {w : World}
theorem Rel.cellsN (h : Rel G base w0 s aw w) {b : Nat} {e : Ent} (he : s b = some e) : ∀ {n i : Nat} {cs : List Value}, aw.getN b i n = some cs →
    ∃ cs', VRs s cs cs' ∧ ∀ j v, cs'[j]? = some v → w.cell? ⟨e.cb, e.off + i + j, none⟩ = some v
  | 0, i, cs, hg => by
    simp [AW.getN] at hg; subst hg
    exact ⟨[], .nil, fun j v hj => by simp at hj⟩
  | n + 1, i, cs, hg => by
    simp only [AW.getN] at hg
    split at hg
    · simp at hg
    · rename_i v hv
      cases hg2 : aw.getN b (i + 1) n with
      | none => simp [hg2] at hg
      | some l =>
        simp [hg2] at hg; subst hg
        obtain ⟨e', v', h1, h2, h3⟩ := h.cell hv
        rw [he] at h1; obtain rfl := Option.some.inj h1
        obtain ⟨cs', h4, h5⟩ := h.cellsN he hg2
        refine ⟨v' :: cs', .cons h3 h4, ?_⟩
        intro j u hj
        cases j with
        | zero => simp at hj; subst hj; simpa using h2
        | succ j =>
          simp at hj
          have := h5 j u hj
          rw [show e.off + (i + 1) + j = e.off + i + (j + 1) by omega] at this
          exact this

theorem run_loadN (P : Program) {e : Ent} {i n : Nat} {cs' : List Value} (hl : cs'.length = n) (h : ∀ j v, cs'[j]? = some v → w.cell? ⟨e.cb, e.off + i + j, none⟩ = some v) :
    (loadCells ⟨e.cb, e.off + i, none⟩ n).run P w = .ok cs'.toArray w := by
  subst hl
  exact run_loadCells_list w _ _ (fun j v hj => by rw [Addr.add_lit]; exact h j v hj)

/-- several cells are written -/
theorem Rel.setN (P : Program) : ∀ {vs vs' : List Value} {aw : AW} {w : World} {b i k : Nat} {e : Ent}, Rel G base w0 s aw w → s b = some e → aw.wr b (i + k) vs.length → VRs s vs vs' → (vs.all one = true) →
    ∃ w', (storeCells ⟨e.cb, e.off + i, none⟩ vs' k).run P w = .ok () w' ∧ Rel G base w0 s (aw.setN b (i + k) vs) w'
  | [], _, aw, w, b, i, k, e, h, he, hw, hv, ho => by
    cases hv
    exact ⟨w, by simp [storeCells], h⟩
  | v :: vs, _, aw, w, b, i, k, e, h, he, hw, hv, ho => by
    cases hv with
    | @cons _ v' _ vs' hv hvs =>
    obtain ⟨B, h1, h2, h3, h4⟩ := hw
    simp only [List.length_cons] at h3
    simp only [List.all_cons, Bool.and_eq_true] at ho
    obtain ⟨k1, k2, k3⟩ := h.set h1 h2 (i := i + k) (by omega) h4 hv he
    have hw' : (aw.set b (i + k) v).wr b (i + (k + 1)) vs.length := by
      refine ⟨{ B with cells := B.cells.set (i + k) v }, ?_, h2, ?_, ?_⟩
      · simp [AW.set, h1]
      · simp only [List.length_set]; omega
      · simp only; omega
    obtain ⟨w', k4, k5⟩ := Rel.setN P (i := i) (k := k + 1) k3 he hw' hvs ho.2
    refine ⟨w', ?_, ?_⟩
    · simp only [storeCells, Sem.run_bind]
      rw [run_store _ _ _ _ _ (by rw [hv.one]; exact ho.1)]
      rw [Addr.add_lit, show e.off + i + k = e.off + (i + k) by omega]
      cases hc : w.cell? ⟨e.cb, e.off + (i + k), none⟩ with
      | none => simp [hc] at k2
      | some u =>
        simp only [k1, Bool.false_eq_true, if_false, Result.andThen_ok]
        exact k4
    · rw [show i + (k + 1) = i + k + 1 by omega] at k5
      exact k5
end

section
variable {P : Program} {ρ : Env} {aw aw' : AW} {o : Oper} {v : Value} {x y : Operand} {t : TypeId} {d : TypeDesc} {b i n : Nat}

theorem opv_load1 (hop : o.op = .load t x) (hu : P.underlying t = some d) (ha : aggT d = false) (hx : okOpd P.globals.size x = true)
    (h1 : ρ.eval x = .pointer (some ⟨b, i, none⟩)) (hg : aw.get b i = some v) : OpV P o ρ aw v aw := by
  intro base w0 s f w hr hf
  have e1 := hf x hx; rw [h1] at e1
  obtain ⟨e, he, h2⟩ := e1.ptr_inv
  obtain ⟨e', v', k1, k2, k3⟩ := hr.cell hg
  rw [he] at k1; obtain rfl := Option.some.inj k1
  refine ⟨_, v', w, s, ?_, .inl rfl, Inj.le_refl s, hr, k3⟩
  simp only [execOp, hop, h2, Instr.loadAt, Instr.sureAddr, loadVar, Sem.run_bind, Sem.run_pure, Result.andThen_ok, run_isAgg hu]
  cases d <;> simp_all [aggT]
theorem opv_loadN {cs : List Value} (hop : o.op = .load t x) (hu : P.underlying t = some d) (ha : aggT d = true) (hn : (P.info? t).map (·.size) = some n) (hx : okOpd P.globals.size x = true)
    (h1 : ρ.eval x = .pointer (some ⟨b, i, none⟩)) (hg : aw.getN b i n = some cs) : OpV P o ρ aw (.agg cs.toArray) aw := by
  intro base w0 s f w hr hf
  have e1 := hf x hx; rw [h1] at e1
  obtain ⟨e, he, h2⟩ := e1.ptr_inv
  obtain ⟨cs', k1, k2⟩ := hr.cellsN he hg
  have hl : cs'.length = n := by rw [← k1.length]; exact AW.getN_length hg
  have hld := run_loadN P hl k2
  have hsz := run_sizeOf' hn w
  refine ⟨_, .agg cs'.toArray, w, s, ?_, .inl rfl, Inj.le_refl s, hr, .agg (by simpa using k1)⟩
  simp only [execOp, hop, h2, Instr.loadAt, Instr.sureAddr, loadVar, Sem.run_bind, Sem.run_pure, Result.andThen_ok, run_isAgg hu]
  cases d <;> simp_all [aggT]
theorem opv_store {xv : Value} (hop : o.op = .store t x y) (hx : okOpd P.globals.size x = true) (hy : okOpd P.globals.size y = true)
    (h1 : ρ.eval x = .pointer (some ⟨b, i, none⟩)) (h2 : ρ.eval y = xv) (hn : (P.info? t).map (·.size) = some xv.cells.toList.length)
    (ho : xv.cells.toList.all one = true) (hw : aw.wr b i xv.cells.toList.length) : OpV P o ρ aw undef (aw.setN b i xv.cells.toList) := by
  intro base w0 s f w hr hf
  have e1 := hf x hx; rw [h1] at e1
  obtain ⟨e, he, h3⟩ := e1.ptr_inv
  have e2 := hf y hy; rw [h2] at e2
  have hc := e2.cells
  obtain ⟨w', k1, k2⟩ := Rel.setN P (i := i) (k := 0) hr he (by simpa using hw) hc ho
  have hsz := run_sizeOf' hn w
  have hl := hc.length
  refine ⟨_, undef, w', s, ?_, .inr ⟨rfl, rfl⟩, Inj.le_refl s, by simpa using k2, VR.undef⟩
  simp only [execOp, hop, h3, Instr.storeAt, Instr.sureAddr, storeVar, Sem.run_bind, Sem.run_pure, Result.andThen_ok, hsz]
  have : ¬ ((f y).cells.size ≠ xv.cells.toList.length) := by
    rw [hl]; simp
  simp only [if_neg this, Sem.run_bind, Sem.run_pure, Result.andThen_ok]
  rw [k1]; rfl

/-! new memory -/
theorem run_zeroValue' {t : TypeId} {z : Value} (h : (P.info? t).bind (·.zero) = some z) (w : World) : (zeroValue t).run P w = .ok z w := by
  cases hi : P.info? t with
  | none => simp [hi] at h
  | some q =>
    simp [hi] at h
    simp [zeroValue, run_typeInfo w hi, h]
theorem run_newRow (P : Program) (e : TypeId) (cs : Array Value) (w : World) : (newRow e cs).run P w = .ok ⟨w.heap.size, 0, none⟩ (w.alloc (.cells cs e)) := by
  simp [newRow]
theorem opv_alloc {z : Value} (hop : o.op = .alloc t) (hz : (P.info? t).bind (·.zero) = some z) (hp : plains z.cells.toList = true) :
    OpV P o ρ aw (.pointer (some ⟨aw.next, 0, none⟩)) (aw.alloc z.cells.toList t 0) := by
  intro base w0 s f w hr hf
  have hv : VRs s z.cells.toList z.cells.toList := VRs.ofPlains hp
  obtain ⟨s', k1, k2, k3⟩ := hr.alloc (cells := z.cells.toList) (cs := z.cells) t 0 (by simp) (by simp) (fun i v hi => by
    obtain ⟨v', a1, a2⟩ := hv.get hi
    exact ⟨v', by simpa using a1, a2⟩) (0, 0) (by simp)
  refine ⟨_, .pointer (some ⟨w.heap.size, 0, none⟩), _, s', ?_, .inl rfl, k1, k3, ?_⟩
  · simp only [execOp, hop, Instr.alloc, Sem.run_bind, run_zeroValue' hz, Result.andThen_ok, newVar, run_newRow, Sem.run_pure]
  · have := VR.ptr (s := s') (o := 0) k2
    simpa using this
theorem opv_box {xv : Value} (hop : o.op = .box t x) (hx : okOpd P.globals.size x = true) (h1 : ρ.eval x = xv) :
    OpV P o ρ aw (.pointer (some ⟨aw.next, 0, none⟩)) (aw.alloc xv.cells.toList t 0) := by
  intro base w0 s f w hr hf
  have e1 := hf x hx; rw [h1] at e1
  have hv := e1.cells
  obtain ⟨s', k1, k2, k3⟩ := hr.alloc (cells := xv.cells.toList) (cs := (f x).cells) t 0 (by have := hv.length; simp at this ⊢; omega) (by have := hv.length; intro _; simp at this ⊢; omega) (fun i v hi => by
    obtain ⟨v', a1, a2⟩ := hv.get hi
    exact ⟨v', by simpa using a1, a2⟩) (0, 0) (by simp)
  refine ⟨_, .pointer (some ⟨w.heap.size, 0, none⟩), _, s', ?_, .inl rfl, k1, k3, ?_⟩
  · simp only [execOp, hop, Instr.box, Sem.run_bind, Result.andThen_ok, newVar, run_newRow, Sem.run_pure]
  · have := VR.ptr (s := s') (o := 0) k2
    simpa using this

theorem foldl_set_rel {s : Inj} (off : Nat) : ∀ {vs vs' : List Value} (k : Nat) {cs cs' : Array Value}, VRs s vs vs' → VRs s cs.toList cs'.toList →
    VRs s ((vs.zipIdx k).foldl (fun (q : Array Value) (p : Value × Nat) => q.setIfInBounds (off + p.2) p.1) cs).toList ((vs'.zipIdx k).foldl (fun (q : Array Value) (p : Value × Nat) => q.setIfInBounds (off + p.2) p.1) cs').toList
  | [], _, k, cs, cs', .nil, h => by simpa using h
  | v :: vs, _, k, cs, cs', .cons hv hvs, h => by
    simp only [List.zipIdx_cons, List.foldl_cons]
    refine foldl_set_rel off (k + 1) hvs ?_
    simp only [Array.toList_setIfInBounds]
    exact h.set _ hv
inductive PRs (s : Inj) : List (Nat × Value) → List (Nat × Value) → Prop
  | nil : PRs s [] []
  | cons {i : Nat} {v v' : Value} {l l' : List (Nat × Value)} (h : VR s v v') (t : PRs s l l') : PRs s ((i, v) :: l) ((i, v') :: l')
theorem fill_rel {s : Inj} {place : Nat → Option (Nat × Nat)} : ∀ {ps ps' : List (Nat × Value)} {cs cs' r : Array Value}, PRs s ps ps' → VRs s cs.toList cs'.toList →
    Instr.fill place cs ps = some r → ∃ r', Instr.fill place cs' ps' = some r' ∧ VRs s r.toList r'.toList
  | _, _, cs, cs', r, .nil, h, hf => by
    simp only [Instr.fill, Option.some.injEq] at hf ⊢
    subst hf
    exact ⟨cs', rfl, h⟩
  | _, _, cs, cs', r, .cons (i := i) (v := v) (v' := v') hv ht, h, hf => by
    simp only [Instr.fill] at hf ⊢
    have hl := h.length
    have hc := hv.cells
    have hcl := hc.length
    simp only [Array.length_toList] at hl hcl
    split at hf
    · simp at hf
    · rename_i off size hp
      split at hf
      · simp at hf
      · rename_i hcond
        rw [if_neg (by rw [← hcl, ← hl]; exact hcond)]
        refine fill_rel ht ?_ hf
        have := foldl_set_rel (s := s) off 0 hc h
        rw [← Array.foldl_toList, ← Array.foldl_toList, Array.toList_zipIdx, Array.toList_zipIdx]
        exact this
theorem evalps {s : Inj} {f : Operand → Value} {G : Nat} (hf : ∀ x, okOpd G x = true → VR s (ρ.eval x) (f x)) : ∀ (l : List (Nat × Operand)), (l.all fun p => okOpd G p.2) = true →
    PRs s (l.map fun p => (p.1, ρ.eval p.2)) (l.map fun p => (p.1, f p.2))
  | [], _ => .nil
  | y :: l, h => by
    simp only [List.all_cons, Bool.and_eq_true] at h
    exact .cons (hf y.2 h.1) (evalps hf l h.2)
/-- where the fields of a struct lie, and how many cells they have -/
def placesOf (P : Program) (fs : List Field) : List (Nat × Nat) := fs.map fun f => (f.offset, P.cellsOf f.type)
theorem run_places (w : World) : ∀ (fs : List Field), (fs.all fun f => (P.info? f.type).isSome) = true →
    (fs.mapM (fun f => (do pure (f.offset, ← sizeOf f.type) : Sem (Nat × Nat)))).run P w = .ok (placesOf P fs) w
  | [], _ => rfl
  | f :: fs, h => by
    simp only [List.all_cons, Bool.and_eq_true] at h
    obtain ⟨i, hi⟩ := Option.isSome_iff_exists.1 h.1
    have ih := run_places w fs h.2
    simp only [List.mapM_cons, Sem.run_bind, run_sizeOf w hi, Result.andThen_ok, Sem.run_pure, ih, placesOf, List.map_cons]
theorem opv_build {fs : Array Field} {ps : Array (Nat × Operand)} {z : Value} {pl : List (Nat × Nat)} {r : Array Value} (hop : o.op = .build t ps) (hok : (ps.toList.all fun p => okOpd P.globals.size p.2) = true)
    (hz : (P.info? t).bind (·.zero) = some z) (hp : plains z.cells.toList = true) (hu : P.underlying t = some (.struct fs)) (hfs : (fs.toList.all fun f => (P.info? f.type).isSome) = true)
    (hpl : placesOf P fs.toList = pl) (hr : Instr.fill (fun (i : Nat) => pl[i]?) z.cells (ps.toList.map fun p => (p.1, ρ.eval p.2)) = some r) : OpV P o ρ aw (.agg r) aw :=
  opv_pure fun s f w hf => by
    obtain ⟨r', h1, h2⟩ := fill_rel (evalps hf ps.toList hok) (VRs.ofPlains (s := s) hp) hr
    refine ⟨.agg r', ?_, .agg h2⟩
    have hpls := run_places (P := P) w fs.toList hfs
    have hm : (fs.mapM (fun f => (do pure (f.offset, ← sizeOf f.type) : Sem (Nat × Nat)))).run P w = .ok (placesOf P fs.toList).toArray w := by
      rw [Array.mapM_eq_mapM_toList]
      simp only [Sem.run_map, hpls, Result.andThen_ok]
    simp only [execOp, hop, Instr.build, Sem.run_bind, run_zeroValue' hz, run_underlying hu, Result.andThen_ok, hm]
    subst hpl
    have e : (fun (x : Nat) => (placesOf P fs.toList).toArray[x]?) = fun (i : Nat) => (placesOf P fs.toList)[i]? := by funext i; simp
    have e2 : ((Array.map (fun x => match x with | (i, x) => (i, f x)) ps).toList) = ps.toList.map fun p => (p.1, f p.2) := by simp
    rw [e, e2, h1]
    rfl
theorem opv_buildSlice {el : TypeId} {ps : Array (Nat × Operand)} {z : Value} {r : Array Value} {size : Nat} (hop : o.op = .buildSlice t n ps) (hok : (ps.toList.all fun p => okOpd P.globals.size p.2) = true)
    (hu : P.underlying t = some (.slice el)) (hsz : (P.info? el).map (·.size) = some size) (hz : (P.info? el).bind (·.zero) = some z) (hp : plains z.cells.toList = true)
    (hn : n * size ≤ 2 ^ 24) (h0 : 0 < n * size) (hzl : z.cells.size = size)
    (hr : Instr.fill (fun i => some (i * size, size)) ((Array.range (n * size)).map (z.cells[· % size]!)) (ps.toList.map fun p => (p.1, ρ.eval p.2)) = some r) :
    OpV P o ρ aw (.slice (some ⟨aw.next, 0, none⟩) n n) (aw.alloc r.toList el size) := by
  intro base w0 s f w hrel hf
  have hzr : VRs s ((Array.range (n * size)).map (z.cells[· % size]!)).toList ((Array.range (n * size)).map (z.cells[· % size]!)).toList := by
    refine VRs.of_get rfl fun i a b ha hb => ?_
    rw [ha] at hb; obtain rfl := Option.some.inj hb
    have hsp : 0 < size := by
      rcases Nat.eq_zero_or_pos size with h | h
      · simp [h] at h0
      · exact h
    simp only [Array.toList_map, List.getElem?_map, Array.toList_range] at ha
    cases hq : (List.range (n * size))[i]? with
    | none => simp [hq] at ha
    | some q =>
      simp only [hq, Option.map_some, Option.some.injEq] at ha
      have hlt : q % size < z.cells.size := by rw [hzl]; exact Nat.mod_lt _ hsp
      have hz' : z.cells.toList[q % size]? = some a := by
        rw [← ha]
        simp [hlt]
      exact ((VRs.ofPlains (s := s) hp).get hz').elim fun a' ⟨e1, e2⟩ => by
        rw [hz'] at e1; obtain rfl := Option.some.inj e1; exact e2
  obtain ⟨r', h1, h2⟩ := fill_rel (evalps hf ps.toList hok) hzr hr
  obtain ⟨s', k1, k2, k3⟩ := hrel.alloc (cells := r.toList) (cs := r') el size (by have := h2.length; simp at this ⊢; omega) (by have := h2.length; intro _; simp at this ⊢; omega) (fun i v hi => by
    obtain ⟨v', a1, a2⟩ := h2.get hi
    exact ⟨v', by simpa using a1, a2⟩) (0, 0) (by simp)
  refine ⟨_, .slice (some ⟨w.heap.size, 0, none⟩) n n, _, s', ?_, .inl rfl, k1, k3, ?_⟩
  · have e2 : ((Array.map (fun x => match x with | (i, x) => (i, f x)) ps).toList) = ps.toList.map fun p => (p.1, f p.2) := by simp
    simp only [execOp, hop, Instr.buildSlice, Sem.run_bind, run_underlying hu, run_sizeOf' hsz, Result.andThen_ok]
    rw [if_neg (by omega), if_neg (by omega)]
    simp only [Sem.run_pure, Result.andThen_ok, Sem.run_bind, run_zeroValue' hz, hzl, e2, h1, run_newRow]
  · refine .slice (Nat.le_refl _) (fun _ => rfl) fun _ => ⟨_, k2, by simp, fun h => ?_⟩
    exfalso
    have : n ≤ 2 ^ 24 := Nat.le_trans (Nat.le_mul_of_pos_right n (by rcases Nat.eq_zero_or_pos size with h | h; · simp [h] at h0
                                                                     · exact h)) hn
    unfold UNK at h; omega
end
end Go.Am
