/- Append, copy, make; bytes and texts. -/
import Derived.Test.YtfoceofohlpafaaDoorAm5
set_option linter.unusedSimpArgs false
set_option linter.unusedVariables false
set_option linter.unusedSectionVars false
namespace Go.Am
open Go Go.RowKit
variable [SymE]

/-- What is appended, or copied: its length, its cells. -/
inductive Src (aw : AW) (size : Nat) : Value → Nat → List Value → Prop
  | slice {b i n c : Nat} {cs : List Value} (h : aw.getN b i (n * size) = some cs) : Src aw size (.slice (some ⟨b, i, none⟩) n c) n cs
  | nil : Src aw size (.slice none 0 0) 0 []
  | str (a : ByteArray) (h : size = 1) : Src aw size (.string a) a.size (a.data.toList.map fun b => .int .u8 b.toNat)
theorem Src.length {aw : AW} {size n : Nat} {v : Value} {cs : List Value} (h : Src aw size v n cs) : cs.length = n * size := by
  cases h with
  | slice h => exact AW.getN_length h
  | nil => simp
  | str a h => subst h; simp only [List.length_map, Array.length_toList, Nat.mul_one]; rfl
theorem plains_bytes (l : List UInt8) : plains (l.map fun b => Value.int .u8 b.toNat) = true := by
  induction l with
  | nil => rfl
  | cons a l ih => exact ih

section
variable {G base : Nat} {w0 : World} {s : Inj} {aw : AW} {w : World} {P : Program}
theorem Src.run (h : Rel G base w0 s aw w) {size n : Nat} {v v' : Value} {cs : List Value} (hs : Src aw size v n cs) (hv : VR s v v') :
    (Builtin.lenOf v').run P w = .ok n w ∧ ∃ cs', VRs s cs cs' ∧ (Builtin.firstCells size n v').run P w = .ok cs'.toArray w := by
  cases hs with
  | @slice b i n c cs hg =>
    obtain ⟨a', c', rfl, q2, q3, q4⟩ := hv.slice_inv
    refine ⟨rfl, ?_⟩
    rcases Nat.eq_zero_or_pos n with h0 | h0
    · subst h0
      simp [AW.getN] at hg; subst hg
      refine ⟨[], .nil, ?_⟩
      simp [Builtin.firstCells, loadCells, loadCellsFrom]
    · obtain ⟨e, q5, q6, _⟩ := q4 (by omega)
      obtain ⟨cs', k1, k2⟩ := h.cellsN q5 hg
      refine ⟨cs', k1, ?_⟩
      subst q6
      exact run_loadN P (by rw [← k1.length]; exact AW.getN_length hg) k2
  | nil =>
    obtain ⟨_, _, rfl⟩ := hv.nilslice_inv
    exact ⟨rfl, [], .nil, rfl⟩
  | str a hz =>
    rw [hv.string_inv]
    refine ⟨rfl, _, VRs.ofPlains (plains_bytes _), ?_⟩
    have he : a.extract 0 a.size = a := by simp
    simp only [Builtin.firstCells, he, Sem.run_pure]
    congr 1
    apply Array.toList_inj.1
    simp
end

theorem growBy_le (n : Nat) : ∀ (r c : Nat), c ≤ n + (n + 768) / 4 → Builtin.growBy n r c ≤ n + (n + 768) / 4
  | 0, c, h => h
  | r + 1, c, h => by
    simp only [Builtin.growBy]
    split
    · exact h
    · exact growBy_le n r _ (by omega)
theorem nextcap_le (need cap : Nat) (h : cap < need) : Builtin.nextslicecap need cap ≤ 2 * need + 768 := by
  unfold Builtin.nextslicecap
  split
  · omega
  · split
    · omega
    · have := growBy_le need 4 cap (by omega)
      omega
theorem zeroCells_size (z : Array Value) (n : Nat) : (Builtin.zeroCells z n).size = n * z.size := by simp [Builtin.zeroCells]

section
variable {P : Program} {ρ : Env} {aw aw' : AW} {o : Oper} {v xv sv : Value} {x y : Operand} {t el sT xT : TypeId} {d dx : TypeDesc} {b i n l c size bytes : Nat} {cs os : List Value} {z : Value} {at' : Array TypeId}
def notInt (d : TypeDesc) : Bool := match d with | .slice _ | .string => true | _ => false
theorem notInt_or {d : TypeDesc} (h : notInt d = true) : (∃ e, d = .slice e) ∨ d = .string := by
  cases d <;> simp_all [notInt]

/-- how append begins -/
theorem run_append_fits (hat : at' = #[sT, xT]) (hu : P.underlying sT = some (.slice el)) (hsz : (P.info? el).map (·.size) = some size) (hxu : P.underlying xT = some dx) (hni : notInt dx = true)
    {w w' : World} {a : Option Addr} {c' : Nat} {xv' : Value} {cs' : List Value} (hl : (Builtin.lenOf xv').run P w = .ok n w) (hf : (Builtin.firstCells size n xv').run P w = .ok cs'.toArray w)
    (hfit : l + n ≤ c') (hst : (match a with | some a => storeCells (a.add (l * size)) cs' | none => pure () : Sem Unit).run P w = .ok () w') (ty : TypeId) :
    (Builtin.append_ at' ty #[.slice a l c', xv']).run P w = .ok (.slice a (l + n) c') w' := by
  subst hat
  rcases notInt_or hni with ⟨e2, rfl⟩ | rfl
  all_goals
  simp only [Builtin.append_, List.getElem?_toArray, List.getElem?_cons_zero, List.getElem?_cons_succ, Sem.run_bind, run_underlying hu, Result.andThen_ok, run_sizeOf' hsz, run_underlying hxu, Sem.run_pure,
    Bool.false_eq_true, if_false, hl, hfit, if_true, Bool.not_false, hf]
  cases a with
  | none => simp only [Sem.run_pure, Result.ok.injEq] at hst; simp [hst.2]
  | some a => simp only [Sem.run_bind]; simp only at hst; rw [hst]; rfl
theorem run_append_grows (hat : at' = #[sT, xT]) (hu : P.underlying sT = some (.slice el)) (hsz : (P.info? el).map (·.size) = some size) (hby : (P.info? el).map (·.bytes) = some bytes) (hxu : P.underlying xT = some dx) (hni : notInt dx = true)
    (hz0 : (P.info? el).bind (·.zero) = some z) (hb0 : 0 < bytes)
    {w : World} {a : Option Addr} {c' : Nat} {xv' : Value} {cs' os' : List Value} (hl : (Builtin.lenOf xv').run P w = .ok n w) (hf : ∀ w, (∃ w1 : World, w = w1.drew ∨ w = w1) → True)
    (hfx : (Builtin.firstCells size n xv').run P w.drew = .ok cs'.toArray w.drew) (hfs : (Builtin.firstCells size l (.slice a l c')).run P w.drew = .ok os'.toArray w.drew)
    (hfit : c' < l + n) (hb : (2 * (l + n) + 768) * bytes ≤ 2 ^ 48) (ty : TypeId) :
    ∃ N, l + n ≤ N ∧ (Builtin.append_ at' ty #[.slice a l c', xv']).run P w =
      .ok (.slice (some ⟨w.heap.size, 0, none⟩) (l + n) N) (w.drew.alloc (.cells (os'.toArray ++ cs'.toArray ++ Builtin.zeroCells z.cells (N - (l + n))) el)) := by
  subst hat
  obtain ⟨inf, hinf⟩ : ∃ inf, P.info? el = some inf := by
    cases h : P.info? el with
    | none => simp [h] at hsz
    | some q => exact ⟨q, rfl⟩
  have hbb : inf.bytes = bytes := by simpa [hinf] using hby
  have hcap := nextcap_le (l + n) c' hfit
  have hcap2 : Builtin.nextslicecap (l + n) c' * bytes ≤ 2 ^ 48 := Nat.le_trans (Nat.mul_le_mul_right _ hcap) hb
  refine ⟨(Question.appendCap (l + n) c' el).cut (w.tape w.drawn (.appendCap (l + n) c' el)), ?_, ?_⟩
  · simp only [Question.cut]; omega
  · rcases notInt_or hni with ⟨e2, rfl⟩ | rfl
    all_goals
    simp only [Builtin.append_, List.getElem?_toArray, List.getElem?_cons_zero, List.getElem?_cons_succ, Sem.run_bind, run_underlying hu, Result.andThen_ok, run_sizeOf' hsz, run_underlying hxu, Sem.run_pure,
      Bool.false_eq_true, if_false, hl, Bool.not_false, if_true]
    rw [if_neg (by omega)]
    simp only [Sem.run_bind, run_typeInfo w hinf, Result.andThen_ok, hbb]
    rw [if_neg (by rintro ⟨_, h | h⟩; · exact h
                   · omega)]
    simp only [Sem.run_bind, run_typeInfo w hinf, Result.andThen_ok, hbb]
    rw [if_neg (by omega)]
    simp only [Sem.run_bind, run_choose, Question.forced, Bool.false_eq_true, if_false, Result.andThen_ok, World.drew_eq, run_typeInfo _ hinf, run_askRoom, hfs, hfx, run_zeroValue' hz0, run_newRow, Sem.run_pure, World.size_drew]

theorem VR.sliceAny {s : Inj} {q : Option Addr} {v' : Value} (h : VR s (.slice q l c) v') : ∃ a c', v' = .slice a l c' ∧ l ≤ c' ∧ (c < UNK → c' = c) := by
  cases h with
  | nilslice => exact ⟨_, _, rfl, Nat.le_refl _, fun _ => rfl⟩
  | slice h1 h2 h3 => exact ⟨_, _, rfl, h1, h2⟩

/-- nothing is appended -/
theorem opv_append0 {q : Option Addr} (hop : o.op = .call { callee := .builtin .append, args := #[x, y], argTypes := at' }) (hat : at' = #[sT, xT]) (hx : okOpd P.globals.size x = true) (hy : okOpd P.globals.size y = true)
    (hu : P.underlying sT = some (.slice el)) (hsz : (P.info? el).map (·.size) = some size) (hxu : P.underlying xT = some dx) (hni : notInt dx = true)
    (h1 : ρ.eval x = .slice q l c) (h2 : ρ.eval y = xv) (hs : Src aw size xv 0 cs) : OpV P o ρ aw (.slice q l c) aw := by
  intro base w0 s f w hr hf
  have e1 := hf x hx; rw [h1] at e1
  have e2 := hf y hy; rw [h2] at e2
  obtain ⟨a, c', q1, q2, q3⟩ := e1.sliceAny
  obtain ⟨r1, cs', r2, r3⟩ := hs.run (P := P) hr e2
  have hcs : cs' = [] := by
    have := hs.length
    rw [Nat.zero_mul] at this
    have h' := r2.length
    rw [this] at h'
    exact List.eq_nil_of_length_eq_zero h'.symm
  subst hcs
  have := run_append_fits (P := P) (a := a) (c' := c') (l := l) hat hu hsz hxu hni r1 r3 (by omega) (w' := w) (by cases a <;> simp [storeCells]) o.type
  refine ⟨_, .slice a l c', w, s, ?_, .inl rfl, Inj.le_refl s, hr, q1 ▸ e1⟩
  simp only [execOp, hop, resolve, Sem.run_bind, Sem.run_pure, Result.andThen_ok, invoke, builtin, List.map_toArray, List.map_cons, List.map_nil, q1]
  rw [this]; rfl

/-- appended where the capacity is known and there is room -/
theorem opv_appendX (hop : o.op = .call { callee := .builtin .append, args := #[x, y], argTypes := at' }) (hat : at' = #[sT, xT]) (hx : okOpd P.globals.size x = true) (hy : okOpd P.globals.size y = true)
    (hu : P.underlying sT = some (.slice el)) (hsz : (P.info? el).map (·.size) = some size) (hxu : P.underlying xT = some dx) (hni : notInt dx = true)
    (h1 : ρ.eval x = .slice (some ⟨b, i, none⟩) l c) (h2 : ρ.eval y = xv) (hs : Src aw size xv n cs) (hc : c < UNK) (hfit : l + n ≤ c) (h0 : 0 < n) (ho : cs.all one = true) (hw : aw.wr b (i + l * size) cs.length) :
    OpV P o ρ aw (.slice (some ⟨b, i, none⟩) (l + n) c) (aw.setN b (i + l * size) cs) := by
  intro base w0 s f w hr hf
  have e1 := hf x hx; rw [h1] at e1
  have e2 := hf y hy; rw [h2] at e2
  obtain ⟨a', c', q1, q2, q3, q4⟩ := e1.slice_inv
  have hcc := q3 hc
  subst hcc
  obtain ⟨e, q5, q6, q7⟩ := q4 (by omega)
  subst q6
  obtain ⟨r1, cs', r2, r3⟩ := hs.run (P := P) hr e2
  obtain ⟨w', k1, k2⟩ := Rel.setN P (i := i + l * size) (k := 0) hr q5 (by simpa using hw) r2 ho
  have := run_append_fits (P := P) (a := some ⟨e.cb, e.off + i, none⟩) (c' := c') (l := l) hat hu hsz hxu hni r1 r3 hfit (w' := w') (by simp only [Addr.add_lit]; rw [show e.off + i + l * size = e.off + (i + l * size) by omega]; exact k1) o.type
  refine ⟨_, .slice (some ⟨e.cb, e.off + i, none⟩) (l + n) c', w', s, ?_, .inl rfl, Inj.le_refl s, by simpa using k2, .slice hfit (fun _ => rfl) fun _ => ⟨e, q5, rfl, fun h => by omega⟩⟩
  simp only [execOp, hop, resolve, Sem.run_bind, Sem.run_pure, Result.andThen_ok, invoke, builtin, List.map_toArray, List.map_cons, List.map_nil, q1]
  rw [this]; rfl

theorem alloc_append {G base : Nat} {w0 : World} {s : Inj} {w : World} (hr : Rel G base w0 s aw w) {os' cs' : List Value} (ho : VRs s os os') (hc : VRs s cs cs') (el esz : Nat) (hesz : 0 < esz) (rest : Array Value) :
    ∃ s', s.le s' ∧ s' aw.next = some ⟨w.heap.size, 0, (os'.toArray ++ cs'.toArray ++ rest).size, esz⟩ ∧
      Rel G base w0 s' (aw.alloc (os ++ cs) el esz) (w.alloc (.cells (os'.toArray ++ cs'.toArray ++ rest) el)) := by
  have hv := ho.append hc
  have hlen := hv.length
  refine hr.alloc el esz ?_ (by omega) ?_ (0, 0) (by simp)
  · simp at hlen ⊢; omega
  · intro j u hj
    obtain ⟨u', a1, a2⟩ := hv.get hj
    refine ⟨u', ?_, a2⟩
    have hlt := (List.getElem?_eq_some_iff.1 a1).1
    rw [Array.getElem?_append_left (by simpa using hlt)]
    simpa using a1

/-- appended where there is no room for certain -/
theorem opv_appendG (hop : o.op = .call { callee := .builtin .append, args := #[x, y], argTypes := at' }) (hat : at' = #[sT, xT]) (hx : okOpd P.globals.size x = true) (hy : okOpd P.globals.size y = true)
    (hu : P.underlying sT = some (.slice el)) (hsz : (P.info? el).map (·.size) = some size) (hby : (P.info? el).map (·.bytes) = some bytes) (hxu : P.underlying xT = some dx) (hni : notInt dx = true)
    (hz0 : (P.info? el).bind (·.zero) = some z) (hzs : z.cells.size = size) (hb0 : 0 < bytes)
    (h1 : ρ.eval x = sv) (h2 : ρ.eval y = xv) (hos : Src aw size sv l os) (hsl : ∃ q, sv = .slice q l c) (hs : Src aw size xv n cs) (hc : c < UNK) (hfit : c < l + n) (hsz0 : 0 < size)
    (hb : (2 * (l + n) + 768) * bytes ≤ 2 ^ 48) : OpV P o ρ aw (.slice (some ⟨aw.next, 0, none⟩) (l + n) UNK) (aw.alloc (os ++ cs) el size) := by
  intro base w0 s f w hr hf
  obtain ⟨q, rfl⟩ := hsl
  have e1 := hf x hx; rw [h1] at e1
  have e2 := hf y hy; rw [h2] at e2
  obtain ⟨a, c', q1, q2, q3⟩ := e1.sliceAny
  have hcc := q3 hc
  subst hcc
  obtain ⟨r1, _⟩ := hs.run (P := P) hr e2
  obtain ⟨_, cs', r2, r3⟩ := hs.run (P := P) hr.drew e2
  obtain ⟨_, os', t2, t3⟩ := hos.run (P := P) hr.drew (q1 ▸ e1)
  obtain ⟨N, hN, hrun⟩ := run_append_grows (P := P) (a := a) (c' := c') (l := l) hat hu hsz hby hxu hni hz0 hb0 r1 (fun _ _ => trivial) r3 t3 hfit hb o.type
  obtain ⟨s', k1, k2, k3⟩ := alloc_append hr.drew t2 r2 el size hsz0 (Builtin.zeroCells z.cells (N - (l + n)))
  refine ⟨_, .slice (some ⟨w.heap.size, 0, none⟩) (l + n) N, _, s', ?_, .inl rfl, k1, k3, .slice hN (fun h => absurd h (by omega)) fun _ => ⟨_, k2, rfl, fun _ => ?_⟩⟩
  · simp only [execOp, hop, resolve, Sem.run_bind, Sem.run_pure, Result.andThen_ok, invoke, builtin, List.map_toArray, List.map_cons, List.map_nil, q1]
    rw [hrun]; rfl
  · have l1 := t2.length; have l2 := r2.length
    rw [hos.length] at l1; rw [hs.length] at l2
    simp only [Array.size_append, List.size_toArray, zeroCells_size, hzs, ← l1, ← l2, Nat.zero_add]
    rw [← Nat.add_mul, ← Nat.add_mul]
    exact Nat.le_of_eq (by congr 1; omega)

def Inj.put (s : Inj) (n : Nat) (e : Ent) : Inj := fun q => if q = n then some e else s q
theorem Inj.put_same (s : Inj) (n : Nat) (e : Ent) : s.put n e n = some e := by simp [Inj.put]
theorem Inj.put_ne {s : Inj} {n q : Nat} (e : Ent) (h : ¬ q = n) : s.put n e q = s q := by simp [Inj.put, h]
/-- appended in place: the abstract block is another one from now on -/
theorem Rel.move (P : Program) {G base : Nat} {w0 : World} {s : Inj} {w : World} (hr : Rel G base w0 s aw w) {B : Blk} {e : Ent} (hB : aw.m b = some B) (hrw : B.rw = true) (hfz : B.fz = 0) (he : s b = some e)
    {os cs cs' : List Value} (hos : aw.getN b i os.length = some os) (hcs : VRs s cs cs') (ho : cs.all one = true) (hroom : e.off + i + os.length + cs.length ≤ e.csize) (hi : i = 0) (hesz : 0 < e.esz) :
    ∃ w' s', (storeCells ⟨e.cb, e.off + i + os.length, none⟩ cs').run P w = .ok () w' ∧ s.le s' ∧ s' aw.next = some ⟨e.cb, e.off + i, e.csize, e.esz⟩ ∧
      Rel G base w0 s' ((aw.kill b).alloc (os ++ cs) B.elem e.esz) w' := by
  obtain ⟨e', C, fz, h1, h2, h3, h4, h5, h6, h7⟩ := hr.blk b B hB
  rw [he] at h1; obtain rfl := Option.some.inj h1
  obtain ⟨h8, h9⟩ := h7 hrw
  -- first the block, seen from i on, as long as what stands there and what comes
  obtain ⟨os', k1, k2⟩ := hr.cellsN he hos
  have hlo := k1.length
  let mid : List Value := (List.range cs.length).map fun j => (C.getD (e.off + i + os.length + j) undef)
  obtain ⟨σ', hσ⟩ : ∃ σ' : Inj, σ' = s.put aw.next ⟨e.cb, e.off + i, e.csize, e.esz⟩ := ⟨_, rfl⟩
  have hσ1 : σ' aw.next = some ⟨e.cb, e.off + i, e.csize, e.esz⟩ := by rw [hσ, Inj.put_same]
  have hσ2 : ∀ {q : Nat}, ¬ q = aw.next → σ' q = s q := fun h => by rw [hσ, Inj.put_ne _ h]
  have hle : s.le σ' := by
    intro q x hq
    have : q ≠ aw.next := by rintro rfl; rw [hr.fresh _ (Nat.le_refl _)] at hq; simp at hq
    rw [hσ2 this]; exact hq
  have hbn : b ≠ aw.next := by rintro rfl; rw [hr.mfresh _ (Nat.le_refl _)] at hB; simp at hB
  -- the world after the stores
  have hstore : ∀ (vs : List Value) (k : Nat) (w : World) (C : Array Value), w.heap[e.cb]? = some (.cells C B.elem fz) → C.size = e.csize → k + vs.length ≤ os.length + cs.length → os.length ≤ k → (vs.all one = true) →
      ∃ w', (storeCells ⟨e.cb, e.off + i, none⟩ vs k).run P w = .ok () w' ∧ (∀ j, j ≠ e.cb → w'.heap[j]? = w.heap[j]?) ∧ w'.heap.size = w.heap.size ∧ w'.os = w.os ∧ w'.tape = w.tape ∧ w'.output = w.output ∧
        ∃ C', w'.heap[e.cb]? = some (.cells C' B.elem fz) ∧ C'.size = e.csize ∧ (∀ j, j < e.off + i + k → C'[j]? = C[j]?) ∧ ∀ j u, vs[j]? = some u → C'[e.off + i + k + j]? = some u := by
    intro vs
    induction vs with
    | nil =>
      intro k w C hC hs _ _ _
      exact ⟨w, by simp [storeCells], fun _ _ => rfl, rfl, rfl, rfl, rfl, C, hC, hs, fun _ _ => rfl, fun j u hj => by simp at hj⟩
    | cons u vs ih =>
      intro k w C hC hs hk hlk hone
      simp only [List.length_cons] at hk
      simp only [List.all_cons, Bool.and_eq_true] at hone
      have hlt : e.off + i + k < C.size := by omega
      have hfr : w.frozen? ⟨e.cb, e.off + i + k, none⟩ = false := by
        simp only [World.frozen?, hC]
        have := h9 (e.off + i + k) (by omega) (by omega)
        simp only [Bool.and_eq_false_iff, decide_eq_false_iff_not]
        by_cases hx : fz.1 ≤ e.off + i + k
        · exact .inr (fun hy => this ⟨hx, hy⟩)
        · exact .inl hx
      have hcell : w.cell? ⟨e.cb, e.off + i + k, none⟩ = some C[e.off + i + k] := by simp [World.cell?, hC, hlt]
      have hC2 : (w.setCell ⟨e.cb, e.off + i + k, none⟩ u).heap[e.cb]? = some (.cells (C.setIfInBounds (e.off + i + k) u) B.elem fz) := by
        simp [World.setCell, Array.getElem?_modify, hC]
      obtain ⟨w', g1, g2, g3, g4, g5, g6, C', g7, g8, g9, g10⟩ := ih (k + 1) (w.setCell ⟨e.cb, e.off + i + k, none⟩ u) _ hC2 (by simpa using hs) (by omega) (by omega) hone.2
      refine ⟨w', ?_, ?_, ?_, ?_, ?_, ?_, C', g7, g8, ?_, ?_⟩
      · simp only [storeCells, Sem.run_bind]
        rw [run_store _ _ _ _ _ hone.1, Addr.add_lit, hcell]
        simp only [hfr, Bool.false_eq_true, if_false, Result.andThen_ok]
        exact g1
      · intro j hj
        rw [g2 j hj]
        exact Below.heap_setCell _ _ _ _ hj
      · rw [g3]; simp
      · rw [g4]; rfl
      · rw [g5]; rfl
      · rw [g6]; rfl
      · intro j hj
        rw [g9 j (by omega), Array.getElem?_setIfInBounds_ne (by omega)]
      · intro j x hj
        cases j with
        | zero =>
          simp at hj; subst hj
          rw [g9 _ (by omega)]
          simp [hlt]
        | succ j =>
          simp at hj
          have := g10 j x hj
          rw [show e.off + i + (k + 1) + j = e.off + i + k + (j + 1) by omega] at this
          exact this
  have hone' : cs'.all one = true := by
    have : ∀ {a b : List Value}, VRs s a b → a.all one = true → b.all one = true := by
      intro a b hab
      induction a generalizing b with
      | nil => cases hab; simp
      | cons x xs ih =>
        cases hab with | cons hx hxs =>
        simp only [List.all_cons, Bool.and_eq_true]
        exact fun h => ⟨by rw [one, hx.one]; exact h.1, ih hxs h.2⟩
    exact this hcs ho
  have hlc := hcs.length
  obtain ⟨w', g1, g2, g3, g4, g5, g6, C', g7, g8, g9, g10⟩ := hstore cs' os.length w C h3 h4 (by omega) (Nat.le_refl _) hone'
  refine ⟨w', σ', ?_, hle, hσ1, ?_⟩
  · have shift : ∀ (vs : List Value) (k m : Nat), storeCells ⟨e.cb, e.off + i + m, none⟩ vs k = storeCells ⟨e.cb, e.off + i, none⟩ vs (k + m) := by
      intro vs
      induction vs with
      | nil => intro k m; rfl
      | cons u vs ih =>
        intro k m
        simp only [storeCells, Addr.add_lit]
        rw [show e.off + i + m + k = e.off + i + (k + m) by omega]
        congr 1; funext _
        rw [ih (k + 1) m, show k + 1 + m = k + m + 1 by omega]
    have := shift cs' 0 os.length
    rw [this, Nat.zero_add]
    exact g1
  refine ⟨?_, ?_, ?_, ?_, ?_, ?_, ?_⟩
  · intro q hq
    have hq' : aw.next + 1 ≤ q := hq
    have : q ≠ aw.next := by omega
    rw [hσ2 this]
    exact hr.fresh q (by omega)
  · intro q hq
    have hq' : aw.next + 1 ≤ q := hq
    simp only [AW.alloc, AW.kill]
    have hqn : ¬ q = aw.next := by omega
    simp only [hqn, if_false]
    split
    · rfl
    · exact hr.mfresh q (by omega)
  · intro q Q hq
    simp only [AW.alloc, AW.kill] at hq
    by_cases hqn : q = aw.next
    · subst hqn
      simp only [if_true, Option.some.injEq] at hq
      subst hq
      refine ⟨⟨e.cb, e.off + i, e.csize, e.esz⟩, C', fz, hσ1, ⟨rfl, fun _ => by have := h2.2.1 hrw; simp only; omega, fun h => absurd h (by simp only; omega)⟩, g7, g8, by simp; omega, ?_, ?_⟩
      · intro j u hj
        simp only at hj
        by_cases hjl : j < os.length
        · rw [List.getElem?_append_left hjl] at hj
          obtain ⟨u', a1, a2⟩ := k1.get hj
          refine ⟨u', ?_, a2.mono hle⟩
          have := k2 j u' a1
          simp only [World.cell?, h3] at this
          simp only
          rw [g9 _ (by omega)]
          simpa using this
        · rw [List.getElem?_append_right (by omega)] at hj
          obtain ⟨u', a1, a2⟩ := hcs.get hj
          refine ⟨u', ?_, a2.mono hle⟩
          have := g10 (j - os.length) u' a1
          simp only
          rw [show e.off + i + j = e.off + i + os.length + (j - os.length) by omega]
          exact this
      · intro _
        exact ⟨h8, fun j h1 h2 => h9 j (by simp only at h1; omega) h2⟩
    · simp only [hqn, if_false] at hq
      split at hq
      · simp at hq
      · rename_i hqb
        obtain ⟨e2, C2, fz2, m1, m2, m3, m4, m5, m6, m7⟩ := hr.blk q Q hq
        have hne : e.cb ≠ e2.cb := hr.sep b q B Q e e2 (fun x => hqb x.symm) hB hq he m1 hrw
        exact ⟨e2, C2, fz2, by rw [hσ2 hqn]; exact m1, m2, by rw [g2 _ (fun x => hne x.symm)]; exact m3, m4, m5, fun j u hj => let ⟨u', a1, a2⟩ := m6 j u hj; ⟨u', a1, a2.mono hle⟩, m7⟩
  · intro b1 b2 B1 B2 e1 e2 hne hb1 hb2 he1 he2 hrw1
    simp only [AW.alloc, AW.kill] at hb1 hb2
    by_cases n1 : b1 = aw.next
    · subst n1
      have n2 : ¬ b2 = aw.next := fun x => hne x.symm
      simp only [n2, if_false] at hb2
      split at hb2
      · simp at hb2
      · rename_i n3
        rw [hσ1] at he1; rw [hσ2 n2] at he2
        obtain rfl := Option.some.inj he1
        exact hr.sep b b2 B B2 e e2 (fun x => n3 x.symm) hB hb2 he he2 hrw
    · simp only [n1, if_false] at hb1
      split at hb1
      · simp at hb1
      · rename_i n3
        rw [hσ2 n1] at he1
        by_cases n2 : b2 = aw.next
        · subst n2
          rw [hσ1] at he2
          obtain rfl := Option.some.inj he2
          exact hr.sep b1 b B1 B e1 e n3 hb1 hB he1 he hrw1
        · simp only [n2, if_false] at hb2
          split at hb2
          · simp at hb2
          · rw [hσ2 n2] at he2
            exact hr.sep b1 b2 B1 B2 e1 e2 hne hb1 hb2 he1 he2 hrw1
  · rw [g3]; exact hr.hbase
  · intro g hg
    obtain ⟨x, a1, a2, a3⟩ := hr.glob g hg
    exact ⟨x, hle _ _ a1, a2, a3⟩
  · exact hr.below.trans ⟨g4, g5, g6, by rw [g3]; exact Nat.le_refl _, fun j hj => g2 j (by omega)⟩
end
end Go.Am
