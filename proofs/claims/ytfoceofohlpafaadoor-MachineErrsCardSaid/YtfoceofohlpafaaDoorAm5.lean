/- Operations, one by one: slices, calls. -/
import Derived.Test.YtfoceofohlpafaaDoorAm4
set_option linter.unusedSimpArgs false
set_option linter.unusedVariables false
set_option linter.unusedSectionVars false
namespace Go.Am
open Go Go.RowKit
variable [SymE]

theorem VR.slice_inv {s : Inj} {b i l c : Nat} {v : Value} (h : VR s (.slice (some ⟨b, i, none⟩) l c) v) : ∃ a' c', v = .slice (some a') l c' ∧ l ≤ c' ∧ (c < UNK → c' = c) ∧
    (0 < c' → ∃ e, s b = some e ∧ a' = ⟨e.cb, e.off + i, none⟩ ∧ (UNK ≤ c → e.off + i + c' * e.esz ≤ e.csize)) := by
  cases h with | slice h1 h2 h3 => exact ⟨_, _, rfl, h1, h2, h3⟩
theorem VR.nilslice_inv {s : Inj} {l c : Nat} {v : Value} (h : VR s (.slice none l c) v) : l = 0 ∧ c = 0 ∧ v = .slice none 0 0 := by
  cases h with | nilslice => exact ⟨rfl, rfl, rfl⟩

section
variable {P : Program} {ρ : Env} {aw aw' : AW} {o : Oper} {v : Value} {x y : Operand} {t : TypeId} {d : TypeDesc} {b i n : Nat}

theorem run_asIntOf (k : IntKind) (n : Int) (w : World) : (asIntOf (.int k n)).run P w = .ok (k, n) w := rfl

theorem opv_indexAddr {el : TypeId} {k : IntKind} {j : Int} {l c size : Nat} (hop : o.op = .indexAddr t x y) (hx : okOpd P.globals.size x = true) (hy : okOpd P.globals.size y = true)
    (hu : P.underlying t = some (.slice el)) (hsz : (P.info? el).map (·.size) = some size) (h1 : ρ.eval x = .slice (some ⟨b, i, none⟩) l c) (h2 : ρ.eval y = .int k j) (h0 : 0 ≤ j) (hj : j < l) :
    OpV P o ρ aw (.pointer (some ⟨b, i + j.toNat * size, none⟩)) aw :=
  opv_pure fun s f w hf => by
    have e1 := hf x hx; rw [h1] at e1
    have e2 := hf y hy; rw [h2] at e2
    obtain ⟨a', c', q1, q2, q3, q4⟩ := e1.slice_inv
    have hc' : 0 < c' := by omega
    obtain ⟨e, q5, q6, q7⟩ := q4 hc'
    refine ⟨.pointer (some ⟨e.cb, e.off + (i + j.toNat * size), none⟩), ?_, .ptr q5⟩
    simp only [execOp, hop, Instr.indexAt, VR.int_inv e2, q1, Sem.run_bind, run_asIntOf, Result.andThen_ok, run_underlying hu, Sem.run_pure, q6]
    rw [if_pos ⟨h0, hj⟩]
    simp only [Sem.run_bind, run_sizeOf' hsz, Result.andThen_ok, Sem.run_pure, Addr.add_lit, Nat.add_assoc]
theorem opv_indexAddrA {el : TypeId} {k : IntKind} {j : Int} {l size : Nat} (hop : o.op = .indexAddr t x y) (hx : okOpd P.globals.size x = true) (hy : okOpd P.globals.size y = true)
    (hu : P.underlying t = some (.array l el)) (hsz : (P.info? el).map (·.size) = some size) (h1 : ρ.eval x = .pointer (some ⟨b, i, none⟩)) (h2 : ρ.eval y = .int k j) (h0 : 0 ≤ j) (hj : j < l) :
    OpV P o ρ aw (.pointer (some ⟨b, i + j.toNat * size, none⟩)) aw :=
  opv_pure fun s f w hf => by
    have e1 := hf x hx; rw [h1] at e1
    have e2 := hf y hy; rw [h2] at e2
    obtain ⟨e, q5, q6⟩ := e1.ptr_inv
    refine ⟨.pointer (some ⟨e.cb, e.off + (i + j.toNat * size), none⟩), ?_, .ptr q5⟩
    simp only [execOp, hop, Instr.indexAt, VR.int_inv e2, q6, Sem.run_bind, run_asIntOf, Result.andThen_ok, run_underlying hu, Sem.run_pure, Instr.sureAddr]
    rw [if_pos ⟨h0, hj⟩]
    simp only [Sem.run_bind, run_sizeOf' hsz, Result.andThen_ok, Sem.run_pure, Addr.add_lit, Nat.add_assoc]
theorem opv_fieldAddr {fs : Array Field} {fd : Field} {size : Nat} (hop : o.op = .fieldAddr t x n) (hx : okOpd P.globals.size x = true)
    (hu : P.underlying t = some (.struct fs)) (hf' : fs[n]? = some fd) (hsz : (P.info? fd.type).map (·.size) = some size) (h0 : 0 < size) (h1 : ρ.eval x = .pointer (some ⟨b, i, none⟩)) :
    OpV P o ρ aw (.pointer (some ⟨b, i + fd.offset, none⟩)) aw :=
  opv_pure fun s f w hf => by
    have e1 := hf x hx; rw [h1] at e1
    obtain ⟨e, q5, q6⟩ := e1.ptr_inv
    refine ⟨.pointer (some ⟨e.cb, e.off + (i + fd.offset), none⟩), ?_, .ptr q5⟩
    simp only [execOp, hop, Instr.fieldAt, q6, Sem.run_bind, Result.andThen_ok, run_underlying hu, Sem.run_pure, Instr.sureAddr, hf', fieldPlace, run_sizeOf' hsz]
    rw [if_neg (by omega)]
    simp only [Sem.run_bind, Result.andThen_ok, Sem.run_pure, Addr.add_lit, Nat.add_assoc]
theorem opv_indexS {k : IntKind} {j : Int} {a : ByteArray} {u : UInt8} (hop : o.op = .index t x y) (hx : okOpd P.globals.size x = true) (hy : okOpd P.globals.size y = true)
    (hu : P.underlying t = some .string) (h1 : ρ.eval x = .string a) (h2 : ρ.eval y = .int k j) (h0 : 0 ≤ j) (hj : a[j.toNat]? = some u) :
    OpV P o ρ aw (.int .u8 u.toNat) aw :=
  opv_pure fun s f w hf => by
    have e1 := hf x hx; rw [h1] at e1
    have e2 := hf y hy; rw [h2] at e2
    refine ⟨.int .u8 u.toNat, ?_, .int _ _⟩
    simp only [execOp, hop, Instr.index, VR.int_inv e2, VR.string_inv e1, Sem.run_bind, run_asIntOf, Result.andThen_ok, run_underlying hu, h0, if_true, hj, Sem.run_pure]
theorem opv_indexA {k : IntKind} {j : Int} {el : TypeId} {l size : Nat} {cs : Array Value} (hop : o.op = .index t x y) (hx : okOpd P.globals.size x = true) (hy : okOpd P.globals.size y = true)
    (hu : P.underlying t = some (.array l el)) (hd : P.underlying el = some d) (ha : aggT d = false) (hsz : (P.info? el).map (·.size) = some 1) (h1 : ρ.eval x = .agg cs) (h2 : ρ.eval y = .int k j) (h0 : 0 ≤ j) (hj : j < l) (hv : cs[j.toNat]? = some v) :
    OpV P o ρ aw v aw :=
  opv_pure fun s f w hf => by
    have e1 := hf x hx; rw [h1] at e1
    have e2 := hf y hy; rw [h2] at e2
    obtain ⟨ys, q1, q2⟩ := e1.agg_inv
    obtain ⟨v', h4, h5⟩ := q2.get (i := j.toNat) (v := v) (by simpa using hv)
    have h4' : ys[j.toNat]? = some v' := by simpa using h4
    refine ⟨v', ?_, h5⟩
    simp only [execOp, hop, Instr.index, VR.int_inv e2, q1, Sem.run_bind, run_asIntOf, Result.andThen_ok, run_underlying hu, Sem.run_pure]
    rw [if_pos ⟨h0, hj⟩]
    simp only [Sem.run_bind, run_sizeOf' hsz, Result.andThen_ok, part, run_isAgg hd, Nat.mul_one]
    cases d <;> simp_all [aggT]

/-! slices of slices, of texts -/
def Bnd (ρ : Env) (G : Nat) (d : Nat) : Option Operand → Nat → Prop
  | none, n => n = d
  | some x, n => okOpd G x = true ∧ ∃ k, ρ.eval x = .int k (n : Int)
theorem run_sliceBound (k : IntKind) (n m : Nat) (c : BoundsCode) (h : n ≤ m) (w : World) : (Instr.sliceBound (.int k (n : Int)) m c).run P w = .ok n w := by
  simp only [Instr.sliceBound, Sem.run_bind, run_asIntOf, Result.andThen_ok]
  rw [if_pos ⟨by omega, by omega⟩]
  simp
theorem run_bounds2 {s : Inj} {f : Operand → Value} (hf : ∀ x, okOpd P.globals.size x = true → VR s (ρ.eval x) (f x)) {isS : Bool} {len cap lo hi : Nat} {xl xh : Option Operand}
    (hl : Bnd ρ P.globals.size 0 xl lo) (hh : Bnd ρ P.globals.size len xh hi) (h1 : lo ≤ hi) (h2 : hi ≤ cap) (w : World) :
    (Instr.sliceBounds isS len cap (xl.map f) (xh.map f) none).run P w = .ok (lo, hi, cap) w := by
  have b1 : ∀ z, xl = some z → ∃ k, f z = .int k lo := by
    rintro z rfl
    obtain ⟨h3, k, h4⟩ := hl
    have := hf z h3; rw [h4] at this
    exact ⟨k, VR.int_inv this⟩
  have b2 : ∀ z, xh = some z → ∃ k, f z = .int k hi := by
    rintro z rfl
    obtain ⟨h3, k, h4⟩ := hh
    have := hf z h3; rw [h4] at this
    exact ⟨k, VR.int_inv this⟩
  simp only [Instr.sliceBounds, Sem.run_bind, Sem.run_pure, Result.andThen_ok]
  cases xh with
  | none =>
    have : hi = len := hh
    subst this
    cases xl with
    | none => have : lo = 0 := hl; subst this; simp
    | some z =>
      obtain ⟨k, hk⟩ := b1 z rfl
      simp [hk, run_sliceBound k lo hi _ h1]
  | some z' =>
    obtain ⟨k', hk'⟩ := b2 z' rfl
    cases xl with
    | none => have : lo = 0 := hl; subst this; simp [hk', run_sliceBound k' hi cap _ h2]
    | some z =>
      obtain ⟨k, hk⟩ := b1 z rfl
      simp [hk, hk', run_sliceBound k lo hi _ h1, run_sliceBound k' hi cap _ h2]
theorem opv_sliceStr {a : ByteArray} {lo hi : Nat} {xl xh : Option Operand} (hop : o.op = .slice t x xl xh none) (hx : okOpd P.globals.size x = true)
    (hu : P.underlying t = some .string) (h1 : ρ.eval x = .string a) (hl : Bnd ρ P.globals.size 0 xl lo) (hh : Bnd ρ P.globals.size a.size xh hi) (h2 : lo ≤ hi) (h3 : hi ≤ a.size) :
    OpV P o ρ aw (.string (a.extract lo hi)) aw :=
  opv_pure fun s f w hf => by
    have e1 := hf x hx; rw [h1] at e1
    refine ⟨.string (a.extract lo hi), ?_, .string _⟩
    have := run_bounds2 (P := P) hf (isS := false) (cap := a.size) hl hh h2 h3 w
    simp only [execOp, hop, Instr.sliceAt, Instr.slice, VR.string_inv e1, Sem.run_bind, Result.andThen_ok, run_underlying hu, Option.map_none, Option.isSome_none, Bool.false_eq_true, if_false, Sem.run_pure, this]
/-- the capacity of a part of a slice -/
def capOf (c lo : Nat) : Nat := if c < UNK then c - lo else c
theorem opv_slice {el : TypeId} {l c lo hi size : Nat} {xl xh : Option Operand} (hop : o.op = .slice t x xl xh none) (hx : okOpd P.globals.size x = true)
    (hu : P.underlying t = some (.slice el)) (hsz : (P.info? el).map (·.size) = some size) (h1 : ρ.eval x = .slice (some ⟨b, i, none⟩) l c) (hl : Bnd ρ P.globals.size 0 xl lo) (hh : Bnd ρ P.globals.size l xh hi)
    (h2 : lo ≤ hi) (h3 : hi ≤ if c < UNK then c else l) (hB : UNK ≤ c → ∃ B, aw.m b = some B ∧ B.esz = size) :
    OpV P o ρ aw (.slice (some ⟨b, i + lo * size, none⟩) (hi - lo) (capOf c lo)) aw := by
  intro base w0 s f w hr hf
  have e1 := hf x hx; rw [h1] at e1
  obtain ⟨a', c', q1, q2, q3, q4⟩ := e1.slice_inv
  have hhi : hi ≤ c' := by
    split at h3
    · rename_i hc; rw [q3 hc]; exact h3
    · omega
  have hb := run_bounds2 (P := P) hf (isS := true) (cap := c') hl hh h2 hhi w
  refine ⟨_, .slice (some (if c' = lo then a' else a'.add (lo * size))) (hi - lo) (c' - lo), w, s, ?_, .inl rfl, Inj.le_refl s, hr, ?_⟩
  · simp only [execOp, hop, Instr.sliceAt, Instr.slice, q1, Sem.run_bind, Result.andThen_ok, run_underlying hu, Option.map_none, hb, run_sizeOf' hsz, Sem.run_pure]
    split <;> rfl
  · refine .slice (by omega) (fun hc => ?_) fun hp => ?_
    · unfold capOf at hc ⊢
      split at hc
      · rename_i h; rw [if_pos h, q3 h]
      · omega
    · obtain ⟨e, q5, q6, q7⟩ := q4 (by omega)
      refine ⟨e, q5, ?_, fun hc => ?_⟩
      · rw [if_neg (by omega), q6, Addr.add_lit, Nat.add_assoc]
      · unfold capOf at hc
        split at hc
        · omega
        · rename_i hcc
          have hcU : UNK ≤ c := by omega
          obtain ⟨B, hB1, hB2⟩ := hB hcU
          obtain ⟨e', _, _, r1, r2, _⟩ := hr.blk b B hB1
          rw [q5] at r1; obtain rfl := Option.some.inj r1
          have r3 := q7 hcU
          rw [← hB2, ← r2.1]
          have : c' * e.esz = lo * e.esz + (c' - lo) * e.esz := by rw [← Nat.add_mul]; congr 1; omega
          rw [this] at r3
          omega
theorem opv_sliceNil {xl xh : Option Operand} {el : TypeId} {size : Nat} (hop : o.op = .slice t x xl xh none) (hx : okOpd P.globals.size x = true)
    (hu : P.underlying t = some (.slice el)) (hsz : (P.info? el).map (·.size) = some size) (h1 : ρ.eval x = .slice none 0 0) (hl : Bnd ρ P.globals.size 0 xl 0) (hh : Bnd ρ P.globals.size 0 xh 0) :
    OpV P o ρ aw (.slice none 0 0) aw :=
  opv_pure fun s f w hf => by
    have e1 := hf x hx; rw [h1] at e1
    obtain ⟨_, _, q1⟩ := e1.nilslice_inv
    have hb := run_bounds2 (P := P) hf (isS := true) (cap := 0) hl hh (Nat.le_refl _) (Nat.le_refl _) w
    refine ⟨.slice none 0 0, ?_, .nilslice⟩
    simp only [execOp, hop, Instr.sliceAt, Instr.slice, q1, Sem.run_bind, Result.andThen_ok, run_underlying hu, Option.map_none, hb, run_sizeOf' hsz, Sem.run_pure]
    rfl
theorem run_bounds3 {s : Inj} {f : Operand → Value} (hf : ∀ x, okOpd P.globals.size x = true → VR s (ρ.eval x) (f x)) {len cap lo hi mx : Nat} {xl : Option Operand} {xh xm : Operand}
    (hl : Bnd ρ P.globals.size 0 xl lo) (hh : Bnd ρ P.globals.size 0 (some xh) hi) (hm : Bnd ρ P.globals.size 0 (some xm) mx) (h1 : lo ≤ hi) (h2 : hi ≤ mx) (h3 : mx ≤ cap) (w : World) :
    (Instr.sliceBounds true len cap (xl.map f) (some (f xh)) (some (f xm))).run P w = .ok (lo, hi, mx) w := by
  obtain ⟨g1, k1, g2⟩ := hh
  obtain ⟨g3, k2, g4⟩ := hm
  have e1 := hf xh g1; rw [g2] at e1
  have e2 := hf xm g3; rw [g4] at e2
  simp only [Instr.sliceBounds, Sem.run_bind, Sem.run_pure, Result.andThen_ok, VR.int_inv e1, VR.int_inv e2, if_true, run_sliceBound k2 mx cap _ h3, run_sliceBound k1 hi mx _ h2]
  cases xl with
  | none => have : lo = 0 := hl; subst this; simp
  | some z =>
    obtain ⟨g5, k3, g6⟩ := hl
    have e3 := hf z g5; rw [g6] at e3
    simp [VR.int_inv e3, run_sliceBound k3 lo hi _ h1]
theorem opv_slice3 {el : TypeId} {l c lo hi mx size : Nat} {xl : Option Operand} {xh xm : Operand} (hop : o.op = .slice t x xl (some xh) (some xm)) (hx : okOpd P.globals.size x = true)
    (hu : P.underlying t = some (.slice el)) (hsz : (P.info? el).map (·.size) = some size) (h1 : ρ.eval x = .slice (some ⟨b, i, none⟩) l c) (hl : Bnd ρ P.globals.size 0 xl lo)
    (hh : Bnd ρ P.globals.size 0 (some xh) hi) (hm : Bnd ρ P.globals.size 0 (some xm) mx) (h2 : lo ≤ hi) (h3 : hi ≤ mx) (h4 : mx ≤ if c < UNK then c else l) (h5 : mx < UNK) :
    OpV P o ρ aw (.slice (some ⟨b, i + lo * size, none⟩) (hi - lo) (mx - lo)) aw :=
  opv_pure fun s f w hf => by
    have e1 := hf x hx; rw [h1] at e1
    obtain ⟨a', c', q1, q2, q3, q4⟩ := e1.slice_inv
    have hmx : mx ≤ c' := by
      split at h4
      · rename_i hc; rw [q3 hc]; exact h4
      · omega
    have hb := run_bounds3 (P := P) hf (len := l) (cap := c') hl hh hm h2 h3 hmx w
    refine ⟨.slice (some (if mx = lo then a' else a'.add (lo * size))) (hi - lo) (mx - lo), ?_, ?_⟩
    · simp only [execOp, hop, Instr.sliceAt, Instr.slice, q1, Sem.run_bind, Result.andThen_ok, run_underlying hu, Option.map_some, hb, run_sizeOf' hsz, Sem.run_pure]
      split <;> rfl
    · refine .slice (by omega) (fun hc => rfl) fun hp => ?_
      obtain ⟨e, q5, q6, q7⟩ := q4 (by omega)
      refine ⟨e, q5, ?_, fun hc => by exfalso; omega⟩
      rw [if_neg (by omega), q6, Addr.add_lit, Nat.add_assoc]
theorem opv_slice3Nil {xl : Option Operand} {xh xm : Operand} {el : TypeId} {size : Nat} (hop : o.op = .slice t x xl (some xh) (some xm)) (hx : okOpd P.globals.size x = true)
    (hu : P.underlying t = some (.slice el)) (hsz : (P.info? el).map (·.size) = some size) (h1 : ρ.eval x = .slice none 0 0) (hl : Bnd ρ P.globals.size 0 xl 0)
    (hh : Bnd ρ P.globals.size 0 (some xh) 0) (hm : Bnd ρ P.globals.size 0 (some xm) 0) : OpV P o ρ aw (.slice none 0 0) aw :=
  opv_pure fun s f w hf => by
    have e1 := hf x hx; rw [h1] at e1
    obtain ⟨_, _, q1⟩ := e1.nilslice_inv
    have hb := run_bounds3 (P := P) hf (len := 0) (cap := 0) hl hh hm (Nat.le_refl _) (Nat.le_refl _) (Nat.le_refl _) w
    refine ⟨.slice none 0 0, ?_, .nilslice⟩
    simp only [execOp, hop, Instr.sliceAt, Instr.slice, q1, Sem.run_bind, Result.andThen_ok, run_underlying hu, Option.map_some, hb, run_sizeOf' hsz, Sem.run_pure]
    rfl
theorem opv_sliceArr {el : TypeId} {l lo hi size : Nat} {xl xh : Option Operand} (hop : o.op = .slice t x xl xh none) (hx : okOpd P.globals.size x = true)
    (hu : P.underlying t = some (.array l el)) (hsz : (P.info? el).map (·.size) = some size) (h1 : ρ.eval x = .pointer (some ⟨b, i, none⟩)) (hl : Bnd ρ P.globals.size 0 xl lo) (hh : Bnd ρ P.globals.size l xh hi)
    (h2 : lo ≤ hi) (h3 : hi ≤ l) (h4 : l < UNK) : OpV P o ρ aw (.slice (some ⟨b, i + lo * size, none⟩) (hi - lo) (l - lo)) aw :=
  opv_pure fun s f w hf => by
    have e1 := hf x hx; rw [h1] at e1
    obtain ⟨e, q1, q2⟩ := e1.ptr_inv
    have hb := run_bounds2 (P := P) hf (isS := false) (cap := l) hl hh h2 h3 w
    refine ⟨.slice (some (if l = lo then ⟨e.cb, e.off + i, none⟩ else (⟨e.cb, e.off + i, none⟩ : Addr).add (lo * size))) (hi - lo) (l - lo), ?_, ?_⟩
    · simp only [execOp, hop, Instr.sliceAt, q2, Instr.sureAddr, Sem.run_bind, Result.andThen_ok, run_underlying hu, Option.map_none, hb, run_sizeOf' hsz, Sem.run_pure]
    · refine .slice (by omega) (fun hc => rfl) fun hp => ⟨e, q1, ?_, fun hc => by exfalso; omega⟩
      rw [if_neg (by omega), Addr.add_lit, Nat.add_assoc]

/-! lengths; the greater and the smaller one -/
theorem opv_lenS {a : ByteArray} {T : TypeId} {at' : Array TypeId} (hop : o.op = .call { callee := .builtin .len, args := #[x], argTypes := at' }) (hat : at'[0]? = some T) (hx : okOpd P.globals.size x = true)
    (hu : P.underlying T = some .string) (h1 : ρ.eval x = .string a) : OpV P o ρ aw (.int .i64 a.size) aw :=
  opv_pure fun s f w hf => by
    have e1 := hf x hx; rw [h1] at e1
    refine ⟨.int .i64 a.size, ?_, .int _ _⟩
    simp [execOp, hop, resolve, invoke, builtin, Builtin.len_, VR.string_inv e1, hat, run_underlying hu, goInt]
theorem opv_len {q : Option Addr} {l c : Nat} {T el : TypeId} {at' : Array TypeId} (hop : o.op = .call { callee := .builtin .len, args := #[x], argTypes := at' }) (hat : at'[0]? = some T) (hx : okOpd P.globals.size x = true)
    (hu : P.underlying T = some (.slice el)) (h1 : ρ.eval x = .slice q l c) : OpV P o ρ aw (.int .i64 l) aw :=
  opv_pure fun s f w hf => by
    have e1 := hf x hx; rw [h1] at e1
    have : ∃ q' c', f x = .slice q' l c' := by
      generalize f x = u at e1
      cases e1 with
      | nilslice => exact ⟨_, _, rfl⟩
      | slice => exact ⟨_, _, rfl⟩
    obtain ⟨q', c', hq⟩ := this
    refine ⟨.int .i64 l, ?_, .int _ _⟩
    simp [execOp, hop, resolve, invoke, builtin, Builtin.len_, hq, hat, run_underlying hu, goInt]
theorem opv_lenA {l : Nat} {T el : TypeId} {at' : Array TypeId} (hop : o.op = .call { callee := .builtin .len, args := #[x], argTypes := at' }) (hat : at'[0]? = some T)
    (hu : P.underlying T = some (.array l el)) : OpV P o ρ aw (.int .i64 l) aw :=
  opv_pure fun s f w hf => by
    refine ⟨.int .i64 l, ?_, .int _ _⟩
    simp [execOp, hop, resolve, invoke, builtin, Builtin.len_, hat, run_underlying hu, goInt]
theorem opv_max {k : IntKind} {m n : Int} {at' : Array TypeId} (hop : o.op = .call { callee := .builtin .max, args := #[x, y], argTypes := at' }) (hx : okOpd P.globals.size x = true) (hy : okOpd P.globals.size y = true)
    (h1 : ρ.eval x = .int k m) (h2 : ρ.eval y = .int k n) : OpV P o ρ aw (.int k (max m n)) aw :=
  opv_pure fun s f w hf => by
    have e1 := hf x hx; rw [h1] at e1
    have e2 := hf y hy; rw [h2] at e2
    refine ⟨.int k (if n > m then n else m), ?_, ?_⟩
    · simp [execOp, hop, resolve, invoke, builtin, Builtin.max_, Builtin.max2, VR.int_inv e1, VR.int_inv e2]
    · have : (if n > m then n else m) = max m n := by split <;> omega
      rw [this]; exact .int _ _
theorem opv_min {k : IntKind} {m n : Int} {at' : Array TypeId} (hop : o.op = .call { callee := .builtin .min, args := #[x, y], argTypes := at' }) (hx : okOpd P.globals.size x = true) (hy : okOpd P.globals.size y = true)
    (h1 : ρ.eval x = .int k m) (h2 : ρ.eval y = .int k n) : OpV P o ρ aw (.int k (min m n)) aw :=
  opv_pure fun s f w hf => by
    have e1 := hf x hx; rw [h1] at e1
    have e2 := hf y hy; rw [h2] at e2
    refine ⟨.int k (if n < m then n else m), ?_, ?_⟩
    · simp [execOp, hop, resolve, invoke, builtin, Builtin.min_, Builtin.min2, VR.int_inv e1, VR.int_inv e2]
    · have : (if n < m then n else m) = min m n := by split <;> omega
      rw [this]; exact .int _ _

/-! calls of functions -/
theorem run_callFunc {g : FuncId} {fn : Func} {c : Code} (hf : P.funcs[g]? = some fn) (hn : (fn.name == "runtime.NumGoroutine") = false) (hb : fn.body = some c) (args : Array Value) (w : World) :
    (callFunc g args).run P w = .ok (.enter g args) w := by
  simp only [callFunc, Sem.run_bind, run_program, Result.andThen_ok, hf, hn, Bool.false_eq_true, if_false, hb, Option.isNone_some, Sem.run_pure]
theorem opc_static {g : FuncId} {fn : Func} {c : Code} {xs : Array Operand} {at' : Array TypeId} {args : List Value} (hop : o.op = .call { callee := .value (.func g), args := xs, argTypes := at' })
    (hok : xs.toList.all (okOpd P.globals.size) = true) (hf : P.funcs[g]? = some fn) (hn : (fn.name == "runtime.NumGoroutine") = false) (hb : fn.body = some c) (ha : xs.toList.map ρ.eval = args) : OpC P o ρ g args := by
  intro s f w hff
  refine ⟨(xs.map f).toList, ?_, ?_⟩
  · have e0 : f (.func g) = .func (.func g) #[] #[] := by
      have := hff (.func g) rfl
      simp only [Env.eval] at this
      obtain ⟨a', c', h2, h3, h4⟩ := this.func_inv
      have r1 : a' = #[] := by apply Array.toList_inj.1; generalize a'.toList = q at h3; cases h3; rfl
      have r2 : c' = #[] := by apply Array.toList_inj.1; generalize c'.toList = q at h4; cases h4; rfl
      rw [h2, r1, r2]
    simp only [execOp, hop, resolve, e0, Deferred.ofValue, Sem.run_bind, Sem.run_pure, Result.andThen_ok, invoke]
    rw [run_callFunc hf hn hb]
    congr 2
    apply Array.toList_inj.1
    simp
  · subst ha
    have := evals (ρ := ρ) hff xs.toList hok
    simpa using this
theorem opc_dyn {g : FuncId} {fn : Func} {c : Code} {z : Operand} {xs : Array Operand} {at' : Array TypeId} {args : List Value} {fa ca : Array Value} (hop : o.op = .call { callee := .value z, args := xs, argTypes := at' })
    (hz : okOpd P.globals.size z = true) (hok : xs.toList.all (okOpd P.globals.size) = true) (hzv : ρ.eval z = .func (.func g) fa ca)
    (hf : P.funcs[g]? = some fn) (hn : (fn.name == "runtime.NumGoroutine") = false) (hb : fn.body = some c) (ha : fa.toList ++ xs.toList.map ρ.eval ++ ca.toList = args) : OpC P o ρ g args := by
  intro s f w hff
  have e1 := hff z hz; rw [hzv] at e1
  obtain ⟨a', c', h2, h3, h4⟩ := e1.func_inv
  refine ⟨(a' ++ xs.map f ++ c').toList, ?_, ?_⟩
  · simp only [execOp, hop, resolve, h2, Deferred.ofValue, Sem.run_bind, Sem.run_pure, Result.andThen_ok, invoke]
    rw [run_callFunc hf hn hb]
  · subst ha
    have := evals (ρ := ρ) hff xs.toList hok
    simp only [Array.toList_append, Array.toList_map]
    exact (h3.append this).append h4
theorem opd_static {g : FuncId} {xs : Array Operand} {at' : Array TypeId} (hop : o.op = .defer { callee := .value (.func g), args := xs, argTypes := at' })
    (hok : xs.toList.all (okOpd P.globals.size) = true) : OpD P o ρ { target := .fn (.func g) #[], args := xs.map ρ.eval } := by
  intro s f w hff
  have e0 : f (.func g) = .func (.func g) #[] #[] := by
    have := hff (.func g) rfl
    simp only [Env.eval] at this
    obtain ⟨a', c', h2, h3, h4⟩ := this.func_inv
    have r1 : a' = #[] := by apply Array.toList_inj.1; generalize a'.toList = q at h3; cases h3; rfl
    have r2 : c' = #[] := by apply Array.toList_inj.1; generalize c'.toList = q at h4; cases h4; rfl
    rw [h2, r1, r2]
  refine ⟨{ target := .fn (.func g) #[], args := xs.map f }, ?_, .fn _ .nil, ?_⟩
  · simp [execOp, hop, resolve, e0, Deferred.ofValue]
  · simpa using evals (ρ := ρ) hff xs.toList hok
theorem opd_dyn {g : FuncId} {z : Operand} {xs : Array Operand} {at' : Array TypeId} {fa ca : Array Value} (hop : o.op = .defer { callee := .value z, args := xs, argTypes := at' })
    (hz : okOpd P.globals.size z = true) (hok : xs.toList.all (okOpd P.globals.size) = true) (hzv : ρ.eval z = .func (.func g) fa ca) :
    OpD P o ρ { target := .fn (.func g) ca, args := fa ++ xs.map ρ.eval } := by
  intro s f w hff
  have e1 := hff z hz; rw [hzv] at e1
  obtain ⟨a', c', h2, h3, h4⟩ := e1.func_inv
  refine ⟨{ target := .fn (.func g) c', args := a' ++ xs.map f }, ?_, .fn _ h4, ?_⟩
  · simp [execOp, hop, resolve, h2, Deferred.ofValue]
  · simp only [Array.toList_append, Array.toList_map]
    exact h3.append (evals (ρ := ρ) hff xs.toList hok)
theorem opp_panic {u : TypeId} {z : Value} (hop : o.op = .panic x) (hx : okOpd P.globals.size x = true) (h1 : ρ.eval x = .iface u z) : OpP P o ρ aw (.iface u z) := by
  intro base w0 s f w hr hff
  have e1 := hff x hx; rw [h1] at e1
  obtain ⟨z', h2, h3⟩ := e1.iface_inv
  exact ⟨.iface u z', by simp [execOp, hop, h2, Instr.panic], .iface _ h3⟩
end
end Go.Am
