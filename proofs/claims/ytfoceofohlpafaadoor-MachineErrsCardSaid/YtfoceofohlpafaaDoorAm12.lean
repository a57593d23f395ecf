/- Functions without a body, and the unsafe operations of strings.Builder. -/
import Derived.Test.YtfoceofohlpafaaDoorAm11
import Derived.Laws.Externs
import Derived.Lib.UnsafeStr
import Derived.Lib.Builder
set_option linter.unusedSimpArgs false
set_option linter.unusedVariables false
set_option linter.unusedSectionVars false
namespace Go.Am
open Go Go.RowKit
variable [SymE]

theorem AW.getN_get {aw : AW} {b : Nat} : ∀ {n i : Nat} {cs : List Value}, aw.getN b i n = some cs → ∀ {j : Nat} {u : Value}, cs[j]? = some u → aw.get b (i + j) = some u
  | 0, i, cs, h, j, u, hj => by simp [AW.getN] at h; subst h; simp at hj
  | n + 1, i, cs, h, j, u, hj => by
    simp only [AW.getN] at h
    cases hg : aw.get b i with
    | none => simp [hg] at h
    | some v =>
      simp only [hg] at h
      cases hl : aw.getN b (i + 1) n with
      | none => simp [hl] at h
      | some l =>
        simp [hl] at h; subst h
        cases j with
        | zero => simp at hj; subst hj; exact hg
        | succ j =>
          simp at hj
          have := AW.getN_get hl hj
          rw [show i + (j + 1) = i + 1 + j by omega]; exact this
theorem AW.getN_of {aw : AW} {b : Nat} : ∀ {cs : List Value} {i : Nat}, (∀ (j : Nat) (u : Value), cs[j]? = some u → aw.get b (i + j) = some u) → aw.getN b i cs.length = some cs
  | [], i, h => rfl
  | c :: cs, i, h => by
    have h0 := h 0 c rfl
    have ht := AW.getN_of (cs := cs) (i := i + 1) (fun j u hj => by
      have := h (j + 1) u (by simpa using hj)
      rw [show i + 1 + j = i + (j + 1) by omega]; exact this)
    simp only [Nat.add_zero] at h0
    simp [AW.getN, h0, ht]
/-- a function that the model itself answers -/
def IsExt (P : Program) (g : FuncId) (e : Array Value → Sem Value) : Prop :=
  ∃ fn, P.funcs[g]? = some fn ∧ (fn.name == "runtime.NumGoroutine") = false ∧ fn.body.isNone = true ∧ Extern.findNext fn = none ∧ Extern.find fn = some e
section
variable {P : Program} {ρ : Env} {aw aw' : AW} {o : Oper} {x y : Operand} {v p : Value} {t el : TypeId}

theorem ov_ext {g : FuncId} {e : Array Value → Sem Value} {xs : Array Operand} {at' : Array TypeId} {args : List Value} (hop : o.op = .call { callee := .value (.func g), args := xs, argTypes := at' })
    (hok : xs.toList.all (okOpd P.globals.size) = true) (hf : IsExt P g e) (ha : xs.toList.map ρ.eval = args)
    (h : ∀ (s : Inj) (args' : List Value) (w : World), VRs s args args' → ∃ v', (e args'.toArray).run P w = .ok v' w ∧ VR s v v') : OpV P o ρ aw v aw := by
  intro base w0 s f w hr hff
  obtain ⟨fn, h1, h2, h3, h4, h5⟩ := hf
  have hv : VRs s args (xs.map f).toList := by
    have := evals hff xs.toList hok
    rw [ha] at this
    simpa using this
  obtain ⟨v', k1, k2⟩ := h s (xs.map f).toList w hv
  refine ⟨.value v', v', w, s, ?_, .inl rfl, Inj.le_refl s, hr, k2⟩
  have e0 : f (.func g) = .func (.func g) #[] #[] := by
    have := hff (.func g) rfl
    simp only [Env.eval] at this
    obtain ⟨a', c', h2, h3, h4⟩ := this.func_inv
    have r1 : a' = #[] := by apply Array.toList_inj.1; generalize a'.toList = q at h3; cases h3; rfl
    have r2 : c' = #[] := by apply Array.toList_inj.1; generalize c'.toList = q at h4; cases h4; rfl
    rw [h2, r1, r2]
  have hcf := run_callFunc_extern h1 h2 h3 h4 h5 (xs.map f) w
  have e3 : (xs.map f).toList.toArray = xs.map f := rfl
  rw [e3] at k1
  rw [k1] at hcf
  simp only [Result.andThen] at hcf
  have e4 : (#[] : Array Value) ++ xs.map f ++ #[] = xs.map f := by apply Array.toList_inj.1; simp
  simp only [execOp, hop, resolve, e0, Deferred.ofValue, Sem.run_bind, Sem.run_pure, Result.andThen_ok, invoke]
  first
    | exact hcf
    | (rw [e4]; exact hcf)
/-- where a byte stands in a text -/
theorem ov_idx {g : FuncId} {xs : Array Operand} {at' : Array TypeId} {a : ByteArray} {c : Int} (hop : o.op = .call { callee := .value (.func g), args := xs, argTypes := at' })
    (hok : xs.toList.all (okOpd P.globals.size) = true) (hf : IsExt P g Extern.BytealgIndexByte.indexByte) (ha : xs.toList.map ρ.eval = [.string a, .int .u8 c]) : OpV P o ρ aw (.int .i64 (firstIdx a c.toNat.toUInt8)) aw :=
  ov_ext hop hok hf ha fun s args' w hv => by
    cases hv with
    | cons h1 t => cases t with
      | cons h2 t => cases t with
        | nil =>
          cases h1; cases h2
          exact ⟨_, run_indexByte_string a c w, .int _ _⟩
theorem ov_noEsc {g : FuncId} {xs : Array Operand} {at' : Array TypeId} (hop : o.op = .call { callee := .value (.func g), args := xs, argTypes := at' })
    (hok : xs.toList.all (okOpd P.globals.size) = true) (hf : IsExt P g Extern.AbiNoEscape.same) (ha : xs.toList.map ρ.eval = [v]) : OpV P o ρ aw v aw :=
  ov_ext hop hok hf ha fun s args' w hv => by
    cases hv with
    | cons h1 t => cases t with
      | nil => exact ⟨_, Lib.run_noEscape w _, h1⟩
/-- a whole variable -/
def Whole (aw : AW) (T n : Nat) (p : Value) : Prop := ∃ b B, p = .pointer (some ⟨b, 0, none⟩) ∧ aw.m b = some B ∧ B.esz = 0 ∧ B.elem = T ∧ B.cells.length = n ∧ 0 < n
/-- a type of its size: lies whole at the start of a block of its own -/
def LiesOk (P : Program) (T n : Nat) : Prop := liesAt P P.depth T (n / P.cellsOf T) 0 T 1 = true
theorem ov_toU {src dst T : TypeId} {n : Nat} (hop : o.op = .convert src dst x) (hx : okOpd P.globals.size x = true) (hs : P.underlying src = some (.pointer T)) (hd : P.underlying dst = some .unsafePointer)
    (hsz : (P.info? T).map (·.size) = some n) (h1 : ρ.eval x = p) (hp : Whole aw T n p) : OpV P o ρ aw p aw := by
  intro base w0 s f w hr hf
  obtain ⟨b, B, rfl, hB, hB0, hBT, hBn, hBl⟩ := hp
  have e1 := hf x hx; rw [h1] at e1
  obtain ⟨e, he, h2⟩ := e1.ptr_inv
  obtain ⟨e', cs, fz, g1, g2, g3, g4, g5, g6, g7⟩ := hr.blk b B hB
  rw [he] at g1; obtain rfl := Option.some.inj g1
  obtain ⟨o0, oc⟩ := g2.2.2 hB0
  obtain ⟨j, hj, hjs⟩ := Option.map_eq_some_iff.1 hsz
  have hc : (convert src dst (.pointer (some ⟨e.cb, e.off + 0, none⟩))).run P w = .ok (.pointer (some ⟨e.cb, e.off + 0, none⟩)) w :=
    Lib.run_to_unsafe (t := T) (e := B.elem) (cells := cs.size) w ⟨e.cb, e.off + 0, none⟩ hs hd hj (by rw [hjs]; omega) (by simp [World.shape?, g3]) (by simp only; omega)
  refine ⟨_, f x, w, s, ?_, .inl rfl, Inj.le_refl s, hr, e1⟩
  simp only [execOp, hop, h2, hc, Sem.run_bind, Result.andThen_ok, Sem.run_pure]
theorem ov_fromU {src dst T : TypeId} {n : Nat} (hop : o.op = .convert src dst x) (hx : okOpd P.globals.size x = true) (hs : P.underlying src = some .unsafePointer) (hd : P.underlying dst = some (.pointer T))
    (hsz : (P.info? T).map (·.size) = some n) (h1 : ρ.eval x = p) (hp : Whole aw T n p) (hl : LiesOk P T n) : OpV P o ρ aw p aw := by
  intro base w0 s f w hr hf
  obtain ⟨b, B, rfl, hB, hB0, hBT, hBn, hBl⟩ := hp
  have e1 := hf x hx; rw [h1] at e1
  obtain ⟨e, he, h2⟩ := e1.ptr_inv
  obtain ⟨e', cs, fz, g1, g2, g3, g4, g5, g6, g7⟩ := hr.blk b B hB
  rw [he] at g1; obtain rfl := Option.some.inj g1
  obtain ⟨o0, oc⟩ := g2.2.2 hB0
  obtain ⟨j, hj, hjs⟩ := Option.map_eq_some_iff.1 hsz
  have hc : (convert src dst (.pointer (some ⟨e.cb, e.off + 0, none⟩))).run P w = .ok (.pointer (some ⟨e.cb, e.off + 0, none⟩)) w :=
    Lib.run_from_unsafe (u := T) (e := T) (cells := n) w ⟨e.cb, e.off + 0, none⟩ hs hd hj (by simp [World.shape?, g3, hBT]; omega) (by simp only [o0]; exact hl)
  refine ⟨_, f x, w, s, ?_, .inl rfl, Inj.le_refl s, hr, e1⟩
  simp only [execOp, hop, h2, hc, Sem.run_bind, Result.andThen_ok, Sem.run_pure]
/-- a pointer against itself -/
theorem ov_nePS {xt yt T : TypeId} {n : Nat} {q : Value} (hop : o.op = .binOp .neq xt x y yt) (hx : okOpd P.globals.size x = true) (hy : okOpd P.globals.size y = true) (hu : P.underlying xt = some (.pointer T))
    (hsz : (P.info? T).map (·.size) = some n) (h1 : ρ.eval x = p) (h2 : ρ.eval y = q) (hq : p = q ∧ ∃ b i, p = .pointer (some ⟨b, i, none⟩)) : OpV P o ρ aw (.bool false) aw := by
  intro base w0 s f w hr hf
  obtain ⟨rfl, b, i, rfl⟩ := hq
  have e1 := hf x hx; rw [h1] at e1
  have e2 := hf y hy; rw [h2] at e2
  obtain ⟨e, he, k1⟩ := e1.ptr_inv
  obtain ⟨e', he', k2⟩ := e2.ptr_inv
  rw [he] at he'; obtain rfl := Option.some.inj he'
  obtain ⟨j, hj, hjs⟩ := Option.map_eq_some_iff.1 hsz
  have hc := Lib.run_neq_ptr_same (P := P) w ⟨e.cb, e.off + i, none⟩ hu hj
  refine ⟨_, .bool false, w, s, ?_, .inl rfl, Inj.le_refl s, hr, .bool _⟩
  simp only [execOp, hop, k1, k2, Sem.run_bind, Result.andThen_ok, Sem.run_pure, hc, eqGuard, Bool.not_true, Bool.false_eq_true, if_false]

/-- two values of interface types -/
inductive IfEq (P : Program) : Value → Value → Bool → Prop
  | ni {t : TypeId} {v : Value} : IfEq P .nilIface (.iface t v) false
  | inn {t : TypeId} {v : Value} : IfEq P (.iface t v) .nilIface false
  | ne {t t' : TypeId} {v v' : Value} (h : t ≠ t') : IfEq P (.iface t v) (.iface t' v') false
  | int {t : TypeId} {k : IntKind} {a b : Int} (hu : P.underlying t = some (.int k)) (hc : (P.info? t).map (·.comparable) = some true) : IfEq P (.iface t (.int k a)) (.iface t (.int k b)) (decide (a = b))
theorem IfEq.run {P : Program} {xt : TypeId} {ms : Array (String × TypeId)} {u1 u2 v1 v2 : Value} {r : Bool} {s : Inj} (hu : P.underlying xt = some (.interface ms)) (h : IfEq P u1 u2 r) (e1 : VR s u1 v1) (e2 : VR s u2 v2) (w : World) : (Op.equal xt v1 v2).run P w = .ok r w := by
  have hk : ∃ k, (9999 : Nat) = k + 1 := ⟨9998, rfl⟩
  rw [equal_succ]; generalize (9999 : Nat) = n at hk ⊢
  obtain ⟨d, rfl⟩ := hk
  cases h with
  | ni => cases e1; cases e2; simp only [Op.equalIn, Sem.run_bind, run_underlying hu, Result.andThen_ok, Sem.run_pure]
  | inn => cases e1; cases e2; simp only [Op.equalIn, Sem.run_bind, run_underlying hu, Result.andThen_ok, Sem.run_pure]
  | ne h => cases e1; cases e2; simp only [Op.equalIn, Sem.run_bind, run_underlying hu, Result.andThen_ok, Sem.run_pure, if_pos h]
  | int hu' hc =>
    cases e1 with | iface _ f1 => cases e2 with | iface _ f2 =>
      cases f1; cases f2
      obtain ⟨j, hj, hjc⟩ := Option.map_eq_some_iff.1 hc
      rename_i t k a b
      simp [Op.equalIn, Sem.run_bind, run_underlying hu, run_underlying hu', run_typeInfo w hj, hjc]
      rfl
theorem IfEq.guard {P : Program} {op : BinOp} {xt : TypeId} {u1 u2 v1 v2 : Value} {r : Bool} {s : Inj} (h : IfEq P u1 u2 r) (e1 : VR s u1 v1) (e2 : VR s u2 v2) (w : World) : (eqGuard op xt x y v1 v2).run P w = .ok () w := by
  cases h <;> cases e1 <;> cases e2 <;> cases op <;> simp [eqGuard]
theorem ov_ifEq {xt yt : TypeId} {ms : Array (String × TypeId)} {u1 u2 : Value} {r : Bool} (hop : o.op = .binOp .eql xt x y yt) (hx : okOpd P.globals.size x = true) (hy : okOpd P.globals.size y = true) (hu : P.underlying xt = some (.interface ms))
    (h1 : ρ.eval x = u1) (h2 : ρ.eval y = u2) (h : IfEq P u1 u2 r) : OpV P o ρ aw (.bool r) aw :=
  opv_bin hop hx hy h1 h2 (fun s v1 v2 w e1 e2 => by
    have a1 := h.guard (x := x) (y := y) (op := .eql) (xt := xt) e1 e2 w
    have a2 := h.run hu e1 e2 w
    have a3 : (binOp .eql xt v1 v2).run P w = .ok (.bool r) w := by
      cases h <;> cases e1 <;> cases e2 <;> simp only [binOp, Sem.run_bind, Sem.run_pure] <;> rw [a2] <;> rfl
    simp only [Sem.run_bind, a1, Result.andThen_ok, a3]) rfl
theorem ov_ifNe {xt yt : TypeId} {ms : Array (String × TypeId)} {u1 u2 : Value} {r : Bool} (hop : o.op = .binOp .neq xt x y yt) (hx : okOpd P.globals.size x = true) (hy : okOpd P.globals.size y = true) (hu : P.underlying xt = some (.interface ms))
    (h1 : ρ.eval x = u1) (h2 : ρ.eval y = u2) (h : IfEq P u1 u2 r) : OpV P o ρ aw (.bool (!r)) aw :=
  opv_bin hop hx hy h1 h2 (fun s v1 v2 w e1 e2 => by
    have a1 := h.guard (x := x) (y := y) (op := .neq) (xt := xt) e1 e2 w
    have a2 := h.run hu e1 e2 w
    have a3 : (binOp .neq xt v1 v2).run P w = .ok (.bool (!r)) w := by
      cases h <;> cases e1 <;> cases e2 <;> simp only [binOp, Sem.run_bind, Sem.run_pure] <;> rw [a2] <;> rfl
    simp only [Sem.run_bind, a1, Result.andThen_ok, a3]) rfl
/-- where the bytes of a slice lie -/
def usdV : Value → Value
  | .slice (some a) _ _ => .pointer (some a)
  | _ => .pointer none
def usd (v : Value) (K : Value → Prop) : Prop := ∃ p, ((∃ b i l c, v = .slice (some ⟨b, i, none⟩) l c ∧ 0 < l) ∨ v = .slice none 0 0) ∧ p = usdV v ∧ K p
theorem ov_usd {at' : Array TypeId} (hop : o.op = .call { callee := .builtin .unsafeSliceData, args := #[x], argTypes := at' }) (hx : okOpd P.globals.size x = true) (h1 : ρ.eval x = v)
    (hv : (∃ b i l c, v = .slice (some ⟨b, i, none⟩) l c ∧ 0 < l) ∨ v = .slice none 0 0) (hp : p = usdV v) : OpV P o ρ aw p aw := by
  intro base w0 s f w hr hf
  subst hp
  have e1 := hf x hx; rw [h1] at e1
  rcases hv with ⟨b, i, l, c, rfl, hl⟩ | rfl
  · obtain ⟨a', c', q1, q2, q3, q4⟩ := e1.slice_inv
    obtain ⟨e, q5, q6, q7⟩ := q4 (by omega)
    have := Lib.run_unsafeSliceData_row (P := P) w at' o.type a' l c' (by omega)
    refine ⟨_, .pointer (some a'), w, s, ?_, .inl rfl, Inj.le_refl s, hr, by rw [q6]; exact .ptr q5⟩
    simp only [execOp, hop, resolve, Sem.run_bind, Sem.run_pure, Result.andThen_ok, invoke, builtin, List.map_toArray, List.map_cons, List.map_nil, q1]
    rw [this]; rfl
  · have q1 : f x = .slice none 0 0 := by generalize f x = q at e1; cases e1; rfl
    have := Lib.run_unsafeSliceData_nil (P := P) w at' o.type 0 0
    refine ⟨_, .pointer none, w, s, ?_, .inl rfl, Inj.le_refl s, hr, .nilptr⟩
    simp only [execOp, hop, resolve, Sem.run_bind, Sem.run_pure, Result.andThen_ok, invoke, builtin, List.map_toArray, List.map_cons, List.map_nil, q1]
    rw [this]; rfl

/-- bytes that become a text: the block is not written any more -/
theorem Rel.freeze {G base : Nat} {w0 : World} {s : Inj} {w : World} (hr : Rel G base w0 s aw w) {b : Nat} {B : Blk} {e : Ent} (hB : aw.m b = some B) (hrw : B.rw = true) (he : s b = some e) (k n : Nat) :
    Rel G base w0 s (aw.kill b) (w.freeze ⟨e.cb, k, none⟩ n) := by
  have hk := hr.kill b
  obtain ⟨e', cs, fz, g1, g2, g3, g4, g5, g6, g7⟩ := hr.blk b B hB
  rw [he] at g1; obtain rfl := Option.some.inj g1
  obtain ⟨g8, _⟩ := g7 hrw
  have hheap : ∀ j, j ≠ e.cb → (w.freeze ⟨e.cb, k, none⟩ n).heap[j]? = w.heap[j]? := by
    intro j hj
    unfold World.freeze
    split
    · rfl
    · simp only [Array.getElem?_modify]
      rw [if_neg (fun h => hj h.symm)]
  have hsz : (w.freeze ⟨e.cb, k, none⟩ n).heap.size = w.heap.size := by
    unfold World.freeze
    split
    · rfl
    · simp
  refine ⟨hk.fresh, hk.mfresh, ?_, hk.sep, by rw [hsz]; exact hk.hbase, hk.glob, Lib.below_freeze hk.below g8 n⟩
  intro c C hC
  have hC' : aw.m c = some C ∧ c ≠ b := by
    simp only [AW.kill] at hC
    split at hC
    · simp at hC
    · rename_i h; exact ⟨hC, h⟩
  obtain ⟨e2, cs2, fz2, k1, k2, k3, k4, k5, k6, k7⟩ := hk.blk c C hC
  have hne : e.cb ≠ e2.cb := hr.sep b c B C e e2 (fun h => hC'.2 h.symm) hB hC'.1 he k1 hrw
  exact ⟨e2, cs2, fz2, k1, k2, by rw [hheap _ (fun h => hne h.symm)]; exact k3, k4, k5, k6, k7⟩
def uStr (P : Program) (aw : AW) (E : Nat) (p : Value) (n : Int) (K : ByteArray → AW → Prop) : Prop :=
  ∃ s aw', ((n = 0 ∧ (∃ q, p = .pointer q) ∧ s = ByteArray.empty ∧ aw' = aw) ∨
    (∃ (l : List UInt8) (b : Nat) (B : Blk), l ≠ [] ∧ n = (l.length : Int) ∧ l.length < 2 ^ 62 ∧ p = .pointer (some ⟨b, 0, none⟩) ∧ aw.getN b 0 l.length = some (bytesV l) ∧ aw.m b = some B ∧ B.rw = true ∧ B.elem = E ∧ s = ⟨l.toArray⟩ ∧ aw' = aw.kill b)) ∧ K s aw'
theorem bytesV_inv {s : Inj} : ∀ {l : List UInt8} {cs : List Value}, VRs s (bytesV l) cs → cs = bytesV l
  | [], _, .nil => rfl
  | a :: l, _, .cons h t => by
    have := bytesV_inv (l := l) t
    cases h; subst this; rfl
theorem ov_ustr {E pt it : TypeId} {s : ByteArray} {n : Int} (hop : o.op = .call { callee := .builtin .unsafeString, args := #[x, y], argTypes := #[pt, it] }) (hx : okOpd P.globals.size x = true) (hy : okOpd P.globals.size y = true)
    (hu : P.underlying pt = some (.pointer E)) (hc1 : P.cellsOf E = 1) (h1 : ρ.eval x = p) (h2 : ρ.eval y = .int .i64 n)
    (h : (n = 0 ∧ (∃ q, p = .pointer q) ∧ s = ByteArray.empty ∧ aw' = aw) ∨
    (∃ (l : List UInt8) (b : Nat) (B : Blk), l ≠ [] ∧ n = (l.length : Int) ∧ l.length < 2 ^ 62 ∧ p = .pointer (some ⟨b, 0, none⟩) ∧ aw.getN b 0 l.length = some (bytesV l) ∧ aw.m b = some B ∧ B.rw = true ∧ B.elem = E ∧ s = ⟨l.toArray⟩ ∧ aw' = aw.kill b)) :
    OpV P o ρ aw (.string s) aw' := by
  intro base w0 σ f w hr hf
  have e1 := hf x hx; rw [h1] at e1
  have e2 := hf y hy; rw [h2] at e2
  have q2 := e2.int_inv
  rcases h with ⟨rfl, ⟨q, rfl⟩, rfl, rfl⟩ | ⟨l, b, B, hl, rfl, hl2, rfl, hg, hB, hrw, hE, rfl, rfl⟩
  · obtain ⟨q', q1⟩ : ∃ q', f x = .pointer q' := by generalize f x = z at e1; cases e1 <;> exact ⟨_, rfl⟩
    have := Lib.run_unsafeString_none (P := P) w pt it o.type q'
    refine ⟨_, .string ByteArray.empty, w, σ, ?_, .inl rfl, Inj.le_refl σ, hr, .string _⟩
    simp only [execOp, hop, resolve, Sem.run_bind, Sem.run_pure, Result.andThen_ok, invoke, builtin, List.map_toArray, List.map_cons, List.map_nil, q1, q2]
    rw [this]; rfl
  · obtain ⟨e, he, q1⟩ := e1.ptr_inv
    obtain ⟨e', cs, fz, g1, g2, g3, g4, g5, g6, g7⟩ := hr.blk b B hB
    rw [he] at g1; obtain rfl := Option.some.inj g1
    have ho := g2.2.1 hrw
    obtain ⟨cs', k1, k2⟩ := hr.cellsN he hg
    have k3 := bytesV_inv k1
    have hll : B.cells.length ≥ l.length := by
      have hlast : aw.get b (l.length - 1) ≠ none := by
        intro hn
        obtain ⟨u, hu1⟩ : ∃ u, (bytesV l)[l.length - 1]? = some u := by
          have : l.length - 1 < (bytesV l).length := by
            have := List.length_pos_iff.2 hl
            simp [bytesV]; omega
          exact ⟨_, List.getElem?_eq_getElem this⟩
        have h9 := AW.getN_get hg hu1
        simp only [Nat.zero_add] at h9
        rw [hn] at h9; simp at h9
      simp only [AW.get, hB, Option.bind_some, ne_eq] at hlast
      have hlt : l.length - 1 < B.cells.length := by
        rcases Nat.lt_or_ge (l.length - 1) B.cells.length with h' | h'
        · exact h'
        · exact absurd (List.getElem?_eq_none h') hlast
      have := List.length_pos_iff.2 hl
      omega
    have hrun := Lib.run_unsafeString_row (P := P) w pt it o.type E hu hc1 e.cb cs.size (by simp [World.shape?, g3, hE]) l hl (by omega) (by omega) (fun j z hz => by
      have := k2 j (.int .u8 z.toNat) (by rw [k3]; simp [bytesV, hz])
      rw [Addr.add_lit]
      simpa [ho] using this)
    refine ⟨_, .string ⟨l.toArray⟩, _, σ, ?_, .inl rfl, Inj.le_refl σ, hr.freeze hB hrw he 0 l.length, .string _⟩
    simp only [execOp, hop, resolve, Sem.run_bind, Sem.run_pure, Result.andThen_ok, invoke, builtin, List.map_toArray, List.map_cons, List.map_nil, q1, q2, ho, Nat.add_zero]
    rw [hrun]; rfl
end
end Go.Am
