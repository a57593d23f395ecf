/- Operations, one by one: values, memory. -/
import Derived.Test.YtfoceofohlpafaaDoorAm2
import Derived.Laws.Strings
set_option linter.unusedSectionVars false
namespace Go.Am
open Go Go.RowKit
variable [SymE]

theorem VR.bool_inv {s : Inj} {b : Bool} {v : Value} (h : VR s (.bool b) v) : v = .bool b := by cases h; rfl
theorem VR.int_inv {s : Inj} {k : IntKind} {n : Int} {v : Value} (h : VR s (.int k n) v) : v = .int k n := by cases h; rfl
theorem VR.string_inv {s : Inj} {x : ByteArray} {v : Value} (h : VR s (.string x) v) : v = .string x := by cases h; rfl
theorem VR.ptr_inv {s : Inj} {b i : Nat} {v : Value} (h : VR s (.pointer (some ⟨b, i, none⟩)) v) : ∃ e, s b = some e ∧ v = .pointer (some ⟨e.cb, e.off + i, none⟩) := by
  cases h with | ptr h => exact ⟨_, h, rfl⟩
theorem VR.nilptr_inv {s : Inj} {v : Value} (h : VR s (.pointer none) v) : v = .pointer none := by cases h; rfl
theorem VR.agg_inv {s : Inj} {xs : Array Value} {v : Value} (h : VR s (.agg xs) v) : ∃ ys, v = .agg ys ∧ VRs s xs.toList ys.toList := by
  cases h with | agg h => exact ⟨_, rfl, h⟩
theorem VR.tuple_inv {s : Inj} {xs : Array Value} {v : Value} (h : VR s (.tuple xs) v) : ∃ ys, v = .tuple ys ∧ VRs s xs.toList ys.toList := by
  cases h with | tuple h => exact ⟨_, rfl, h⟩
theorem VR.iface_inv {s : Inj} {t : TypeId} {x v : Value} (h : VR s (.iface t x) v) : ∃ y, v = .iface t y ∧ VR s x y := by
  cases h with | iface _ h => exact ⟨_, rfl, h⟩
theorem VR.nilIface_inv {s : Inj} {v : Value} (h : VR s .nilIface v) : v = .nilIface := by cases h; rfl
theorem VR.func_inv {s : Inj} {fn : Fn} {a c : Array Value} {v : Value} (h : VR s (.func fn a c) v) : ∃ a' c', v = .func fn a' c' ∧ VRs s a.toList a'.toList ∧ VRs s c.toList c'.toList := by
  cases h with | func _ h1 h2 => exact ⟨_, _, rfl, h1, h2⟩

/-- one cell? -/
def one (v : Value) : Bool := v.oneCell'
theorem VR.one {s : Inj} {v v' : Value} (h : VR s v v') : v'.oneCell' = v.oneCell' := by
  cases h <;> first | rfl | skip
  rename_i i
  rcases SymE.leaf i with ⟨k, n, e⟩ | ⟨x, e⟩ <;> rw [e] <;> rfl
theorem VR.cells {s : Inj} {v v' : Value} (h : VR s v v') : VRs s v.cells.toList v'.cells.toList := by
  cases h with
  | agg h => exact h
  | bool b => exact .cons (.bool b) .nil
  | int k n => exact .cons (.int k n) .nil
  | float k n => exact .cons (.float k n) .nil
  | string x => exact .cons (.string x) .nil
  | nilptr => exact .cons .nilptr .nil
  | ptr h => exact .cons (.ptr h) .nil
  | nilslice => exact .cons .nilslice .nil
  | slice h1 h2 h3 => exact .cons (.slice h1 h2 h3) .nil
  | nilmap => exact .cons .nilmap .nil
  | func fn h1 h2 => exact .cons (.func fn h1 h2) .nil
  | nilFunc => exact .cons .nilFunc .nil
  | iface t h => exact .cons (.iface t h) .nil
  | nilIface => exact .cons .nilIface .nil
  | tuple h => exact .cons (.tuple h) .nil
  | sym i =>
    have hc : (SymE.E i).cells = #[SymE.E i] := by rcases SymE.leaf i with ⟨k, n, e⟩ | ⟨x, e⟩ <;> rw [e] <;> rfl
    rw [hc]
    exact .cons (.sym i) .nil

section
variable {P : Program} {ρ : Env} {aw aw' : AW} {o : Oper} {v : Value}

/-- the plain way: no memory is touched -/
theorem opv_pure (h : ∀ (s : Inj) (f : Operand → Value) (w : World), (∀ x, okOpd P.globals.size x = true → VR s (ρ.eval x) (f x)) →
      ∃ v', (execOp f o).run P w = .ok (.value v') w ∧ VR s v v') : OpV P o ρ aw v aw := by
  intro base w0 s f w hr hf
  obtain ⟨v', h1, h2⟩ := h s f w hf
  exact ⟨_, v', w, s, h1, .inl rfl, Inj.le_refl s, hr, h2⟩

theorem opv_move {x : Operand} (hop : o.op = .move x) (hok : okOpd P.globals.size x = true) (hx : ρ.eval x = v) : OpV P o ρ aw v aw :=
  opv_pure fun s f w hf => ⟨f x, by simp [execOp, hop], by rw [← hx]; exact hf x hok⟩
theorem opv_assign {x : Operand} (hop : o.op = .assign x) (hok : okOpd P.globals.size x = true) (hx : ρ.eval x = v) : OpV P o ρ aw v aw :=
  opv_pure fun s f w hf => ⟨f x, by simp [execOp, hop], by rw [← hx]; exact hf x hok⟩
theorem opv_pick {c x y : Operand} {b : Bool} (hop : o.op = .pick c x y) (hc : okOpd P.globals.size c = true) (hx : okOpd P.globals.size x = true)
    (hy : okOpd P.globals.size y = true) (h : ρ.eval c = .bool b) (hv : (if b then ρ.eval x else ρ.eval y) = v) : OpV P o ρ aw v aw :=
  opv_pure fun s f w hf => by
    have h1 := hf c hc
    rw [h] at h1
    refine ⟨if b then f x else f y, by simp [execOp, hop, VR.bool_inv h1, asBool], ?_⟩
    subst hv
    cases b
    · simpa using hf y hy
    · simpa using hf x hx

/-! arithmetic -/
theorem opv_arith {op : BinOp} {xt yt : TypeId} {x y : Operand} {k : IntKind} {m n : Int} {r : Value} (hop : o.op = .binOp op xt x y yt)
    (hx : okOpd P.globals.size x = true) (hy : okOpd P.globals.size y = true) (h1 : ρ.eval x = .int k m) (h2 : ρ.eval y = .int k n)
    (hr : ∀ w, (do eqGuard op xt x y (.int k m) (.int k n); binOp op xt (.int k m) (.int k n) : Sem Value).run P w = .ok r w) (hp : plain r = true) (hv : r = v) : OpV P o ρ aw v aw :=
  opv_pure fun s f w hf => by
    have e1 := hf x hx; rw [h1] at e1
    have e2 := hf y hy; rw [h2] at e2
    refine ⟨r, ?_, ?_⟩
    · simp only [execOp, hop, VR.int_inv e1, VR.int_inv e2, Sem.run_bind]
      have := hr w
      simp only [Sem.run_bind] at this
      rw [this]; rfl
    · subst hv; exact VR.ofPlain hp
theorem run_eqGuard_int (op : BinOp) (t : TypeId) (x y : Operand) (k : IntKind) (m n : Int) (w : World) : (eqGuard op t x y (.int k m) (.int k n)).run P w = .ok () w := by
  unfold eqGuard
  cases op <;> simp
theorem run_eqGuard_str (op : BinOp) (t : TypeId) (x y : Operand) (a b : ByteArray) (w : World) : (eqGuard op t x y (.string a) (.string b)).run P w = .ok () w := by
  unfold eqGuard
  cases op <;> simp

variable {xt yt : TypeId} {x y : Operand} {k : IntKind} {m n : Int}
theorem opv_add (hop : o.op = .binOp .add xt x y yt) (hx : okOpd P.globals.size x = true) (hy : okOpd P.globals.size y = true) (h1 : ρ.eval x = .int k m) (h2 : ρ.eval y = .int k n) :
    OpV P o ρ aw (.int k (k.wrap (m + n))) aw := opv_arith hop hx hy h1 h2 (fun w => by simp [run_eqGuard_int, binOp, Op.intArith]) rfl rfl
theorem opv_sub (hop : o.op = .binOp .sub xt x y yt) (hx : okOpd P.globals.size x = true) (hy : okOpd P.globals.size y = true) (h1 : ρ.eval x = .int k m) (h2 : ρ.eval y = .int k n) :
    OpV P o ρ aw (.int k (k.wrap (m - n))) aw := opv_arith hop hx hy h1 h2 (fun w => by simp [run_eqGuard_int, binOp, Op.intArith]) rfl rfl
theorem opv_mul (hop : o.op = .binOp .mul xt x y yt) (hx : okOpd P.globals.size x = true) (hy : okOpd P.globals.size y = true) (h1 : ρ.eval x = .int k m) (h2 : ρ.eval y = .int k n) :
    OpV P o ρ aw (.int k (k.wrap (m * n))) aw := opv_arith hop hx hy h1 h2 (fun w => by simp [run_eqGuard_int, binOp, Op.intArith]) rfl rfl
theorem opv_quo (hop : o.op = .binOp .quo xt x y yt) (hx : okOpd P.globals.size x = true) (hy : okOpd P.globals.size y = true) (h1 : ρ.eval x = .int k m) (h2 : ρ.eval y = .int k n) (h0 : n ≠ 0) :
    OpV P o ρ aw (.int k (k.wrap (m.tdiv n))) aw := opv_arith hop hx hy h1 h2 (fun w => by simp [run_eqGuard_int, binOp, Op.intDiv, h0]) rfl rfl
theorem opv_rem (hop : o.op = .binOp .rem xt x y yt) (hx : okOpd P.globals.size x = true) (hy : okOpd P.globals.size y = true) (h1 : ρ.eval x = .int k m) (h2 : ρ.eval y = .int k n) (h0 : n ≠ 0) :
    OpV P o ρ aw (.int k (m.tmod n)) aw := opv_arith hop hx hy h1 h2 (fun w => by simp [run_eqGuard_int, binOp, Op.intDiv, h0]) rfl rfl
/-- bits of two numbers of one kind -/
def bitsOf (op : BinOp) (k : IntKind) (m n : Int) : Int :=
  let a := BitVec.ofInt k.bits m
  let b := BitVec.ofInt k.bits n
  k.wrap (match op with | .and => (a &&& b).toNat | .or => (a ||| b).toNat | .xor => (a ^^^ b).toNat | _ => (a &&& ~~~b).toNat)
theorem opv_and (hop : o.op = .binOp .and xt x y yt) (hx : okOpd P.globals.size x = true) (hy : okOpd P.globals.size y = true) (h1 : ρ.eval x = .int k m) (h2 : ρ.eval y = .int k n) :
    OpV P o ρ aw (.int k (bitsOf .and k m n)) aw := opv_arith hop hx hy h1 h2 (fun w => by simp [run_eqGuard_int, binOp, Op.intBits, bitsOf]) rfl rfl
theorem opv_or (hop : o.op = .binOp .or xt x y yt) (hx : okOpd P.globals.size x = true) (hy : okOpd P.globals.size y = true) (h1 : ρ.eval x = .int k m) (h2 : ρ.eval y = .int k n) :
    OpV P o ρ aw (.int k (bitsOf .or k m n)) aw := opv_arith hop hx hy h1 h2 (fun w => by simp [run_eqGuard_int, binOp, Op.intBits, bitsOf]) rfl rfl
theorem opv_xor (hop : o.op = .binOp .xor xt x y yt) (hx : okOpd P.globals.size x = true) (hy : okOpd P.globals.size y = true) (h1 : ρ.eval x = .int k m) (h2 : ρ.eval y = .int k n) :
    OpV P o ρ aw (.int k (bitsOf .xor k m n)) aw := opv_arith hop hx hy h1 h2 (fun w => by simp [run_eqGuard_int, binOp, Op.intBits, bitsOf]) rfl rfl
theorem opv_andNot (hop : o.op = .binOp .andNot xt x y yt) (hx : okOpd P.globals.size x = true) (hy : okOpd P.globals.size y = true) (h1 : ρ.eval x = .int k m) (h2 : ρ.eval y = .int k n) :
    OpV P o ρ aw (.int k (bitsOf .andNot k m n)) aw := opv_arith hop hx hy h1 h2 (fun w => by simp [run_eqGuard_int, binOp, Op.intBits, bitsOf]) rfl rfl
theorem opv_eqI (hop : o.op = .binOp .eql xt x y yt) (hx : okOpd P.globals.size x = true) (hy : okOpd P.globals.size y = true) (h1 : ρ.eval x = .int k m) (h2 : ρ.eval y = .int k n) :
    OpV P o ρ aw (.bool (decide (m = n))) aw := opv_arith hop hx hy h1 h2 (fun w => by simp [run_eqGuard_int, binOp, Op.intCmp]; rfl) rfl rfl
theorem opv_neI (hop : o.op = .binOp .neq xt x y yt) (hx : okOpd P.globals.size x = true) (hy : okOpd P.globals.size y = true) (h1 : ρ.eval x = .int k m) (h2 : ρ.eval y = .int k n) :
    OpV P o ρ aw (.bool (!decide (m = n))) aw := opv_arith hop hx hy h1 h2 (fun w => by simp [run_eqGuard_int, binOp, Op.intCmp]; rfl) rfl rfl
theorem opv_lt (hop : o.op = .binOp .lss xt x y yt) (hx : okOpd P.globals.size x = true) (hy : okOpd P.globals.size y = true) (h1 : ρ.eval x = .int k m) (h2 : ρ.eval y = .int k n) :
    OpV P o ρ aw (.bool (decide (m < n))) aw := opv_arith hop hx hy h1 h2 (fun w => by simp [run_eqGuard_int, binOp, Op.intCmp]) rfl rfl
theorem opv_le (hop : o.op = .binOp .leq xt x y yt) (hx : okOpd P.globals.size x = true) (hy : okOpd P.globals.size y = true) (h1 : ρ.eval x = .int k m) (h2 : ρ.eval y = .int k n) :
    OpV P o ρ aw (.bool (decide (m ≤ n))) aw := opv_arith hop hx hy h1 h2 (fun w => by simp [run_eqGuard_int, binOp, Op.intCmp]) rfl rfl
theorem opv_gt (hop : o.op = .binOp .gtr xt x y yt) (hx : okOpd P.globals.size x = true) (hy : okOpd P.globals.size y = true) (h1 : ρ.eval x = .int k m) (h2 : ρ.eval y = .int k n) :
    OpV P o ρ aw (.bool (decide (n < m))) aw := opv_arith hop hx hy h1 h2 (fun w => by simp [run_eqGuard_int, binOp, Op.intCmp]) rfl rfl
theorem opv_ge (hop : o.op = .binOp .geq xt x y yt) (hx : okOpd P.globals.size x = true) (hy : okOpd P.globals.size y = true) (h1 : ρ.eval x = .int k m) (h2 : ρ.eval y = .int k n) :
    OpV P o ρ aw (.bool (decide (n ≤ m))) aw := opv_arith hop hx hy h1 h2 (fun w => by simp [run_eqGuard_int, binOp, Op.intCmp]) rfl rfl
/-- shifts -/
theorem opv_shift {op : BinOp} {yk : IntKind} {r : Value} (hop : o.op = .binOp op xt x y yt) (hx : okOpd P.globals.size x = true) (hy : okOpd P.globals.size y = true)
    (h1 : ρ.eval x = .int k m) (h2 : ρ.eval y = .int yk n) (hr : ∀ w, (do eqGuard op xt x y (.int k m) (.int yk n); binOp op xt (.int k m) (.int yk n) : Sem Value).run P w = .ok r w) (hp : plain r = true) (hv : r = v) : OpV P o ρ aw v aw :=
  opv_pure fun s f w hf => by
    have e1 := hf x hx; rw [h1] at e1
    have e2 := hf y hy; rw [h2] at e2
    refine ⟨r, ?_, ?_⟩
    · simp only [execOp, hop, VR.int_inv e1, VR.int_inv e2, Sem.run_bind]
      have := hr w
      simp only [Sem.run_bind] at this
      rw [this]; rfl
    · subst hv; exact VR.ofPlain hp
theorem opv_shl {yk : IntKind} (hop : o.op = .binOp .shl xt x y yt) (hx : okOpd P.globals.size x = true) (hy : okOpd P.globals.size y = true) (h1 : ρ.eval x = .int k m) (h2 : ρ.eval y = .int yk n) (h0 : 0 ≤ n) :
    OpV P o ρ aw (.int k (k.wrap (m * 2 ^ (min n.toNat k.bits)))) aw := opv_shift hop hx hy h1 h2 (fun w => by simp [eqGuard, binOp, Op.shift, show ¬ n < 0 by omega]) rfl rfl
theorem opv_shr {yk : IntKind} (hop : o.op = .binOp .shr xt x y yt) (hx : okOpd P.globals.size x = true) (hy : okOpd P.globals.size y = true) (h1 : ρ.eval x = .int k m) (h2 : ρ.eval y = .int yk n) (h0 : 0 ≤ n) :
    OpV P o ρ aw (.int k (m.fdiv (2 ^ (min n.toNat k.bits)))) aw := opv_shift hop hx hy h1 h2 (fun w => by simp [eqGuard, binOp, Op.shift, show ¬ n < 0 by omega]) rfl rfl
/-- two texts -/
theorem opv_str {op : BinOp} {a b : ByteArray} {r : Value} (hop : o.op = .binOp op xt x y yt) (hx : okOpd P.globals.size x = true) (hy : okOpd P.globals.size y = true)
    (h1 : ρ.eval x = .string a) (h2 : ρ.eval y = .string b) (hr : ∀ w, (do eqGuard op xt x y (.string a) (.string b); binOp op xt (.string a) (.string b) : Sem Value).run P w = .ok r w) (hp : plain r = true) (hv : r = v) : OpV P o ρ aw v aw :=
  opv_pure fun s f w hf => by
    have e1 := hf x hx; rw [h1] at e1
    have e2 := hf y hy; rw [h2] at e2
    refine ⟨r, ?_, ?_⟩
    · simp only [execOp, hop, VR.string_inv e1, VR.string_inv e2, Sem.run_bind]
      have := hr w
      simp only [Sem.run_bind] at this
      rw [this]; rfl
    · subst hv; exact VR.ofPlain hp
theorem toList_eq (a b : ByteArray) : (a.toList == b.toList) = decide (a = b) := by
  by_cases h : a = b
  · subst h; simp
  · have : a.toList ≠ b.toList := by
      intro e
      apply h
      rw [ByteArray.toList_eq, ByteArray.toList_eq] at e
      cases a; cases b
      simp only [ByteArray.mk.injEq]
      exact Array.toList_inj.1 e
    simp [h, this]
theorem opv_cat {a b : ByteArray} (hop : o.op = .binOp .add xt x y yt) (hx : okOpd P.globals.size x = true) (hy : okOpd P.globals.size y = true) (h1 : ρ.eval x = .string a) (h2 : ρ.eval y = .string b)
    (hs : a.size + b.size ≤ 2 ^ 62) : OpV P o ρ aw (.string (a ++ b)) aw := opv_str hop hx hy h1 h2 (fun w => by
      have : ¬ (((a.size + b.size : Nat) : Int) > IntKind.i64.max) := by
        have : IntKind.i64.max = 9223372036854775807 := rfl
        rw [this]; omega
      simp only [Sem.run_bind, run_eqGuard_str, Result.andThen_ok, binOp, Op.stringOp, if_neg this]; rfl) rfl rfl
theorem opv_eqS {a b : ByteArray} (hop : o.op = .binOp .eql xt x y yt) (hx : okOpd P.globals.size x = true) (hy : okOpd P.globals.size y = true) (h1 : ρ.eval x = .string a) (h2 : ρ.eval y = .string b) :
    OpV P o ρ aw (.bool (decide (a = b))) aw := opv_str hop hx hy h1 h2 (fun w => by simp only [Sem.run_bind, run_eqGuard_str, Result.andThen_ok, binOp, Op.stringOp, toList_eq]; rfl) rfl rfl
theorem opv_neS {a b : ByteArray} (hop : o.op = .binOp .neq xt x y yt) (hx : okOpd P.globals.size x = true) (hy : okOpd P.globals.size y = true) (h1 : ρ.eval x = .string a) (h2 : ρ.eval y = .string b) :
    OpV P o ρ aw (.bool (!decide (a = b))) aw := opv_str hop hx hy h1 h2 (fun w => by simp only [Sem.run_bind, run_eqGuard_str, Result.andThen_ok, binOp, Op.stringOp, toList_eq]; rfl) rfl rfl

/-! one operand -/
theorem opv_neg (hop : o.op = .unOp .neg xt x) (hx : okOpd P.globals.size x = true) (h1 : ρ.eval x = .int k m) : OpV P o ρ aw (.int k (k.wrap (-m))) aw :=
  opv_pure fun s f w hf => by
    have e1 := hf x hx; rw [h1] at e1
    exact ⟨_, by simp [execOp, hop, VR.int_inv e1, Op.unary, Op.intArith], VR.int _ _⟩
theorem opv_compl (hop : o.op = .unOp .xor xt x) (hx : okOpd P.globals.size x = true) (h1 : ρ.eval x = .int k m) : OpV P o ρ aw (.int k (bitsOf .xor k (if k.signed then -1 else k.max) m)) aw :=
  opv_pure fun s f w hf => by
    have e1 := hf x hx; rw [h1] at e1
    exact ⟨_, by simp [execOp, hop, VR.int_inv e1, Op.unary, Op.intBits, bitsOf], VR.int _ _⟩
theorem opv_not {b : Bool} (hop : o.op = .unOp .not xt x) (hx : okOpd P.globals.size x = true) (h1 : ρ.eval x = .bool b) : OpV P o ρ aw (.bool (!b)) aw :=
  opv_pure fun s f w hf => by
    have e1 := hf x hx; rw [h1] at e1
    exact ⟨_, by simp [execOp, hop, VR.bool_inv e1, Op.unary], VR.bool _⟩
theorem opv_conv {src dst : TypeId} {d : TypeDesc} {j : IntKind} (hop : o.op = .convert src dst x) (hx : okOpd P.globals.size x = true) (hs : P.underlying src = some d)
    (hd : P.underlying dst = some (.int j)) (h1 : ρ.eval x = .int k m) : OpV P o ρ aw (.int j (j.wrap m)) aw :=
  opv_pure fun s f w hf => by
    have e1 := hf x hx; rw [h1] at e1
    exact ⟨_, by simp [execOp, hop, VR.int_inv e1, convert, run_underlying hs, run_underlying hd, Conv.intToInt], VR.int _ _⟩
theorem opv_convS {src dst : TypeId} {d : TypeDesc} {a : ByteArray} (hop : o.op = .convert src dst x) (hx : okOpd P.globals.size x = true) (hs : P.underlying src = some d)
    (hd : P.underlying dst = some .string) (h1 : ρ.eval x = .string a) : OpV P o ρ aw (.string a) aw :=
  opv_pure fun s f w hf => by
    have e1 := hf x hx; rw [h1] at e1
    exact ⟨.string a, by simp [execOp, hop, VR.string_inv e1, convert, run_underlying hs, run_underlying hd], VR.string _⟩

/-! values of several parts; interfaces; functions -/
theorem opv_extract {vs : Array Value} {i : Nat} (hop : o.op = .extract x i) (hx : okOpd P.globals.size x = true) (h1 : ρ.eval x = .tuple vs) (hi : vs[i]? = some v) : OpV P o ρ aw v aw :=
  opv_pure fun s f w hf => by
    have e1 := hf x hx; rw [h1] at e1
    obtain ⟨ys, h2, h3⟩ := e1.tuple_inv
    obtain ⟨v', h4, h5⟩ := h3.get (i := i) (v := v) (by simpa using hi)
    exact ⟨v', by simp [execOp, hop, h2, Instr.extract, show ys[i]? = some v' by simpa using h4], h5⟩
theorem opv_mkIface {d : TypeDesc} (hop : o.op = .makeInterface xt x) (hx : okOpd P.globals.size x = true) (hu : P.underlying xt = some d) (hd : (match d with | .interface _ => false | _ => true) = true)
    (h1 : ρ.eval x = v) : OpV P o ρ aw (.iface xt v) aw :=
  opv_pure fun s f w hf => by
    have e1 := hf x hx; rw [h1] at e1
    refine ⟨.iface xt (f x), ?_, .iface _ e1⟩
    simp only [execOp, hop, Instr.makeInterface, Sem.run_bind, run_underlying hu, Result.andThen_ok]
    cases d <;> first | rfl | simp at hd
theorem evals {s : Inj} {f : Operand → Value} {G : Nat} (hf : ∀ x, okOpd G x = true → VR s (ρ.eval x) (f x)) : ∀ (l : List Operand), (l.all (okOpd G)) = true → VRs s (l.map ρ.eval) (l.map f)
  | [], _ => .nil
  | y :: l, h => by
    simp only [List.all_cons, Bool.and_eq_true] at h
    exact .cons (hf y h.1) (evals hf l h.2)
theorem opv_mkFunc {fn : Fn} {a c : Array Operand} (hop : o.op = .makeFunc fn a c) (ha : a.toList.all (okOpd P.globals.size) = true) (hc : c.toList.all (okOpd P.globals.size) = true) :
    OpV P o ρ aw (.func fn (a.map ρ.eval) (c.map ρ.eval)) aw :=
  opv_pure fun s f w hf => ⟨.func fn (a.map f) (c.map f), by simp [execOp, hop, Instr.makeFunc], .func _ (by simpa using evals hf _ ha) (by simpa using evals hf _ hc)⟩
theorem opv_nilCheckP {b i : Nat} (hop : o.op = .nilCheck x) (hx : okOpd P.globals.size x = true) (h1 : ρ.eval x = .pointer (some ⟨b, i, none⟩)) : OpV P o ρ aw (.pointer (some ⟨b, i, none⟩)) aw :=
  opv_pure fun s f w hf => by
    have e1 := hf x hx; rw [h1] at e1
    obtain ⟨e, h2, h3⟩ := e1.ptr_inv
    exact ⟨_, by simp [execOp, hop, h3], .ptr h2⟩
theorem opv_nilCheckF {g : FuncId} {a c : Array Value} (hop : o.op = .nilCheck x) (hx : okOpd P.globals.size x = true) (h1 : ρ.eval x = .func (.func g) a c) : OpV P o ρ aw (.func (.func g) a c) aw :=
  opv_pure fun s f w hf => by
    have e1 := hf x hx; rw [h1] at e1
    obtain ⟨a', c', h2, h3, h4⟩ := e1.func_inv
    exact ⟨_, by simp [execOp, hop, h2], .func _ h3 h4⟩

/-! parts of structs by value -/
theorem run_isAgg {P : Program} {t : TypeId} {d : TypeDesc} (h : P.underlying t = some d) (w : World) : (isAgg t).run P w = .ok (match d with | .struct _ | .array _ _ => true | _ => false) w := by
  simp only [isAgg, Sem.run_bind, run_underlying h, Result.andThen_ok]
  cases d <;> rfl
theorem run_sizeOf' {P : Program} {t : TypeId} {n : Nat} (h : (P.info? t).map (·.size) = some n) (w : World) : (sizeOf t).run P w = .ok n w := by
  cases hi : P.info? t with
  | none => simp [hi] at h
  | some i =>
    simp [hi] at h
    simp [sizeOf, run_typeInfo w hi, h]
def aggT (d : TypeDesc) : Bool := match d with | .struct _ | .array _ _ => true | _ => false
theorem opv_field1 {fs : Array Field} {fd : Field} {d : TypeDesc} {i : Nat} {cs : Array Value} (hop : o.op = .field xt x i) (hx : okOpd P.globals.size x = true) (hu : P.underlying xt = some (.struct fs)) (hf : fs[i]? = some fd)
    (hd : P.underlying fd.type = some d) (ha : aggT d = false) (h1 : ρ.eval x = .agg cs) (hv : cs[fd.offset]? = some v) : OpV P o ρ aw v aw :=
  opv_pure fun s f w hff => by
    have e1 := hff x hx; rw [h1] at e1
    obtain ⟨ys, h2, h3⟩ := e1.agg_inv
    obtain ⟨v', h4, h5⟩ := h3.get (i := fd.offset) (v := v) (by simpa using hv)
    have h4' : ys[fd.offset]? = some v' := by simpa using h4
    refine ⟨v', ?_, h5⟩
    simp only [execOp, hop, Instr.field, Sem.run_bind, run_underlying hu, Result.andThen_ok, hf, h2, asAgg, Sem.run_pure, part, run_isAgg hd]
    cases d <;> simp_all [aggT]
theorem opv_fieldN {fs : Array Field} {fd : Field} {d : TypeDesc} {i n : Nat} {cs : Array Value} (hop : o.op = .field xt x i) (hx : okOpd P.globals.size x = true) (hu : P.underlying xt = some (.struct fs)) (hf : fs[i]? = some fd)
    (hd : P.underlying fd.type = some d) (ha : aggT d = true) (hn : (P.info? fd.type).map (·.size) = some n) (h1 : ρ.eval x = .agg cs) (hv : .agg (cs.extract fd.offset (fd.offset + n)) = v) : OpV P o ρ aw v aw :=
  opv_pure fun s f w hff => by
    have e1 := hff x hx; rw [h1] at e1
    obtain ⟨ys, h2, h3⟩ := e1.agg_inv
    refine ⟨.agg (ys.extract fd.offset (fd.offset + n)), ?_, ?_⟩
    · simp only [execOp, hop, Instr.field, Sem.run_bind, run_underlying hu, Result.andThen_ok, hf, h2, asAgg, Sem.run_pure, part, run_isAgg hd]
      have hsz := run_sizeOf' hn w
      cases d <;> simp_all [aggT]
    · subst hv
      refine .agg ?_
      simp only [Array.toList_extract, List.extract_eq_take_drop]
      exact (h3.drop _).take _
end
end Go.Am
