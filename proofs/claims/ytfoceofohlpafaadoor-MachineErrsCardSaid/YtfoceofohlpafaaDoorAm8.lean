/- Bytes and texts; what is alike; types; regions whose order is open. -/
import Derived.Test.YtfoceofohlpafaaDoorAm7
import Derived.Lib.ConvBytes
import Derived.Laws.BytesString
set_option linter.unusedSimpArgs false
set_option linter.unusedVariables false
set_option linter.unusedSectionVars false
namespace Go.Am
open Go Go.RowKit
variable [SymE]

def bytesV (l : List UInt8) : List Value := l.map fun b => .int .u8 b.toNat

mutual
theorem VR.eq_of_plain {s : Inj} : ∀ {v v' : Value}, VR s v v' → plain v = true → v' = v
  | _, _, .bool b, _ => rfl
  | _, _, .int k n, _ => rfl
  | _, _, .float k n, _ => rfl
  | _, _, .string x, _ => rfl
  | _, _, .nilptr, _ => rfl
  | _, _, .ptr h, hp => by simp [plain] at hp
  | _, _, .nilslice, _ => rfl
  | _, _, .slice hl hc h, hp => by simp [plain] at hp
  | _, _, .nilmap, _ => rfl
  | _, _, .func (f1 := ⟨a⟩) (f2 := ⟨b⟩) (c1 := ⟨c⟩) (c2 := ⟨d⟩) fn hf hc, hp => by
    simp only [plain, Bool.and_eq_true] at hp
    have := hf.eq_of_plains hp.1; simp only at this; subst this
    have := hc.eq_of_plains hp.2; simp only at this; subst this; rfl
  | _, _, .nilFunc, _ => rfl
  | _, _, .iface t h, hp => by rw [h.eq_of_plain (by simpa [plain] using hp)]
  | _, _, .nilIface, _ => rfl
  | _, _, .agg (xs := ⟨a⟩) (ys := ⟨b⟩) h, hp => by
    have := h.eq_of_plains (by simpa [plain] using hp); simp only at this; subst this; rfl
  | _, _, .tuple (xs := ⟨a⟩) (ys := ⟨b⟩) h, hp => by
    have := h.eq_of_plains (by simpa [plain] using hp); simp only at this; subst this; rfl
theorem VRs.eq_of_plains {s : Inj} : ∀ {v v' : List Value}, VRs s v v' → plains v = true → v' = v
  | _, _, .nil, _ => rfl
  | _, _, .cons h t, hp => by
    simp only [plains, Bool.and_eq_true] at hp
    rw [h.eq_of_plain hp.1, t.eq_of_plains hp.2]
end

section
variable {P : Program} {ρ : Env} {aw aw' : AW} {o : Oper} {v xv sv : Value} {x y : Operand} {t el sT xT xt yt : TypeId} {d dx : TypeDesc} {b i n l c size bytes : Nat} {cs os : List Value} {z : Value} {at' : Array TypeId}

theorem opv_toBytes {src dst e : TypeId} {a : ByteArray} (hop : o.op = .convert src dst x) (hx : okOpd P.globals.size x = true) (hs : P.underlying src = some d) (hd : P.underlying dst = some (.slice e))
    (he : P.underlying e = some (.int .u8)) (h1 : ρ.eval x = .string a) : OpV P o ρ aw (.slice (some ⟨aw.next, 0, none⟩) a.size UNK) (aw.alloc (bytesV a.data.toList) e 1) := by
  intro base w0 s f w hr hf
  have e1 := hf x hx; rw [h1] at e1
  obtain ⟨N, hN⟩ : ∃ N, N = (Question.appendCap a.size 0 e).cut (w.tape w.drawn (.appendCap a.size 0 e)) := ⟨_, rfl⟩
  have hle : a.size ≤ N := by rw [hN]; simp only [Question.cut]; omega
  obtain ⟨C, hC⟩ : ∃ C : Array Value, C = (a.data.map fun b => Value.int .u8 b.toNat) ++ Array.replicate (N - a.size) (.int .u8 0) := ⟨_, rfl⟩
  have hds : a.data.size = a.size := rfl
  have hCs : C.size = N := by rw [hC]; simp [hds]; omega
  obtain ⟨s', k1, k2, k3⟩ := hr.drew.alloc (cells := bytesV a.data.toList) (cs := C) e 1 (by rw [hCs]; simp only [bytesV, List.length_map, Array.length_toList]; exact hle) (by omega) (fun j u hj => by
    refine ⟨u, ?_, ?_⟩
    · have hlt := (List.getElem?_eq_some_iff.1 hj).1
      simp only [bytesV, List.length_map, Array.length_toList] at hlt
      rw [hC, Array.getElem?_append_left (by simpa using hlt), ← Array.getElem?_toList]
      simpa [bytesV] using hj
    · simp only [bytesV, List.getElem?_map] at hj
      cases hq : a.data.toList[j]? with
      | none => rw [hq] at hj; simp at hj
      | some q => rw [hq] at hj; simp only [Option.map_some, Option.some.injEq] at hj; subst hj; exact .int _ _) (C.size, C.size + 1) (fun j hj h => by omega)
  refine ⟨_, .slice (some ⟨w.heap.size, 0, none⟩) a.size N, _, s', ?_, .inl rfl, k1, k3, .slice hle (fun h => absurd h (Nat.lt_irrefl _)) fun _ => ⟨_, k2, rfl, fun _ => by simp [hCs]⟩⟩
  have hq : (Question.appendCap a.size 0 e).forced = false := rfl
  have hsh : (w.drew.alloc (.cells C e)).shape? w.heap.size = some (e, C.size) := by
    have hlt : w.heap.size < (w.drew.heap.push (.cells C e)).size := by simp [World.size_drew]
    simp only [World.shape?, World.alloc]
    rw [show (w.drew.heap.push (.cells C e))[w.heap.size]? = some (.cells C e) from Array.getElem?_push_size]
  simp only [execOp, hop, VR.string_inv e1, convert, Sem.run_bind, run_underlying hs, run_underlying hd, run_underlying he, Result.andThen_ok, Conv.stringToBytes, run_choose, hq, Bool.false_eq_true, if_false, World.drew_eq, ← hN, run_newRow, ← hC,
    World.size_drew, markStringish, run_shape, hsh, run_freeze, Sem.run_pure, freeze_alloc]
  have := freeze_alloc w.drew C e
  simp only [World.size_drew] at this
  rw [this]

theorem push_all (l : List UInt8) : (l.map fun b => (b.toNat : Int)).foldl (fun (r : ByteArray) (n : Int) => r.push (UInt8.ofNat n.toNat)) ByteArray.empty = ⟨l.toArray⟩ := by
  have : ∀ (l : List UInt8) (s : ByteArray), (l.map fun b => (b.toNat : Int)).foldl (fun (r : ByteArray) (n : Int) => r.push (UInt8.ofNat n.toNat)) s = ⟨s.data ++ l.toArray⟩ := by
    intro l
    induction l with
    | nil => intro s; simp
    | cons a l ih =>
      intro s
      simp only [List.map_cons, List.foldl_cons]
      rw [ih]
      congr 1
      apply Array.toList_inj.1
      simp [ByteArray.data_push]
  rw [this]
  congr 1
  apply Array.toList_inj.1
  simp
theorem opv_toStr {src dst e : TypeId} {l : List UInt8} (hop : o.op = .convert src dst x) (hx : okOpd P.globals.size x = true) (hs : P.underlying src = some (.slice e)) (hd : P.underlying dst = some .string)
    (he : P.underlying e = some (.int .u8)) (h1 : ρ.eval x = xv) (hl : Src aw 1 xv n (bytesV l)) (hsl : ∃ q m c, xv = .slice q m c) : OpV P o ρ aw (.string ⟨l.toArray⟩) aw := by
  intro base w0 s f w hr hf
  obtain ⟨q, m, c, rfl⟩ := hsl
  have e1 := hf x hx; rw [h1] at e1
  obtain ⟨r1, cs', r2, r3⟩ := hl.run (P := P) hr e1
  have hcs : cs' = bytesV l := r2.eq_of_plains (plains_bytes l)
  subst hcs
  refine ⟨_, .string ⟨l.toArray⟩, w, s, ?_, .inl rfl, Inj.le_refl s, hr, .string _⟩
  have hlen := hl.length
  generalize hB : bytesV l = B at hl hlen r3
  cases hl with
  | @slice b i n c cs hg =>
    obtain ⟨a', c', q1, q2, q3, q4⟩ := e1.slice_inv
    have hld : (loadCells a' n).run P w = .ok B.toArray w := by
      rw [q1] at r3
      simpa [Builtin.firstCells] using r3
    have hfin : (Conv.bytesToString (.slice (some a') n c')).run P w = .ok (.string ⟨l.toArray⟩) w := by
      rw [run_bytesToString w a' n c' (l.map fun b => (b.toNat : Int)) (by rw [hld, ← hB]; simp [bytesV, List.map_map, Function.comp_def]), push_all]
    simp only [execOp, hop, q1, convert, Sem.run_bind, run_underlying hs, run_underlying hd, run_underlying he, Result.andThen_ok, hfin, Sem.run_pure]
  | nil =>
    have : l = [] := by
      rw [← hB] at hlen
      cases l with
      | nil => rfl
      | cons a l => simp [bytesV] at hlen
    subst this
    obtain ⟨_, _, q1⟩ := e1.nilslice_inv
    simp only [execOp, hop, q1, convert, Sem.run_bind, run_underlying hs, run_underlying hd, run_underlying he, Result.andThen_ok, Conv.bytesToString, Sem.run_pure]
    rfl

/-! what is alike -/
theorem opv_bin {op : BinOp} {u1 u2 r : Value} (hop : o.op = .binOp op xt x y yt) (hx : okOpd P.globals.size x = true) (hy : okOpd P.globals.size y = true) (h1 : ρ.eval x = u1) (h2 : ρ.eval y = u2)
    (hr : ∀ (s : Inj) (v1 v2 : Value) (w : World), VR s u1 v1 → VR s u2 v2 → (do eqGuard op xt x y v1 v2; binOp op xt v1 v2 : Sem Value).run P w = .ok r w) (hp : plain r = true) : OpV P o ρ aw r aw :=
  opv_pure fun s f w hf => by
    have e1 := hf x hx; rw [h1] at e1
    have e2 := hf y hy; rw [h2] at e2
    refine ⟨r, ?_, VR.ofPlain hp⟩
    have := hr s _ _ w e1 e2
    simp only [Sem.run_bind] at this
    simp only [execOp, hop, Sem.run_bind]
    rw [this]; rfl
theorem opv_binP {op : BinOp} {u1 u2 r : Value} (hop : o.op = .binOp op xt x y yt) (hx : okOpd P.globals.size x = true) (hy : okOpd P.globals.size y = true) (h1 : ρ.eval x = u1) (h2 : ρ.eval y = u2)
    (hp1 : plain u1 = true) (hp2 : plain u2 = true) (hr : ∀ (w : World), (do eqGuard op xt x y u1 u2; binOp op xt u1 u2 : Sem Value).run P w = .ok r w) (hp : plain r = true) : OpV P o ρ aw r aw :=
  opv_bin hop hx hy h1 h2 (fun s v1 v2 w e1 e2 => by rw [e1.eq_of_plain hp1, e2.eq_of_plain hp2]; exact hr w) hp
theorem equal_succ (t : TypeId) (x y : Value) : Op.equal t x y = Op.equalIn (9999 + 1) t x y := rfl
theorem run_equal_bool (hu : P.underlying xt = some .bool) (p q : Bool) (w : World) : (Op.equal xt (.bool p) (.bool q)).run P w = .ok (p == q) w := by
  rw [equal_succ]; generalize 9999 = k
  simp only [Op.equalIn, Sem.run_bind, run_underlying hu, Result.andThen_ok, Sem.run_pure]
theorem opv_eqB {p q : Bool} (hop : o.op = .binOp .eql xt x y yt) (hx : okOpd P.globals.size x = true) (hy : okOpd P.globals.size y = true) (hu : P.underlying xt = some .bool) (h1 : ρ.eval x = .bool p) (h2 : ρ.eval y = .bool q) :
    OpV P o ρ aw (.bool (p == q)) aw := opv_binP hop hx hy h1 h2 rfl rfl (fun w => by
      have : binOp .eql xt (.bool p) (.bool q) = (do pure (.bool (← Op.equal xt (.bool p) (.bool q))) : Sem Value) := rfl
      rw [this]; simp only [eqGuard, Sem.run_bind, Sem.run_pure, Result.andThen_ok, run_equal_bool hu]; rfl) rfl
theorem opv_neB {p q : Bool} (hop : o.op = .binOp .neq xt x y yt) (hx : okOpd P.globals.size x = true) (hy : okOpd P.globals.size y = true) (hu : P.underlying xt = some .bool) (h1 : ρ.eval x = .bool p) (h2 : ρ.eval y = .bool q) :
    OpV P o ρ aw (.bool (!(p == q))) aw := opv_binP hop hx hy h1 h2 rfl rfl (fun w => by
      have : binOp .neq xt (.bool p) (.bool q) = (do pure (.bool (!(← Op.equal xt (.bool p) (.bool q)))) : Sem Value) := rfl
      rw [this]; simp only [eqGuard, Sem.run_bind, Sem.run_pure, Result.andThen_ok, run_equal_bool hu]; rfl) rfl
/-- a pointer, a slice, a function, an interface value, against nil -/
def isNil : Value → Option Bool
  | .pointer a => some a.isNone
  | .slice a _ _ => some a.isNone
  | .map a => some a.isNone
  | .nilFunc => some true
  | .func _ _ _ => some false
  | .nilIface => some true
  | .iface _ _ => some false
  | _ => none
def nilFits (d : TypeDesc) (u c : Value) : Bool := match d, u, c with
  | .pointer _, .pointer _, .pointer none => true
  | .slice _, .slice _ _ _, .slice none 0 0 => true
  | .map _ _, .map none, .map none => true
  | .func _ _ _, .nilFunc, .nilFunc => true
  | .func _ _ _, .func _ _ _, .nilFunc => true
  | .interface _, .nilIface, .nilIface => true
  | .interface _, .iface _ _, .nilIface => true
  | _, _, _ => false
theorem nilFits_plain {u cv : Value} (h : nilFits d u cv = true) : plain cv = true := by
  unfold nilFits at h
  split at h <;> first | (simp at h; done) | rfl
theorem run_equal_nil {u u' cv : Value} {s : Inj} (hu : P.underlying xt = some d) (hfit : nilFits d u cv = true) (hv : VR s u u') (w : World) :
    (Op.equal xt u' cv).run P w = .ok ((isNil u).getD false) w := by
  rw [equal_succ]; generalize 9999 = k
  unfold nilFits at hfit
  split at hfit <;> first | (simp at hfit; done) | skip
  all_goals (cases hv <;> simp only [Op.equalIn, Sem.run_bind, run_underlying hu, Result.andThen_ok, Sem.run_pure, isNil, Option.getD_some, Option.isNone_none, Option.isNone_some])
theorem run_guard_nil {op : BinOp} {u u' cv : Value} {s : Inj} (hop : op = .eql ∨ op = .neq) (hfit : nilFits d u cv = true) (hv : VR s u u') (w : World) :
    (eqGuard op xt x (.const cv) u' cv).run P w = .ok () w := by
  unfold nilFits at hfit
  split at hfit <;> first | (simp at hfit; done) | skip
  all_goals (rcases hop with rfl | rfl <;> cases hv <;> simp [eqGuard])
theorem binOp_nil {op : BinOp} {u u' cv : Value} {s : Inj} (hop : op = .eql ∨ op = .neq) (hfit : nilFits d u cv = true) (hv : VR s u u') :
    binOp op xt u' cv = (do let b ← Op.equal xt u' cv; pure (.bool (if op = .eql then b else !b)) : Sem Value) := by
  unfold nilFits at hfit
  split at hfit <;> first | (simp at hfit; done) | skip
  all_goals (rcases hop with rfl | rfl <;> cases hv <;> rfl)
theorem opv_eqNil {u cv : Value} (hop : o.op = .binOp .eql xt x (.const cv) yt) (hx : okOpd P.globals.size x = true) (hu : P.underlying xt = some d) (h1 : ρ.eval x = u) (hfit : nilFits d u cv = true) :
    OpV P o ρ aw (.bool ((isNil u).getD false)) aw :=
  opv_pure fun s f w hf => by
    have e1 := hf x hx; rw [h1] at e1
    have e2 : f (.const cv) = cv := (hf (.const cv) (nilFits_plain hfit)).eq_of_plain (nilFits_plain hfit)
    refine ⟨_, ?_, .bool _⟩
    simp only [execOp, hop, Sem.run_bind, e2, run_guard_nil (.inl rfl) hfit e1, Result.andThen_ok, binOp_nil (.inl rfl) hfit e1, run_equal_nil hu hfit e1, if_true, Sem.run_pure]
theorem opv_neNil {u cv : Value} (hop : o.op = .binOp .neq xt x (.const cv) yt) (hx : okOpd P.globals.size x = true) (hu : P.underlying xt = some d) (h1 : ρ.eval x = u) (hfit : nilFits d u cv = true) :
    OpV P o ρ aw (.bool (!(isNil u).getD false)) aw :=
  opv_pure fun s f w hf => by
    have e1 := hf x hx; rw [h1] at e1
    have e2 : f (.const cv) = cv := (hf (.const cv) (nilFits_plain hfit)).eq_of_plain (nilFits_plain hfit)
    refine ⟨_, ?_, .bool _⟩
    simp only [execOp, hop, Sem.run_bind, e2, run_guard_nil (.inr rfl) hfit e1, Result.andThen_ok, binOp_nil (.inr rfl) hfit e1, run_equal_nil hu hfit e1, Sem.run_pure]
    rfl

/-! types of interface values -/
def isIface (d : TypeDesc) : Bool := match d with | .interface _ => true | _ => false
theorem opv_assertYes {a : TypeId} {u : Value} {ok : Bool} (hop : o.op = .typeAssert x xt a ok) (hx : okOpd P.globals.size x = true) (hu : P.underlying a = some d) (hd : isIface d = false) (h1 : ρ.eval x = .iface a u) :
    OpV P o ρ aw (if ok then .tuple #[u, .bool true] else u) aw :=
  opv_pure fun s f w hf => by
    have e1 := hf x hx; rw [h1] at e1
    obtain ⟨u', h2, h3⟩ := e1.iface_inv
    refine ⟨if ok then .tuple #[u', .bool true] else u', ?_, ?_⟩
    · simp only [execOp, hop, h2, Instr.typeAssert, Sem.run_bind, run_underlying hu, Result.andThen_ok]
      cases d <;> simp_all [isIface]
    · cases ok
      · exact h3
      · exact .tuple (.cons h3 (.cons (.bool true) .nil))
theorem opv_assertNo {a q : TypeId} {u : Value} {zz : Value} (hop : o.op = .typeAssert x xt a true) (hx : okOpd P.globals.size x = true) (hu : P.underlying a = some d) (hd : isIface d = false) (hz : (P.info? a).bind (·.zero) = some zz) (hp : plain zz = true)
    (h1 : ρ.eval x = .iface q u) (hne : q ≠ a) : OpV P o ρ aw (.tuple #[zz, .bool false]) aw :=
  opv_pure fun s f w hf => by
    have e1 := hf x hx; rw [h1] at e1
    obtain ⟨u', h2, h3⟩ := e1.iface_inv
    have hzv := run_zeroValue' hz w
    refine ⟨.tuple #[zz, .bool false], ?_, .tuple (.cons (.ofPlain hp) (.cons (.bool false) .nil))⟩
    simp only [execOp, hop, h2, Instr.typeAssert, Sem.run_bind, run_underlying hu, Result.andThen_ok]
    cases d <;> simp_all [isIface]
theorem opv_assertNil {a : TypeId} {zz : Value} (hop : o.op = .typeAssert x xt a true) (hx : okOpd P.globals.size x = true) (hu : P.underlying a = some d) (hd : isIface d = false) (hz : (P.info? a).bind (·.zero) = some zz) (hp : plain zz = true)
    (h1 : ρ.eval x = .nilIface) : OpV P o ρ aw (.tuple #[zz, .bool false]) aw :=
  opv_pure fun s f w hf => by
    have e1 := hf x hx; rw [h1] at e1
    have hzv := run_zeroValue' hz w
    refine ⟨.tuple #[zz, .bool false], ?_, .tuple (.cons (.ofPlain hp) (.cons (.bool false) .nil))⟩
    simp only [execOp, hop, e1.nilIface_inv, Instr.typeAssert, Sem.run_bind, run_underlying hu, Result.andThen_ok]
    cases d <;> simp_all [isIface]
end
end Go.Am
