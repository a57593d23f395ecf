/- The abstract memory, values that read alike, the relation between an abstract memory and the model's world, and what each step of memory keeps. -/
import Derived.Orders
import Derived.Below
import Derived.Defers
import Derived.Laws.Cells
import Derived.Laws.IdiomCopy
import Derived.ChangeKeysEq
set_option linter.unusedSectionVars false
namespace Go.Am
open Go Go.RowKit

/-- Where an abstract block lies: the model's block, the first cell, how many cells that block has, cells per element. -/
structure Ent where
  cb : Nat
  off : Nat
  csize : Nat
  esz : Nat
abbrev Inj := Nat → Option Ent
/-- what the symbols stand for: numbers or texts -/
class SymE where
  E : Nat → Value
  leaf : ∀ i, (∃ k n, E i = .int k n) ∨ (∃ x, E i = .string x)
variable [SymE]
def Inj.le (s t : Inj) : Prop := ∀ b e, s b = some e → t b = some e
theorem Inj.le_refl (s : Inj) : s.le s := fun _ _ h => h
theorem Inj.le_trans {a b c : Inj} (h : a.le b) (k : b.le c) : a.le c := fun x e hx => k x e (h x e hx)
/-- from here on a capacity says 'not known' -/
def UNK : Nat := 2 ^ 64

mutual
inductive VR (s : Inj) : Value → Value → Prop
  | bool (b : Bool) : VR s (.bool b) (.bool b)
  | int (k : IntKind) (n : Int) : VR s (.int k n) (.int k n)
  | float (k : FloatKind) (n : Nat) : VR s (.float k n) (.float k n)
  | string (x : ByteArray) : VR s (.string x) (.string x)
  | nilptr : VR s (.pointer none) (.pointer none)
  | ptr {b o : Nat} {e : Ent} (h : s b = some e) : VR s (.pointer (some ⟨b, o, none⟩)) (.pointer (some ⟨e.cb, e.off + o, none⟩))
  | nilslice : VR s (.slice none 0 0) (.slice none 0 0)
  | slice {b o l c : Nat} {a' : Addr} {c' : Nat} (hl : l ≤ c') (hc : c < UNK → c' = c)
      (h : 0 < c' → ∃ e, s b = some e ∧ a' = ⟨e.cb, e.off + o, none⟩ ∧ (UNK ≤ c → e.off + o + c' * e.esz ≤ e.csize)) :
      VR s (.slice (some ⟨b, o, none⟩) l c) (.slice (some a') l c')
  | nilmap : VR s (.map none) (.map none)
  | sym (i : Nat) : VR s (.map (some i)) (SymE.E i)
  | func (fn : Fn) {f1 f2 c1 c2 : Array Value} (hf : VRs s f1.toList f2.toList) (hc : VRs s c1.toList c2.toList) : VR s (.func fn f1 c1) (.func fn f2 c2)
  | nilFunc : VR s .nilFunc .nilFunc
  | iface (t : TypeId) {v v' : Value} (h : VR s v v') : VR s (.iface t v) (.iface t v')
  | nilIface : VR s .nilIface .nilIface
  | agg {xs ys : Array Value} (h : VRs s xs.toList ys.toList) : VR s (.agg xs) (.agg ys)
  | tuple {xs ys : Array Value} (h : VRs s xs.toList ys.toList) : VR s (.tuple xs) (.tuple ys)
inductive VRs (s : Inj) : List Value → List Value → Prop
  | nil : VRs s [] []
  | cons {x y : Value} {xs ys : List Value} (h : VR s x y) (t : VRs s xs ys) : VRs s (x :: xs) (y :: ys)
end

mutual
theorem VR.mono {s t : Inj} (hst : s.le t) : ∀ {x y : Value}, VR s x y → VR t x y
  | _, _, .bool b => .bool b
  | _, _, .int k n => .int k n
  | _, _, .float k n => .float k n
  | _, _, .string x => .string x
  | _, _, .nilptr => .nilptr
  | _, _, .ptr h => .ptr (hst _ _ h)
  | _, _, .nilslice => .nilslice
  | _, _, .slice hl hc h => .slice hl hc fun hp => let ⟨e, h1, h2⟩ := h hp; ⟨e, hst _ _ h1, h2⟩
  | _, _, .nilmap => .nilmap
  | _, _, .sym i => .sym i
  | _, _, .func fn hf hc => .func fn (hf.mono hst) (hc.mono hst)
  | _, _, .nilFunc => .nilFunc
  | _, _, .iface t h => .iface t (h.mono hst)
  | _, _, .nilIface => .nilIface
  | _, _, .agg h => .agg (h.mono hst)
  | _, _, .tuple h => .tuple (h.mono hst)
theorem VRs.mono {s t : Inj} (hst : s.le t) : ∀ {x y : List Value}, VRs s x y → VRs t x y
  | _, _, .nil => .nil
  | _, _, .cons h k => .cons (h.mono hst) (k.mono hst)
end

/-! plain values: no address in them -/
mutual
def plain : Value → Bool
  | .bool _ | .int _ _ | .float _ _ | .string _ | .pointer none | .map none | .nilFunc | .nilIface => true
  | .slice none l c => l == 0 && c == 0
  | .func _ ⟨f⟩ ⟨c⟩ => plains f && plains c
  | .iface _ v => plain v
  | .agg ⟨xs⟩ | .tuple ⟨xs⟩ => plains xs
  | _ => false
def plains : List Value → Bool
  | [] => true
  | x :: xs => plain x && plains xs
end
mutual
theorem VR.ofPlain {s : Inj} : ∀ {v : Value}, plain v = true → VR s v v
  | .bool _, _ => .bool _
  | .int _ _, _ => .int _ _
  | .float _ _, _ => .float _ _
  | .string _, _ => .string _
  | .pointer none, _ => .nilptr
  | .map none, _ => .nilmap
  | .nilFunc, _ => .nilFunc
  | .nilIface, _ => .nilIface
  | .slice none l c, h => by
    simp only [plain, Bool.and_eq_true, beq_iff_eq] at h
    obtain ⟨rfl, rfl⟩ := h
    exact .nilslice
  | .func fn ⟨f⟩ ⟨c⟩, h => by
    simp only [plain, Bool.and_eq_true] at h
    exact .func fn (VRs.ofPlains h.1) (VRs.ofPlains h.2)
  | .iface t v, h => .iface t (VR.ofPlain (by simpa [plain] using h))
  | .agg ⟨xs⟩, h => .agg (VRs.ofPlains (by simpa [plain] using h))
  | .tuple ⟨xs⟩, h => .tuple (VRs.ofPlains (by simpa [plain] using h))
theorem VRs.ofPlains {s : Inj} : ∀ {v : List Value}, plains v = true → VRs s v v
  | [], _ => .nil
  | x :: xs, h => by
    simp only [plains, Bool.and_eq_true] at h
    exact .cons (VR.ofPlain h.1) (VRs.ofPlains h.2)
end

/-! lists of values that read alike -/
theorem VRs.length {s : Inj} : ∀ {x y : List Value}, VRs s x y → x.length = y.length
  | _, _, .nil => rfl
  | _, _, .cons _ t => by simp [t.length]
theorem VRs.append {s : Inj} : ∀ {x y u v : List Value}, VRs s x y → VRs s u v → VRs s (x ++ u) (y ++ v)
  | _, _, _, _, .nil, k => k
  | _, _, _, _, .cons h t, k => .cons h (t.append k)
theorem VRs.get {s : Inj} : ∀ {x y : List Value}, VRs s x y → ∀ {i : Nat} {v : Value}, x[i]? = some v → ∃ v', y[i]? = some v' ∧ VR s v v'
  | _, _, .nil, i, v, h => by simp at h
  | _, _, .cons h t, 0, v, hi => by simp at hi; subst hi; exact ⟨_, rfl, h⟩
  | _, _, .cons h t, i + 1, v, hi => by simp at hi; simpa using t.get hi
theorem VRs.get' {s : Inj} {x y : List Value} (h : VRs s x y) {i : Nat} {v : Value} (hy : y[i]? = some v) : ∃ u, x[i]? = some u ∧ VR s u v := by
  have hlt : i < x.length := by
    have := (List.getElem?_eq_some_iff.1 hy).1
    rw [h.length]; exact this
  obtain ⟨v', h1, h2⟩ := h.get (List.getElem?_eq_getElem hlt)
  rw [hy] at h1
  obtain rfl := Option.some.inj h1
  exact ⟨_, List.getElem?_eq_getElem hlt, h2⟩
theorem VRs.of_get {s : Inj} : ∀ {x y : List Value}, x.length = y.length → (∀ (i : Nat) (v u : Value), x[i]? = some v → y[i]? = some u → VR s v u) → VRs s x y
  | [], [], _, _ => .nil
  | [], _ :: _, h, _ => by simp at h
  | _ :: _, [], h, _ => by simp at h
  | x :: xs, y :: ys, h, k => .cons (k 0 x y rfl rfl) (VRs.of_get (by simpa using h) fun i v u h1 h2 => k (i + 1) v u (by simpa using h1) (by simpa using h2))
theorem VRs.take {s : Inj} : ∀ {x y : List Value}, VRs s x y → ∀ n, VRs s (x.take n) (y.take n)
  | _, _, .nil, n => by simp; exact .nil
  | _, _, .cons h t, 0 => by simp; exact .nil
  | _, _, .cons h t, n + 1 => by simp only [List.take_succ_cons]; exact .cons h (t.take n)
theorem VRs.drop {s : Inj} : ∀ {x y : List Value}, VRs s x y → ∀ n, VRs s (x.drop n) (y.drop n)
  | _, _, .nil, n => by simp; exact .nil
  | _, _, .cons h t, 0 => .cons h t
  | _, _, .cons h t, n + 1 => by simpa using t.drop n
theorem VRs.set {s : Inj} : ∀ {x y : List Value}, VRs s x y → ∀ (n : Nat) {v u : Value}, VR s v u → VRs s (x.set n v) (y.set n u)
  | _, _, .nil, n, _, _, _ => by simp; exact .nil
  | _, _, .cons h t, 0, _, _, k => .cons k t
  | _, _, .cons h t, n + 1, _, _, k => .cons h (t.set n k)

/-! ## the abstract memory -/
structure Blk where
  cells : List Value
  elem : TypeId
  esz : Nat
  rw : Bool
  fz : Nat
structure AW where
  m : Nat → Option Blk
  next : Nat
def AW.get (w : AW) (b i : Nat) : Option Value := (w.m b).bind fun B => B.cells[i]?
def AW.alloc (w : AW) (cells : List Value) (elem esz : Nat) : AW :=
  { m := fun b => if b = w.next then some ⟨cells, elem, esz, true, 0⟩ else w.m b, next := w.next + 1 }
def AW.set (w : AW) (b i : Nat) (v : Value) : AW :=
  { w with m := fun c => if c = b then (w.m b).map fun B => { B with cells := B.cells.set i v } else w.m c }
def AW.setN (w : AW) (b i : Nat) : List Value → AW
  | [] => w
  | v :: vs => (w.set b i v).setN b (i + 1) vs
def AW.kill (w : AW) (b : Nat) : AW := { w with m := fun c => if c = b then none else w.m c }

structure Rel (G base : Nat) (w0 : World) (s : Inj) (aw : AW) (w : World) : Prop where
  fresh : ∀ b, aw.next ≤ b → s b = none
  mfresh : ∀ b, aw.next ≤ b → aw.m b = none
  blk : ∀ b B, aw.m b = some B → ∃ e cs fz, s b = some e ∧ (e.esz = B.esz ∧ (B.rw = true → e.off = 0) ∧ (B.esz = 0 → e.off = 0 ∧ e.csize = B.cells.length)) ∧ w.heap[e.cb]? = some (.cells cs B.elem fz) ∧ cs.size = e.csize ∧
    e.off + B.cells.length ≤ e.csize ∧ (∀ i v, B.cells[i]? = some v → ∃ v', cs[e.off + i]? = some v' ∧ VR s v v') ∧
    (B.rw = true → base ≤ e.cb ∧ ∀ j, e.off + B.fz ≤ j → j < e.csize → ¬ (fz.1 ≤ j ∧ j < fz.2))
  sep : ∀ b1 b2 B1 B2 e1 e2, b1 ≠ b2 → aw.m b1 = some B1 → aw.m b2 = some B2 → s b1 = some e1 → s b2 = some e2 → B1.rw = true → e1.cb ≠ e2.cb
  hbase : base ≤ w.heap.size
  glob : ∀ g, g < G → ∃ e, s g = some e ∧ e.cb = g ∧ e.off = 0
  below : Below base w0 w

variable {G base : Nat} {w0 : World} {s : Inj} {aw : AW} {w : World}

theorem Rel.drew (h : Rel G base w0 s aw w) : Rel G base w0 s aw w.drew :=
  { h with below := h.below.drew }

/-- A cell of the abstract memory, in the model's. -/
theorem Rel.cell (h : Rel G base w0 s aw w) {b i : Nat} {v : Value} (hg : aw.get b i = some v) :
    ∃ e v', s b = some e ∧ w.cell? ⟨e.cb, e.off + i, none⟩ = some v' ∧ VR s v v' := by
  unfold AW.get at hg
  cases hb : aw.m b with
  | none => simp [hb] at hg
  | some B =>
    simp [hb] at hg
    obtain ⟨e, cs, fz, h1, _, h3, _, _, h6, _⟩ := h.blk b B hb
    obtain ⟨v', h7, h8⟩ := h6 i v hg
    exact ⟨e, v', h1, by simp [World.cell?, h3, h7], h8⟩

theorem Rel.alloc (h : Rel G base w0 s aw w) {cells : List Value} {cs : Array Value} (elem esz : Nat)
    (hl : cells.length ≤ cs.size) (h0 : esz = 0 → cells.length = cs.size) (hv : ∀ (i : Nat) (v : Value), cells[i]? = some v → ∃ v', cs[i]? = some v' ∧ VR s v v') (fz : Nat × Nat)
    (hfz : ∀ j, j < cs.size → ¬ (fz.1 ≤ j ∧ j < fz.2)) :
    ∃ s', s.le s' ∧ s' aw.next = some ⟨w.heap.size, 0, cs.size, esz⟩ ∧ Rel G base w0 s' (aw.alloc cells elem esz) (w.alloc (.cells cs elem fz)) := by
  refine ⟨fun b => if b = aw.next then some ⟨w.heap.size, 0, cs.size, esz⟩ else s b, ?_, by simp, ?_⟩
  · intro b e hb
    have hne : b ≠ aw.next := by
      rintro rfl
      rw [h.fresh _ (Nat.le_refl _)] at hb; simp at hb
    simpa [hne] using hb
  have hle : s.le (fun b => if b = aw.next then some ⟨w.heap.size, 0, cs.size, esz⟩ else s b) := by
    intro b e hb
    have hne : b ≠ aw.next := by
      rintro rfl
      rw [h.fresh _ (Nat.le_refl _)] at hb; simp at hb
    simpa [hne] using hb
  have hlt : ∀ b B e, aw.m b = some B → s b = some e → e.cb < w.heap.size := by
    intro b B e hb he
    obtain ⟨e', cs', fz', h1, _, h3, _⟩ := h.blk b B hb
    rw [he] at h1; obtain rfl := Option.some.inj h1
    rcases Nat.lt_or_ge e.cb w.heap.size with h' | h'
    · exact h'
    · rw [Array.getElem?_eq_none h'] at h3; simp at h3
  refine ⟨?_, ?_, ?_, ?_, ?_, ?_, ?_⟩
  · intro b hb
    have hb' : aw.next + 1 ≤ b := hb
    simp only [if_neg (show ¬ b = aw.next by omega)]
    exact h.fresh b (by omega)
  · intro b hb
    have hb' : aw.next + 1 ≤ b := hb
    simp only [AW.alloc, if_neg (show ¬ b = aw.next by omega)]
    exact h.mfresh b (by omega)
  · intro b B hb
    simp only [AW.alloc] at hb
    by_cases hbn : b = aw.next
    · subst hbn
      simp only [if_true, Option.some.injEq] at hb
      subst hb
      refine ⟨⟨w.heap.size, 0, cs.size, esz⟩, cs, fz, by simp, ⟨rfl, fun _ => rfl, fun h => ⟨rfl, (h0 h).symm⟩⟩, ?_, rfl, by simpa using hl, ?_, ?_⟩
      · show (w.heap.push _)[w.heap.size]? = _
        simp
      · intro i v hi
        obtain ⟨v', h1, h2⟩ := hv i v hi
        exact ⟨v', by simpa using h1, h2.mono hle⟩
      · intro _
        exact ⟨h.hbase, fun j h1 h2 => hfz j h2⟩
    · simp only [if_neg hbn] at hb
      obtain ⟨e, cs', fz', h1, h2, h3, h4, h5, h6, h7⟩ := h.blk b B hb
      refine ⟨e, cs', fz', by simpa [hbn] using h1, h2, ?_, h4, h5, ?_, h7⟩
      · have := hlt b B e hb h1
        show (w.heap.push _)[e.cb]? = _
        rw [Array.getElem?_push, if_neg (by omega)]
        exact h3
      · intro i v hi
        obtain ⟨v', k1, k2⟩ := h6 i v hi
        exact ⟨v', k1, k2.mono hle⟩
  · intro b1 b2 B1 B2 e1 e2 hne hb1 hb2 he1 he2 hrw
    simp only [AW.alloc] at hb1 hb2
    by_cases h1 : b1 = aw.next
    · subst h1
      have h2 : ¬ b2 = aw.next := fun e => hne e.symm
      simp only [if_true, Option.some.injEq, if_neg h2] at he1 he2 hb2
      subst he1
      have := hlt b2 B2 e2 hb2 he2
      simp only; omega
    · simp only [if_neg h1] at hb1 he1
      by_cases h2 : b2 = aw.next
      · subst h2
        simp only [if_true, Option.some.injEq] at he2
        subst he2
        have := hlt b1 B1 e1 hb1 he1
        simp only; omega
      · simp only [if_neg h2] at hb2 he2
        exact h.sep b1 b2 B1 B2 e1 e2 hne hb1 hb2 he1 he2 hrw
  · have := h.hbase
    simp only [World.size_alloc]; omega
  · intro g hg
    obtain ⟨e, h1, h2, h3⟩ := h.glob g hg
    exact ⟨e, hle _ _ h1, h2, h3⟩
  · exact h.below.alloc h.hbase _

theorem Rel.kill (h : Rel G base w0 s aw w) (b : Nat) : Rel G base w0 s (aw.kill b) w := by
  refine ⟨h.fresh, ?_, ?_, ?_, h.hbase, h.glob, h.below⟩
  · intro c hc
    simp only [AW.kill]
    split
    · rfl
    · exact h.mfresh c hc
  · intro c B hc
    simp only [AW.kill] at hc
    split at hc
    · simp at hc
    · exact h.blk c B hc
  · intro b1 b2 B1 B2 e1 e2 hne hb1 hb2
    simp only [AW.kill] at hb1 hb2
    split at hb1
    · simp at hb1
    split at hb2
    · simp at hb2
    exact h.sep b1 b2 B1 B2 e1 e2 hne hb1 hb2

/-- One cell is written. -/
theorem Rel.set (h : Rel G base w0 s aw w) {b i : Nat} {B : Blk} (hb : aw.m b = some B) (hrw : B.rw = true) (hi : i < B.cells.length) (hfz : B.fz ≤ i)
    {v v' : Value} (hv : VR s v v') {e : Ent} (he : s b = some e) :
    w.frozen? ⟨e.cb, e.off + i, none⟩ = false ∧ (w.cell? ⟨e.cb, e.off + i, none⟩).isSome = true ∧ Rel G base w0 s (aw.set b i v) (w.setCell ⟨e.cb, e.off + i, none⟩ v') := by
  obtain ⟨e', cs, fz, h1, h2, h3, h4, h5, h6, h7⟩ := h.blk b B hb
  rw [he] at h1; obtain rfl := Option.some.inj h1
  obtain ⟨h8, h9⟩ := h7 hrw
  have hlt : e.off + i < cs.size := by omega
  refine ⟨?_, ?_, ?_⟩
  · simp only [World.frozen?, h3]
    have := h9 (e.off + i) (by omega) (by omega)
    simp only [Bool.and_eq_false_iff, decide_eq_false_iff_not]
    by_cases hx : fz.1 ≤ e.off + i
    · exact .inr (fun hy => this ⟨hx, hy⟩)
    · exact .inl hx
  · simp [World.cell?, h3, hlt]
  have hheap : ∀ k, (w.setCell ⟨e.cb, e.off + i, none⟩ v').heap[k]? = if k = e.cb then some (.cells (cs.setIfInBounds (e.off + i) v') B.elem fz) else w.heap[k]? := by
    intro k
    simp only [World.setCell, Array.getElem?_modify]
    by_cases hk : k = e.cb
    · subst hk
      simp [h3]
    · rw [if_neg (fun x => hk x.symm), if_neg hk]
  refine ⟨h.fresh, ?_, ?_, ?_, ?_, h.glob, ?_⟩
  · intro c hc
    simp only [AW.set]
    split
    · subst_vars; rw [h.mfresh _ hc]; rfl
    · exact h.mfresh c hc
  · intro c C hc
    simp only [AW.set] at hc
    by_cases hcb : c = b
    · subst hcb
      simp only [if_true, hb, Option.map_some, Option.some.injEq] at hc
      subst hc
      refine ⟨e, cs.setIfInBounds (e.off + i) v', fz, he, ⟨h2.1, h2.2.1, fun h => by simpa using h2.2.2 h⟩, ?_, by simpa using h4, by simpa using h5, ?_, ?_⟩
      · rw [hheap, if_pos rfl]
      · intro j u hj
        simp only at hj
        by_cases hji : j = i
        · subst hji
          rw [List.getElem?_set_self hi] at hj
          obtain rfl := Option.some.inj hj
          exact ⟨v', by simp [hlt], hv⟩
        · rw [List.getElem?_set_ne (fun x => hji x.symm)] at hj
          obtain ⟨u', k1, k2⟩ := h6 j u hj
          refine ⟨u', ?_, k2⟩
          rw [Array.getElem?_setIfInBounds_ne (by omega)]
          exact k1
      · exact fun _ => ⟨h8, h9⟩
    · simp only [if_neg hcb] at hc
      obtain ⟨e2, cs2, fz2, k1, k2, k3, k4, k5, k6, k7⟩ := h.blk c C hc
      have hne : e.cb ≠ e2.cb := h.sep b c B C e e2 (fun x => hcb x.symm) hb hc he k1 hrw
      exact ⟨e2, cs2, fz2, k1, k2, by rw [hheap, if_neg (fun x => hne x.symm)]; exact k3, k4, k5, k6, k7⟩
  · intro b1 b2 B1 B2 e1 e2 hne hb1 hb2 he1 he2 hrw1
    have aux : ∀ c C, (aw.set b i v).m c = some C → ∃ C', aw.m c = some C' ∧ C'.rw = C.rw := by
      intro c C hc
      simp only [AW.set] at hc
      by_cases hcb : c = b
      · subst hcb
        simp only [if_true, hb, Option.map_some, Option.some.injEq] at hc
        subst hc
        exact ⟨B, hb, rfl⟩
      · simp only [if_neg hcb] at hc
        exact ⟨C, hc, rfl⟩
    obtain ⟨C1, k1, k2⟩ := aux b1 B1 hb1
    obtain ⟨C2, k3, _⟩ := aux b2 B2 hb2
    exact h.sep b1 b2 C1 C2 e1 e2 hne k1 k3 he1 he2 (k2.trans hrw1)
  · simpa using h.hbase
  · exact h.below.setCell h8 _

end Go.Am
