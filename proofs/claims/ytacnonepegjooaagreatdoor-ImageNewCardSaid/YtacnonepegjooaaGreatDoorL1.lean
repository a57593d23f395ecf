/- The library of this claim, part 1: values alike, an abstract memory, operations, regions, an interpreter that the kernel runs. -/
import Derived.Orders
import Derived.Below
import Derived.Defers
import Derived.Laws.Cells
import Derived.Laws.IdiomCopy
import Derived.ChangeKeysEq
import Derived.RangeFuncOwn
import Derived.RangeFuncRecord
import Derived.RangeFuncLeaves
import Derived.Laws.Strings
import Derived.Laws.StructEq
import Derived.IntWalk
import Derived.Lib.ConvBytes
import Derived.Laws.BytesString
import Derived.KernelRfl
import Derived.Laws.Externs
import Derived.Lib.UnsafeStr
import Derived.Lib.Builder
set_option linter.unusedSectionVars false
namespace Go.Am
open Go Go.RowKit
structure Ent where
  cb : Nat
  off : Nat
  csize : Nat
  esz : Nat
abbrev Inj := Nat → Option Ent
class SymE where
  E : Nat → Value
  leaf : ∀ i, (∃ k n, E i = .int k n) ∨ (∃ x, E i = .string x)
variable [SymE]
def Inj.le (s t : Inj) : Prop := ∀ b e, s b = some e → t b = some e
theorem Inj.le_refl (s : Inj) : s.le s := fun _ _ h => h
theorem Inj.le_trans {a b c : Inj} (h : a.le b) (k : b.le c) : a.le c := fun x e hx => k x e (h x e hx)
def UNK : Nat := 2 ^ 64
mutual
inductive VR (s : Inj) : Value → Value → Prop
  | bool (b : Bool) : VR s (.bool b) (.bool b)
  | int (k : IntKind) (n : Int) : VR s (.int k n) (.int k n)
  | float (k : FloatKind) (n : Nat) : VR s (.float k n) (.float k n)
  | string (x : ByteArray) : VR s (.string x) (.string x)
  | nilptr : VR s (.pointer none) (.pointer none)
  | ptr {b o : Nat} {e : Ent} (h : s b = some e) : VR s (.pointer (some ⟨b, o, none⟩)) (.pointer (some ⟨e.cb, e.off + o, none⟩))
  | nilslice : VR s (.slice none 0 0) (.slice none 0 0)
  | slice {b o l c : Nat} {a' : Addr} {c' : Nat} (hl : l ≤ c') (hc : c < UNK → c' = c)
      (h : 0 < c' → ∃ e, s b = some e ∧ a' = ⟨e.cb, e.off + o, none⟩ ∧ (UNK ≤ c → e.off + o + c' * e.esz ≤ e.csize)) :
      VR s (.slice (some ⟨b, o, none⟩) l c) (.slice (some a') l c')
  | nilmap : VR s (.map none) (.map none)
  | sym (i : Nat) : VR s (.map (some i)) (SymE.E i)
  | mapp {b : Nat} {e : Ent} (h : s b = some e) : VR s (.chan (some b)) (.map (some e.cb))
  | func (fn : Fn) {f1 f2 c1 c2 : Array Value} (hf : VRs s f1.toList f2.toList) (hc : VRs s c1.toList c2.toList) : VR s (.func fn f1 c1) (.func fn f2 c2)
  | nilFunc : VR s .nilFunc .nilFunc
  | iface (t : TypeId) {v v' : Value} (h : VR s v v') : VR s (.iface t v) (.iface t v')
  | nilIface : VR s .nilIface .nilIface
  | agg {xs ys : Array Value} (h : VRs s xs.toList ys.toList) : VR s (.agg xs) (.agg ys)
  | tuple {xs ys : Array Value} (h : VRs s xs.toList ys.toList) : VR s (.tuple xs) (.tuple ys)
inductive VRs (s : Inj) : List Value → List Value → Prop
  | nil : VRs s [] []
  | cons {x y : Value} {xs ys : List Value} (h : VR s x y) (t : VRs s xs ys) : VRs s (x :: xs) (y :: ys)
end
mutual
theorem VR.mono {s t : Inj} (hst : s.le t) : ∀ {x y : Value}, VR s x y → VR t x y
  | _, _, .bool b => .bool b
  | _, _, .int k n => .int k n
  | _, _, .float k n => .float k n
  | _, _, .string x => .string x
  | _, _, .nilptr => .nilptr
  | _, _, .ptr h => .ptr (hst _ _ h)
  | _, _, .nilslice => .nilslice
  | _, _, .slice hl hc h => .slice hl hc fun hp => let ⟨e, h1, h2⟩ := h hp; ⟨e, hst _ _ h1, h2⟩
  | _, _, .nilmap => .nilmap
  | _, _, .sym i => .sym i
  | _, _, .mapp h => .mapp (hst _ _ h)
  | _, _, .func fn hf hc => .func fn (hf.mono hst) (hc.mono hst)
  | _, _, .nilFunc => .nilFunc
  | _, _, .iface t h => .iface t (h.mono hst)
  | _, _, .nilIface => .nilIface
  | _, _, .agg h => .agg (h.mono hst)
  | _, _, .tuple h => .tuple (h.mono hst)
theorem VRs.mono {s t : Inj} (hst : s.le t) : ∀ {x y : List Value}, VRs s x y → VRs t x y
  | _, _, .nil => .nil
  | _, _, .cons h k => .cons (h.mono hst) (k.mono hst)
end
mutual
def plain : Value → Bool
  | .bool _ | .int _ _ | .float _ _ | .string _ | .pointer none | .map none | .nilFunc | .nilIface => true
  | .slice none l c => l == 0 && c == 0
  | .func _ ⟨f⟩ ⟨c⟩ => plains f && plains c
  | .iface _ v => plain v
  | .agg ⟨xs⟩ | .tuple ⟨xs⟩ => plains xs
  | _ => false
def plains : List Value → Bool
  | [] => true
  | x :: xs => plain x && plains xs
end
mutual
theorem VR.ofPlain {s : Inj} : ∀ {v : Value}, plain v = true → VR s v v
  | .bool _, _ => .bool _
  | .int _ _, _ => .int _ _
  | .float _ _, _ => .float _ _
  | .string _, _ => .string _
  | .pointer none, _ => .nilptr
  | .map none, _ => .nilmap
  | .nilFunc, _ => .nilFunc
  | .nilIface, _ => .nilIface
  | .slice none l c, h => by
    simp only [plain, Bool.and_eq_true, beq_iff_eq] at h
    obtain ⟨rfl, rfl⟩ := h
    exact .nilslice
  | .func fn ⟨f⟩ ⟨c⟩, h => by
    simp only [plain, Bool.and_eq_true] at h
    exact .func fn (VRs.ofPlains h.1) (VRs.ofPlains h.2)
  | .iface t v, h => .iface t (VR.ofPlain (by simpa [plain] using h))
  | .agg ⟨xs⟩, h => .agg (VRs.ofPlains (by simpa [plain] using h))
  | .tuple ⟨xs⟩, h => .tuple (VRs.ofPlains (by simpa [plain] using h))
theorem VRs.ofPlains {s : Inj} : ∀ {v : List Value}, plains v = true → VRs s v v
  | [], _ => .nil
  | x :: xs, h => by
    simp only [plains, Bool.and_eq_true] at h
    exact .cons (VR.ofPlain h.1) (VRs.ofPlains h.2)
end
theorem VRs.length {s : Inj} : ∀ {x y : List Value}, VRs s x y → x.length = y.length
  | _, _, .nil => rfl
  | _, _, .cons _ t => by simp [t.length]
theorem VRs.append {s : Inj} : ∀ {x y u v : List Value}, VRs s x y → VRs s u v → VRs s (x ++ u) (y ++ v)
  | _, _, _, _, .nil, k => k
  | _, _, _, _, .cons h t, k => .cons h (t.append k)
theorem VRs.get {s : Inj} : ∀ {x y : List Value}, VRs s x y → ∀ {i : Nat} {v : Value}, x[i]? = some v → ∃ v', y[i]? = some v' ∧ VR s v v'
  | _, _, .nil, i, v, h => by simp at h
  | _, _, .cons h t, 0, v, hi => by simp at hi; subst hi; exact ⟨_, rfl, h⟩
  | _, _, .cons h t, i + 1, v, hi => by simp at hi; simpa using t.get hi
theorem VRs.of_get {s : Inj} : ∀ {x y : List Value}, x.length = y.length → (∀ (i : Nat) (v u : Value), x[i]? = some v → y[i]? = some u → VR s v u) → VRs s x y
  | [], [], _, _ => .nil
  | [], _ :: _, h, _ => by simp at h
  | _ :: _, [], h, _ => by simp at h
  | x :: xs, y :: ys, h, k => .cons (k 0 x y rfl rfl) (VRs.of_get (by simpa using h) fun i v u h1 h2 => k (i + 1) v u (by simpa using h1) (by simpa using h2))
theorem VRs.take {s : Inj} : ∀ {x y : List Value}, VRs s x y → ∀ n, VRs s (x.take n) (y.take n)
  | _, _, .nil, n => by simp; exact .nil
  | _, _, .cons h t, 0 => by simp; exact .nil
  | _, _, .cons h t, n + 1 => by simp only [List.take_succ_cons]; exact .cons h (t.take n)
theorem VRs.drop {s : Inj} : ∀ {x y : List Value}, VRs s x y → ∀ n, VRs s (x.drop n) (y.drop n)
  | _, _, .nil, n => by simp; exact .nil
  | _, _, .cons h t, 0 => .cons h t
  | _, _, .cons h t, n + 1 => by simpa using t.drop n
theorem VRs.set {s : Inj} : ∀ {x y : List Value}, VRs s x y → ∀ (n : Nat) {v u : Value}, VR s v u → VRs s (x.set n v) (y.set n u)
  | _, _, .nil, n, _, _, _ => by simp; exact .nil
  | _, _, .cons h t, 0, _, _, k => .cons k t
  | _, _, .cons h t, n + 1, _, _, k => .cons h (t.set n k)
structure Blk where
  cells : List Value
  elem : TypeId
  esz : Nat
  rw : Bool
  fz : Nat
structure AW where
  m : Nat → Option Blk
  next : Nat
  mp : Nat → Option (List (Value × Value)) := fun _ => none
def AW.get (w : AW) (b i : Nat) : Option Value := (w.m b).bind fun B => B.cells[i]?
def AW.alloc (w : AW) (cells : List Value) (elem esz : Nat) : AW :=
  { w with m := fun b => if b = w.next then some ⟨cells, elem, esz, true, 0⟩ else w.m b, next := w.next + 1 }
def AW.set (w : AW) (b i : Nat) (v : Value) : AW :=
  { w with m := fun c => if c = b then (w.m b).map fun B => { B with cells := B.cells.set i v } else w.m c }
def AW.setN (w : AW) (b i : Nat) : List Value → AW
  | [] => w
  | v :: vs => (w.set b i v).setN b (i + 1) vs
def AW.kill (w : AW) (b : Nat) : AW := { w with m := fun c => if c = b then none else w.m c }
def sto : Obj → Bool
  | .cells .. => true
  | .map .. => true
  | _ => false
structure Keep (Pr : Nat → Prop) (w w' : World) : Prop where
  os : w'.os = w.os
  tape : w'.tape = w.tape
  output : w'.output = w.output
  size : w.heap.size ≤ w'.heap.size
  block : ∀ k, Pr k → w'.heap[k]? = w.heap[k]?
  other : ∀ (k : Nat) (o : Obj), w.heap[k]? = some o → sto o = false → w'.heap[k]? = some o
theorem Keep.refl (Pr : Nat → Prop) (w : World) : Keep Pr w w := ⟨rfl, rfl, rfl, Nat.le_refl _, fun _ _ => rfl, fun _ _ h _ => h⟩
theorem Keep.trans {Pr : Nat → Prop} {a b c : World} (h : Keep Pr a b) (k : Keep Pr b c) : Keep Pr a c :=
  ⟨k.os.trans h.os, k.tape.trans h.tape, k.output.trans h.output, Nat.le_trans h.size k.size, fun i hi => (k.block i hi).trans (h.block i hi), fun i o ho hc => k.other i o (h.other i o ho hc) hc⟩
theorem Keep.mono {Pr Pr' : Nat → Prop} {a b : World} (h : Keep Pr a b) (hp : ∀ k, Pr' k → Pr k) : Keep Pr' a b := ⟨h.os, h.tape, h.output, h.size, fun k hk => h.block k (hp k hk), h.other⟩
theorem Keep.below {n : Nat} {a b : World} (h : Keep (· < n) a b) : Below n a b := ⟨h.os, h.tape, h.output, h.size, fun k hk => h.block k hk⟩
theorem Keep.drew {Pr : Nat → Prop} {a w : World} (h : Keep Pr a w) : Keep Pr a w.drew := ⟨h.os, h.tape, h.output, h.size, h.block, h.other⟩
theorem Keep.alloc {Pr : Nat → Prop} {a w : World} (h : Keep Pr a w) (hB : ∀ k, Pr k → k < w.heap.size) (o : Obj) : Keep Pr a (w.alloc o) :=
  h.trans ⟨rfl, rfl, rfl, by simp, fun k hk => Below.heap_alloc _ _ _ (hB k hk), fun k o' ho _ => by
    rw [Below.heap_alloc _ _ _ (Array.getElem?_eq_some_iff.1 ho).1]; exact ho⟩
theorem Keep.setCell {Pr : Nat → Prop} {a w : World} (h : Keep Pr a w) {p : Addr} (hp : ¬ Pr p.block) {cs : Array Value} {t : TypeId} {fz : Nat × Nat} (hc : w.heap[p.block]? = some (.cells cs t fz)) (u : Value) : Keep Pr a (w.setCell p u) :=
  h.trans ⟨rfl, rfl, rfl, by simp [World.setCell], fun k hk => Below.heap_setCell _ _ _ _ (fun e => hp (e ▸ hk)), fun k o ho hn => by
    rw [Below.heap_setCell _ _ _ _ (fun e => ?_)]
    · exact ho
    · subst e
      rw [hc] at ho
      obtain rfl := Option.some.inj ho
      cases hn⟩
inductive VRm (s : Inj) : List (Value × Value) → List MapEntry → Prop
  | nil : VRm s [] []
  | cons {k v : Value} {e : MapEntry} {es : List (Value × Value)} {xs : List MapEntry} (hk : VR s k e.key) (hv : VR s v e.val) (h : VRm s es xs) : VRm s ((k, v) :: es) (e :: xs)
theorem VRm.mono {s t : Inj} (hst : s.le t) {es : List (Value × Value)} {xs : List MapEntry} (h : VRm s es xs) : VRm t es xs := by
  induction h with
  | nil => exact .nil
  | cons hk hv _ ih => exact .cons (hk.mono hst) (hv.mono hst) ih
structure Maps (base : Nat → Prop) (s : Inj) (aw : AW) (w : World) : Prop where
  fresh : ∀ b, aw.next ≤ b → aw.mp b = none
  ent : ∀ b es, aw.mp b = some es → ∃ e xs ck, s b = some e ∧ w.heap[e.cb]? = some (.map xs ck) ∧ ¬ base e.cb ∧ VRm s es xs.toList
  sep : ∀ b1 b2 es1 es2 e1 e2, b1 ≠ b2 → aw.mp b1 = some es1 → aw.mp b2 = some es2 → s b1 = some e1 → s b2 = some e2 → e1.cb ≠ e2.cb
theorem Maps.inj {base : Nat → Prop} {s t : Inj} {aw : AW} {w : World} (h : Maps base s aw w) (hst : s.le t) : Maps base t aw w :=
  ⟨h.fresh, fun b es hb => by
    obtain ⟨e, xs, ck, h1, h2, h3, h4⟩ := h.ent b es hb
    exact ⟨e, xs, ck, hst _ _ h1, h2, h3, h4.mono hst⟩, fun b1 b2 es1 es2 e1 e2 hn h1 h2 k1 k2 => by
    obtain ⟨f1, _, _, g1, _⟩ := h.ent b1 es1 h1
    obtain ⟨f2, _, _, g2, _⟩ := h.ent b2 es2 h2
    have := hst _ _ g1
    rw [k1] at this
    obtain rfl := Option.some.inj this
    have := hst _ _ g2
    rw [k2] at this
    obtain rfl := Option.some.inj this
    exact h.sep b1 b2 es1 es2 _ _ hn h1 h2 g1 g2⟩
theorem Maps.to {base : Nat → Prop} {s : Inj} {aw aw' : AW} {w w' : World} (h : Maps base s aw w) (hm : aw'.mp = aw.mp) (hn : aw.next ≤ aw'.next) (hw : ∀ (k : Nat) (xs : Array MapEntry) (ck : Nat), w.heap[k]? = some (.map xs ck) → w'.heap[k]? = some (.map xs ck)) : Maps base s aw' w' :=
  ⟨fun b hb => by rw [hm]; exact h.fresh b (Nat.le_trans hn hb), fun b es hb => by
    rw [hm] at hb
    obtain ⟨e, xs, ck, h1, h2, h3, h4⟩ := h.ent b es hb
    exact ⟨e, xs, ck, h1, hw _ _ _ h2, h3, h4⟩, fun b1 b2 es1 es2 e1 e2 hne h1 h2 => by
    rw [hm] at h1 h2
    exact h.sep b1 b2 es1 es2 e1 e2 hne h1 h2⟩
theorem Maps.none {base : Nat → Prop} {s : Inj} {aw : AW} {w : World} (h : ∀ b, aw.mp b = Option.none) : Maps base s aw w :=
  ⟨fun b _ => h b, fun b es hb => (by rw [h] at hb; cases hb), fun b1 b2 es1 es2 e1 e2 _ h1 => (by rw [h] at h1; cases h1)⟩
theorem map_alloc {w : World} {o : Obj} : ∀ (k : Nat) (xs : Array MapEntry) (ck : Nat), w.heap[k]? = some (.map xs ck) → (w.alloc o).heap[k]? = some (.map xs ck) := fun k xs ck h => by
  rw [Below.heap_alloc _ _ _ (Array.getElem?_eq_some_iff.1 h).1]; exact h
theorem map_set {w : World} {p : Addr} {cs : Array Value} {t : TypeId} {fz : Nat × Nat} (hc : w.heap[p.block]? = some (.cells cs t fz)) (u : Value) : ∀ (k : Nat) (xs : Array MapEntry) (ck : Nat), w.heap[k]? = some (.map xs ck) → (w.setCell p u).heap[k]? = some (.map xs ck) := fun k xs ck h => by
  rw [Below.heap_setCell _ _ _ _ (fun e => ?_)]
  · exact h
  · subst e
    rw [hc] at h
    cases h
structure Rel (G : Nat) (base : Nat → Prop) (w0 : World) (s : Inj) (aw : AW) (w : World) : Prop where
  fresh : ∀ b, aw.next ≤ b → s b = none
  mfresh : ∀ b, aw.next ≤ b → aw.m b = none
  blk : ∀ b B, aw.m b = some B → ∃ e cs fz, s b = some e ∧ (e.esz = B.esz ∧ (B.rw = true → e.off = 0) ∧ (B.esz = 0 → e.off = 0 ∧ e.csize = B.cells.length)) ∧ w.heap[e.cb]? = some (.cells cs B.elem fz) ∧ cs.size = e.csize ∧
    e.off + B.cells.length ≤ e.csize ∧ (∀ i v, B.cells[i]? = some v → ∃ v', cs[e.off + i]? = some v' ∧ VR s v v') ∧
    (B.rw = true → ¬ base e.cb ∧ (B.fz = 0 → ∀ j, e.off + B.fz ≤ j → j < e.csize → ¬ (fz.1 ≤ j ∧ j < fz.2)))
  sep : ∀ b1 b2 B1 B2 e1 e2, b1 ≠ b2 → aw.m b1 = some B1 → aw.m b2 = some B2 → s b1 = some e1 → s b2 = some e2 → B1.rw = true → e1.cb ≠ e2.cb
  hbase : ∀ k, base k → k < w.heap.size
  glob : ∀ g, g < G → ∃ e, s g = some e ∧ e.cb = g ∧ e.off = 0
  below : Keep base w0 w
  maps : Maps base s aw w
variable {G : Nat} {base : Nat → Prop} {w0 : World} {s : Inj} {aw : AW} {w : World}
theorem Rel.drew (h : Rel G base w0 s aw w) : Rel G base w0 s aw w.drew :=
  { h with below := h.below.drew, maps := h.maps.to rfl (Nat.le_refl _) fun _ _ _ hk => hk }
theorem Rel.cell (h : Rel G base w0 s aw w) {b i : Nat} {v : Value} (hg : aw.get b i = some v) :
    ∃ e v', s b = some e ∧ w.cell? ⟨e.cb, e.off + i, none⟩ = some v' ∧ VR s v v' := by
  unfold AW.get at hg
  cases hb : aw.m b with
  | none => simp [hb] at hg
  | some B =>
    simp [hb] at hg
    obtain ⟨e, cs, fz, h1, _, h3, _, _, h6, _⟩ := h.blk b B hb
    obtain ⟨v', h7, h8⟩ := h6 i v hg
    exact ⟨e, v', h1, by simp [World.cell?, h3, h7], h8⟩
theorem Rel.alloc (h : Rel G base w0 s aw w) {cells : List Value} {cs : Array Value} (elem esz : Nat)
    (hl : cells.length ≤ cs.size) (h0 : esz = 0 → cells.length = cs.size) (hv : ∀ (i : Nat) (v : Value), cells[i]? = some v → ∃ v', cs[i]? = some v' ∧ VR s v v') (fz : Nat × Nat)
    (hfz : ∀ j, j < cs.size → ¬ (fz.1 ≤ j ∧ j < fz.2)) :
    ∃ s', s.le s' ∧ s' aw.next = some ⟨w.heap.size, 0, cs.size, esz⟩ ∧ Rel G base w0 s' (aw.alloc cells elem esz) (w.alloc (.cells cs elem fz)) := by
  refine ⟨fun b => if b = aw.next then some ⟨w.heap.size, 0, cs.size, esz⟩ else s b, ?_, by simp, ?_⟩
  · intro b e hb
    have hne : b ≠ aw.next := by
      rintro rfl
      rw [h.fresh _ (Nat.le_refl _)] at hb; simp at hb
    simpa [hne] using hb
  have hle : s.le (fun b => if b = aw.next then some ⟨w.heap.size, 0, cs.size, esz⟩ else s b) := by
    intro b e hb
    have hne : b ≠ aw.next := by
      rintro rfl
      rw [h.fresh _ (Nat.le_refl _)] at hb; simp at hb
    simpa [hne] using hb
  have hlt : ∀ b B e, aw.m b = some B → s b = some e → e.cb < w.heap.size := by
    intro b B e hb he
    obtain ⟨e', cs', fz', h1, _, h3, _⟩ := h.blk b B hb
    rw [he] at h1; obtain rfl := Option.some.inj h1
    rcases Nat.lt_or_ge e.cb w.heap.size with h' | h'
    · exact h'
    · rw [Array.getElem?_eq_none h'] at h3; simp at h3
  refine ⟨?_, ?_, ?_, ?_, ?_, ?_, ?_, (h.maps.inj hle).to rfl (Nat.le_succ _) map_alloc⟩
  · intro b hb
    have hb' : aw.next + 1 ≤ b := hb
    simp only [if_neg (show ¬ b = aw.next by omega)]
    exact h.fresh b (by omega)
  · intro b hb
    have hb' : aw.next + 1 ≤ b := hb
    simp only [AW.alloc, if_neg (show ¬ b = aw.next by omega)]
    exact h.mfresh b (by omega)
  · intro b B hb
    simp only [AW.alloc] at hb
    by_cases hbn : b = aw.next
    · subst hbn
      simp only [if_true, Option.some.injEq] at hb
      subst hb
      refine ⟨⟨w.heap.size, 0, cs.size, esz⟩, cs, fz, by simp, ⟨rfl, fun _ => rfl, fun h => ⟨rfl, (h0 h).symm⟩⟩, ?_, rfl, by simpa using hl, ?_, ?_⟩
      · show (w.heap.push _)[w.heap.size]? = _
        simp
      · intro i v hi
        obtain ⟨v', h1, h2⟩ := hv i v hi
        exact ⟨v', by simpa using h1, h2.mono hle⟩
      · intro _
        exact ⟨fun hb => absurd (h.hbase _ hb) (Nat.lt_irrefl _), fun _ j h1 h2 => hfz j h2⟩
    · simp only [if_neg hbn] at hb
      obtain ⟨e, cs', fz', h1, h2, h3, h4, h5, h6, h7⟩ := h.blk b B hb
      refine ⟨e, cs', fz', by simpa [hbn] using h1, h2, ?_, h4, h5, ?_, h7⟩
      · have := hlt b B e hb h1
        show (w.heap.push _)[e.cb]? = _
        rw [Array.getElem?_push, if_neg (by omega)]
        exact h3
      · intro i v hi
        obtain ⟨v', k1, k2⟩ := h6 i v hi
        exact ⟨v', k1, k2.mono hle⟩
  · intro b1 b2 B1 B2 e1 e2 hne hb1 hb2 he1 he2 hrw
    simp only [AW.alloc] at hb1 hb2
    by_cases h1 : b1 = aw.next
    · subst h1
      have h2 : ¬ b2 = aw.next := fun e => hne e.symm
      simp only [if_true, Option.some.injEq, if_neg h2] at he1 he2 hb2
      subst he1
      have := hlt b2 B2 e2 hb2 he2
      simp only; omega
    · simp only [if_neg h1] at hb1 he1
      by_cases h2 : b2 = aw.next
      · subst h2
        simp only [if_true, Option.some.injEq] at he2
        subst he2
        have := hlt b1 B1 e1 hb1 he1
        simp only; omega
      · simp only [if_neg h2] at hb2 he2
        exact h.sep b1 b2 B1 B2 e1 e2 hne hb1 hb2 he1 he2 hrw
  · intro k hk
    have := h.hbase k hk
    simp only [World.size_alloc]; omega
  · intro g hg
    obtain ⟨e, h1, h2, h3⟩ := h.glob g hg
    exact ⟨e, hle _ _ h1, h2, h3⟩
  · exact h.below.alloc h.hbase _
theorem Rel.kill (h : Rel G base w0 s aw w) (b : Nat) : Rel G base w0 s (aw.kill b) w := by
  refine ⟨h.fresh, ?_, ?_, ?_, h.hbase, h.glob, h.below, h.maps.to rfl (Nat.le_refl _) fun _ _ _ hk => hk⟩
  · intro c hc
    simp only [AW.kill]
    split
    · rfl
    · exact h.mfresh c hc
  · intro c B hc
    simp only [AW.kill] at hc
    split at hc
    · simp at hc
    · exact h.blk c B hc
  · intro b1 b2 B1 B2 e1 e2 hne hb1 hb2
    simp only [AW.kill] at hb1 hb2
    split at hb1
    · simp at hb1
    split at hb2
    · simp at hb2
    exact h.sep b1 b2 B1 B2 e1 e2 hne hb1 hb2
theorem Rel.set (h : Rel G base w0 s aw w) {b i : Nat} {B : Blk} (hb : aw.m b = some B) (hrw : B.rw = true) (hi : i < B.cells.length) (hfz : B.fz = 0)
    {v v' : Value} (hv : VR s v v') {e : Ent} (he : s b = some e) :
    w.frozen? ⟨e.cb, e.off + i, none⟩ = false ∧ (w.cell? ⟨e.cb, e.off + i, none⟩).isSome = true ∧ Rel G base w0 s (aw.set b i v) (w.setCell ⟨e.cb, e.off + i, none⟩ v') := by
  obtain ⟨e', cs, fz, h1, h2, h3, h4, h5, h6, h7⟩ := h.blk b B hb
  rw [he] at h1; obtain rfl := Option.some.inj h1
  obtain ⟨h8, h9⟩ := h7 hrw
  have hlt : e.off + i < cs.size := by omega
  refine ⟨?_, ?_, ?_⟩
  · simp only [World.frozen?, h3]
    have := h9 hfz (e.off + i) (by omega) (by omega)
    simp only [Bool.and_eq_false_iff, decide_eq_false_iff_not]
    by_cases hx : fz.1 ≤ e.off + i
    · exact .inr (fun hy => this ⟨hx, hy⟩)
    · exact .inl hx
  · simp [World.cell?, h3, hlt]
  have hheap : ∀ k, (w.setCell ⟨e.cb, e.off + i, none⟩ v').heap[k]? = if k = e.cb then some (.cells (cs.setIfInBounds (e.off + i) v') B.elem fz) else w.heap[k]? := by
    intro k
    simp only [World.setCell, Array.getElem?_modify]
    by_cases hk : k = e.cb
    · subst hk
      simp [h3]
    · rw [if_neg (fun x => hk x.symm), if_neg hk]
  refine ⟨h.fresh, ?_, ?_, ?_, ?_, h.glob, ?_, h.maps.to rfl (Nat.le_refl _) (map_set h3 _)⟩
  · intro c hc
    simp only [AW.set]
    split
    · subst_vars; rw [h.mfresh _ hc]; rfl
    · exact h.mfresh c hc
  · intro c C hc
    simp only [AW.set] at hc
    by_cases hcb : c = b
    · subst hcb
      simp only [if_true, hb, Option.map_some, Option.some.injEq] at hc
      subst hc
      refine ⟨e, cs.setIfInBounds (e.off + i) v', fz, he, ⟨h2.1, h2.2.1, fun h => by simpa using h2.2.2 h⟩, ?_, by simpa using h4, by simpa using h5, ?_, ?_⟩
      · rw [hheap, if_pos rfl]
      · intro j u hj
        simp only at hj
        by_cases hji : j = i
        · subst hji
          rw [List.getElem?_set_self hi] at hj
          obtain rfl := Option.some.inj hj
          exact ⟨v', by simp [hlt], hv⟩
        · rw [List.getElem?_set_ne (fun x => hji x.symm)] at hj
          obtain ⟨u', k1, k2⟩ := h6 j u hj
          refine ⟨u', ?_, k2⟩
          rw [Array.getElem?_setIfInBounds_ne (by omega)]
          exact k1
      · exact fun _ => ⟨h8, h9⟩
    · simp only [if_neg hcb] at hc
      obtain ⟨e2, cs2, fz2, k1, k2, k3, k4, k5, k6, k7⟩ := h.blk c C hc
      have hne : e.cb ≠ e2.cb := h.sep b c B C e e2 (fun x => hcb x.symm) hb hc he k1 hrw
      exact ⟨e2, cs2, fz2, k1, k2, by rw [hheap, if_neg (fun x => hne x.symm)]; exact k3, k4, k5, k6, k7⟩
  · intro b1 b2 B1 B2 e1 e2 hne hb1 hb2 he1 he2 hrw1
    have aux : ∀ c C, (aw.set b i v).m c = some C → ∃ C', aw.m c = some C' ∧ C'.rw = C.rw := by
      intro c C hc
      simp only [AW.set] at hc
      by_cases hcb : c = b
      · subst hcb
        simp only [if_true, hb, Option.map_some, Option.some.injEq] at hc
        subst hc
        exact ⟨B, hb, rfl⟩
      · simp only [if_neg hcb] at hc
        exact ⟨C, hc, rfl⟩
    obtain ⟨C1, k1, k2⟩ := aux b1 B1 hb1
    obtain ⟨C2, k3, _⟩ := aux b2 B2 hb2
    exact h.sep b1 b2 C1 C2 e1 e2 hne k1 k3 he1 he2 (k2.trans hrw1)
  · exact fun k hk => by simpa using h.hbase k hk
  · exact h.below.setCell h8 h3 _
theorem Rel.re (h : Rel G base w0 s aw w) : Rel G base w s aw w := ⟨h.fresh, h.mfresh, h.blk, h.sep, h.hbase, h.glob, Keep.refl _ _, h.maps⟩
theorem Rel.back {w' : World} {s' : Inj} {aw' : AW} (h : Rel G base w0 s aw w) (h' : Rel G base w s' aw' w') : Rel G base w0 s' aw' w' := ⟨h'.fresh, h'.mfresh, h'.blk, h'.sep, h'.hbase, h'.glob, h.below.trans h'.below, h'.maps⟩
end Go.Am
set_option linter.unusedSectionVars false
namespace Go.Am
open Go Go.RowKit
variable [SymE]
abbrev Env := Nat → Value
def Env.put (ρ : Env) (d : Option Tmp) (v : Value) : Env := match d with
  | none => ρ
  | some d => fun t => bif Nat.beq t d then v else ρ t
theorem Env.put_some (ρ : Env) (d : Tmp) (v : Value) : ρ.put (some d) v = fun t => if t = d then v else ρ t := by
  funext t
  simp only [Env.put]
  by_cases h : t = d
  · subst h; simp
  · have : Nat.beq t d = false := by
      cases hb : Nat.beq t d with
      | false => rfl
      | true => exact absurd (Nat.eq_of_beq_eq_true hb) h
    simp [this, h]
def Env.eval (ρ : Env) : Operand → Value
  | .tmp t => ρ t
  | .const v => v
  | .global g => .pointer (some ⟨g, 0, none⟩)
  | .func f => .func (.func f) #[] #[]
def Env.init (args : List Value) : Env := fun t => args.getD t undef
def okOpd (G : Nat) : Operand → Bool
  | .tmp _ | .func _ => true
  | .const v => plain v
  | .global g => decide (g < G)
inductive TR (s : Inj) : Target → Target → Prop
  | fn (fn : Fn) {c1 c2 : Array Value} (h : VRs s c1.toList c2.toList) : TR s (.fn fn c1) (.fn fn c2)
  | nil : TR s .nil .nil
inductive DRs (s : Inj) : List Deferred → List Deferred → Prop
  | nil : DRs s [] []
  | cons {d1 d2 : Deferred} {l1 l2 : List Deferred} (ht : TR s d1.target d2.target) (ha : VRs s d1.args.toList d2.args.toList) (t : DRs s l1 l2) : DRs s (d1 :: l1) (d2 :: l2)
  | mark (r : Nat) {l1 l2 : List Deferred} (t : DRs s l1 l2) : DRs s l1 ({ target := .collected r, args := #[] } :: l2)
def marks (l : List Deferred) : List Nat := l.filterMap fun d => match d.target with
  | .collected r => some r
  | _ => none
theorem marks_fn {s : Inj} {t : Target} {d : Deferred} {l : List Deferred} (h : TR s t d.target) : marks (d :: l) = marks l := by
  unfold marks
  rw [List.filterMap_cons]
  generalize htar : d.target = tar at h
  cases h <;> rfl
theorem marks_mark (r : Nat) (l : List Deferred) : marks ({ target := .collected r, args := #[] } :: l) = r :: marks l := rfl
inductive CRs (s : Inj) : List PanicEntry → List PanicEntry → Prop
  | nil : CRs s [] []
  | cons {v1 v2 : Value} {r g : Bool} {l1 l2 : List PanicEntry} (hv : VR s v1 v2) (t : CRs s l1 l2) : CRs s (⟨v1, r, g⟩ :: l1) (⟨v2, r, g⟩ :: l2)
theorem TR.mono {s t : Inj} (h : s.le t) {a b : Target} : TR s a b → TR t a b
  | .fn f k => .fn f (k.mono h)
  | .nil => .nil
theorem DRs.mono {s t : Inj} (h : s.le t) : ∀ {a b : List Deferred}, DRs s a b → DRs t a b
  | _, _, .nil => .nil
  | _, _, .cons x y z => .cons (x.mono h) (y.mono h) (z.mono h)
  | _, _, .mark r z => .mark r (z.mono h)
theorem CRs.mono {s t : Inj} (h : s.le t) : ∀ {a b : List PanicEntry}, CRs s a b → CRs t a b
  | _, _, .nil => .nil
  | _, _, .cons x z => .cons (x.mono h) (z.mono h)
structure St (G : Nat) (base : Nat → Prop) (w0 : World) (s : Inj) (ρ : Env) (N : Nat) (ds : List Deferred) (aw : AW) (a : Act) (w : World) : Prop where
  rel : Rel G base w0 s aw w
  env : ∀ t, VR s (ρ t) (a.tmps.getD t undef)
  size : a.tmps.size = N
  dfr : DRs s ds a.defers
  mrk : ∀ r ∈ marks a.defers, (w0.heap.size ≤ r ∧ ¬ base r) ∧ w.heap[r]? = some (.deferred (some []))
  nd : (marks a.defers).Nodup
section
variable {G : Nat} {base : Nat → Prop} {w0 : World} {s : Inj} {ρ : Env} {N : Nat} {ds : List Deferred} {aw : AW} {a : Act} {w : World}
theorem St.eval (h : St G base w0 s ρ N ds aw a w) {x : Operand} (hx : okOpd G x = true) : VR s (ρ.eval x) (a.eval x) := by
  cases x with
  | tmp t => exact h.env t
  | const v => exact VR.ofPlain hx
  | global g =>
    obtain ⟨e, h1, h2, h3⟩ := h.rel.glob g (by simpa [okOpd] using hx)
    have := VR.ptr (s := s) (b := g) (o := 0) h1
    simpa [Env.eval, Act.eval, h2, h3] using this
  | func f => exact .func _ .nil .nil
theorem VR.undef {s : Inj} : VR s Go.undef Go.undef := .tuple .nil
theorem put_env {s : Inj} {ρ : Env} {a : Act} (h : ∀ t, VR s (ρ t) (a.tmps.getD t undef)) {dst : Option Tmp} (hd : ∀ d, dst = some d → d < a.tmps.size)
    {v v' : Value} (hv : VR s v v') : ∀ t, VR s (ρ.put dst v t) ((a.put dst v').tmps.getD t undef) := by
  intro t
  cases dst with
  | none => exact h t
  | some d =>
    simp only [Env.put_some, Act.put]
    have hlt := hd d rfl
    by_cases htd : t = d
    · subst htd
      simpa [Array.getElem?_setIfInBounds, hlt] using hv
    · simp only [if_neg htd]
      have := h t
      simpa [Array.getElem?_setIfInBounds_ne (fun x => htd x.symm)] using this
theorem put_size (a : Act) (dst : Option Tmp) (v : Value) : (a.put dst v).tmps.size = a.tmps.size := by
  cases dst <;> simp [Act.put]
theorem put_defers (a : Act) (dst : Option Tmp) (v : Value) : (a.put dst v).defers = a.defers := by
  cases dst <;> simp [Act.put]
theorem St.put (h : St G base w0 s ρ N ds aw a w) {s' : Inj} (hle : s.le s') {aw' : AW} {w' : World} (hr : Rel G base w s' aw' w')
    {dst : Option Tmp} (hd : ∀ d, dst = some d → d < N) {v v' : Value} (hv : VR s' v v') : St G base w0 s' (ρ.put dst v) N ds aw' (a.put dst v') w' :=
  ⟨h.rel.back hr, put_env (fun t => (h.env t).mono hle) (by rw [h.size]; exact hd) hv, by rw [put_size]; exact h.size, by rw [put_defers]; exact h.dfr.mono hle,
    by rw [put_defers]; exact fun r hr' => ⟨(h.mrk r hr').1, hr.below.other r _ (h.mrk r hr').2 rfl⟩, by rw [put_defers]; exact h.nd⟩
theorem St.mono (h : St G base w0 s ρ N ds aw a w) {s' : Inj} (hle : s.le s') {aw' : AW} {w' : World} (hr : Rel G base w s' aw' w') :
    St G base w0 s' ρ N ds aw' a w' :=
  ⟨h.rel.back hr, fun t => (h.env t).mono hle, h.size, h.dfr.mono hle, fun r hr' => ⟨(h.mrk r hr').1, hr.below.other r _ (h.mrk r hr').2 rfl⟩, h.nd⟩
end
inductive ADone where
  | ret
  | panic (chain : List PanicEntry)
inductive MR (s : Inj) : ADone → FrameMode → Prop
  | ret : MR s .ret .returning
  | panic {c1 c2 : List PanicEntry} (h : CRs s c1 c2) : MR s (.panic c1) (.panicking c2)
def AGo (P : Program) (N : Nat) (todo : List Item) (ρ : Env) (ds : List Deferred) (aw : AW) (R : ADone → Env → List Deferred → AW → Prop) : Prop :=
  ∀ (base : Nat → Prop) (w0 : World) (s : Inj) (a : Act) (w : World) (b : Frame) (cs : List Frame), St P.globals.size base w0 s ρ N ds aw a w →
    ∃ m todo' a' w', Steps P (lone (b.at a todo) cs w) (lone { b.at a' todo' with mode := m } cs w') ∧
      ∃ s' d ρ' ds' aw', s.le s' ∧ St P.globals.size base w0 s' ρ' N ds' aw' a' w' ∧ MR s' d m ∧ R d ρ' ds' aw'
section
variable {P : Program} {N : Nat} {k : List Item} {ρ : Env} {ds : List Deferred} {aw : AW} {R : ADone → Env → List Deferred → AW → Prop}
theorem AGo.head {todo todo' : List Item} (hs : ∀ (b : Frame) (a : Act) (cs : List Frame) (w : World), step P (lone (b.at a todo) cs w) = .next (lone (b.at a todo') cs w))
    (h : AGo P N todo' ρ ds aw R) : AGo P N todo ρ ds aw R := by
  intro base w0 s a w b cs hst
  obtain ⟨m, t', a', w', h1, h2⟩ := h base w0 s a w b cs hst
  exact ⟨m, t', a', w', .head (hs b a cs w) h1, h2⟩
theorem ago_seq {x y : Code} (h : AGo P N (.code x :: .code y :: k) ρ ds aw R) : AGo P N (.code (.seq x y) :: k) ρ ds aw R := .head (fun _ _ _ _ => step_seq) h
theorem ago_skip (h : AGo P N k ρ ds aw R) : AGo P N (.code .skip :: k) ρ ds aw R := .head (fun _ _ _ _ => step_skip) h
theorem ago_label {l : Nat} (h : AGo P N k ρ ds aw R) : AGo P N (.code (.label l) :: k) ρ ds aw R := .head (fun _ _ _ _ => step_label) h
theorem ago_inBlock {id : Nat} (h : AGo P N k ρ ds aw R) : AGo P N (.inBlock id :: k) ρ ds aw R := .head (fun _ _ _ _ => step_inBlock) h
theorem ago_block {id : Nat} {c : Code} (h : AGo P N (.code c :: .inBlock id :: k) ρ ds aw R) : AGo P N (.code (.block id c) :: k) ρ ds aw R := .head (fun _ _ _ _ => step_block) h
theorem ago_loop {c : Code} (h : AGo P N (.code c :: .inLoop c :: k) ρ ds aw R) : AGo P N (.code (.loop c) :: k) ρ ds aw R := .head (fun _ _ _ _ => step_loop) h
theorem ago_inLoop {c : Code} (h : AGo P N (.code c :: .inLoop c :: k) ρ ds aw R) : AGo P N (.inLoop c :: k) ρ ds aw R := .head (fun _ _ _ _ => step_inLoop) h
theorem step_scope' {P : Program} {b : Frame} {a : Act} {k : List Item} {cs : List Frame} {w : World} {c : Code} :
    step P (lone (b.at a (.code (.scope c) :: k)) cs w) = .next (lone (b.at a (.code c :: .inScope c :: k)) cs w) :=
  step_lone_go (by simp [stepG, stepG.exec, Frame.at])
theorem step_inScope' {P : Program} {b : Frame} {a : Act} {k : List Item} {cs : List Frame} {w : World} {c : Code} :
    step P (lone (b.at a (.inScope c :: k)) cs w) = .next (lone (b.at a k) cs w) :=
  step_lone_go (by simp [stepG, stepG.exec, Frame.at])
theorem ago_scope {c : Code} (h : AGo P N (.code c :: .inScope c :: k) ρ ds aw R) : AGo P N (.code (.scope c) :: k) ρ ds aw R := .head (fun _ _ _ _ => step_scope') h
theorem ago_inScope {c : Code} (h : AGo P N k ρ ds aw R) : AGo P N (.inScope c :: k) ρ ds aw R := .head (fun _ _ _ _ => step_inScope') h
theorem ago_exit {id : Nat} {k' : List Item} (hk : exitTo id k = some k') (h : AGo P N k' ρ ds aw R) : AGo P N (.code (.exit id) :: k) ρ ds aw R :=
  .head (fun _ _ _ _ => step_exit hk) h
theorem ago_goto {l : Nat} {k' : List Item} (hk : gotoIn l k = some k') (h : AGo P N k' ρ ds aw R) : AGo P N (.code (.goto l) :: k) ρ ds aw R :=
  .head (fun _ _ _ _ => step_goto hk) h
theorem ago_cond {c : Operand} {x y : Code} {t : Bool} (hok : okOpd P.globals.size c = true) (hc : ρ.eval c = .bool t)
    (hx : t = true → AGo P N (.code x :: k) ρ ds aw R) (hy : t = false → AGo P N (.code y :: k) ρ ds aw R) : AGo P N (.code (.cond c x y) :: k) ρ ds aw R := by
  intro base w0 s a w b cs hst
  have hv := hst.eval hok
  rw [hc] at hv
  have he : a.eval c = .bool t := by
    generalize a.eval c = u at hv
    cases hv; rfl
  cases t with
  | true =>
    obtain ⟨m, t', a', w', h1, h2⟩ := hx rfl base w0 s a w b cs hst
    exact ⟨m, t', a', w', .head (step_cond he) (by simpa using h1), h2⟩
  | false =>
    obtain ⟨m, t', a', w', h1, h2⟩ := hy rfl base w0 s a w b cs hst
    exact ⟨m, t', a', w', .head (step_cond he) (by simpa using h1), h2⟩
theorem ago_ret (h : R .ret ρ ds aw) : AGo P N (.code .ret :: k) ρ ds aw R := by
  intro base w0 s a w b cs hst
  exact ⟨.returning, _, a, w, .one step_ret, s, .ret, ρ, ds, aw, Inj.le_refl s, hst, .ret, h⟩
theorem ago_nil (h : R .ret ρ ds aw) : AGo P N [] ρ ds aw R := by
  intro base w0 s a w b cs hst
  exact ⟨.returning, _, a, w, .one step_end, s, .ret, ρ, ds, aw, Inj.le_refl s, hst, .ret, h⟩
end
def QQ (G : Nat) (base : Nat → Prop) (w0 : World) (s : Inj) (N : Nat) (Kn : Env → List Deferred → AW → Prop) (Kp : List PanicEntry → Env → List Deferred → AW → Prop) : Exit → Act → World → Prop
  | .normal, a, w => ∃ s' ρ ds aw, s.le s' ∧ St G base w0 s' ρ N ds aw a w ∧ Kn ρ ds aw
  | .panic ch, a, w => ∃ s' ρ ds aw ch', s.le s' ∧ St G base w0 s' ρ N ds aw a w ∧ CRs s' ch' ch ∧ Kp ch' ρ ds aw
  | _, _, _ => False
theorem QQ.mono {G : Nat} {base : Nat → Prop} {w0 : World} {s t : Inj} {N : Nat} {Kn : Env → List Deferred → AW → Prop} {Kp : List PanicEntry → Env → List Deferred → AW → Prop}
    (hst : s.le t) : ∀ {e : Exit} {a : Act} {w : World}, QQ G base w0 t N Kn Kp e a w → QQ G base w0 s N Kn Kp e a w
  | .normal, _, _, ⟨s', ρ, ds, aw, h, k⟩ => ⟨s', ρ, ds, aw, Inj.le_trans hst h, k⟩
  | .panic _, _, _, ⟨s', ρ, ds, aw, ch, h, k⟩ => ⟨s', ρ, ds, aw, ch, Inj.le_trans hst h, k⟩
  | .exit _, _, _, h => h.elim
  | .goto _, _, _, h => h.elim
  | .ret, _, _, h => h.elim
  | .outgrown, _, _, h => h.elim
def AOps (P : Program) (N : Nat) (ops : Array Oper) (l : List Nat) (ρ : Env) (ds : List Deferred) (aw : AW)
    (Kn : Env → List Deferred → AW → Prop) (Kp : List PanicEntry → Env → List Deferred → AW → Prop) : Prop :=
  ∀ (base : Nat → Prop) (w0 : World) (s : Inj) (a : Act) (w : World), St P.globals.size base w0 s ρ N ds aw a w → wpOps P ops (QQ P.globals.size base w0 s N Kn Kp) l a w
theorem wpOps_mono {P : Program} {ops : Array Oper} {Q Q' : Exit → Act → World → Prop} (h : ∀ e a w, Q e a w → Q' e a w) (hq : ∀ a w, ¬ Q .outgrown a w) :
    ∀ (l : List Nat) (a : Act) (w : World), wpOps P ops Q l a w → wpOps P ops Q' l a w := by
  intro l
  induction l with
  | nil => intro a w hh; exact h _ _ _ hh
  | cons i rest ih =>
    intro a w hh
    simp only [wpOps] at hh ⊢
    split
    · rename_i ho; simp only [ho] at hh; exact ih _ _ hh
    · rename_i o ho
      simp only [ho] at hh
      split
      · rename_i hw
        simp only [hw, if_true] at hh
        rcases hh with hh | ⟨_, a0, w0, hh⟩
        · left
          unfold Oper.wp at *
          generalize (execOp a.eval o).run P w = r at *
          cases r with
          | ok n w' =>
            cases n <;> simp only [Oper.upon] at hh ⊢ <;>
              first
                | exact ih _ _ hh
                | exact Calls.mono hh (fun e w'' he => by
                    cases e with
                    | returned v => exact ih _ _ he
                    | panicked ch => exact h _ _ _ he
                    | outgrown => exact absurd he (by rintro ⟨a, w, hx⟩; exact hq _ _ hx))
                | exact Rows.mono hh (fun _ _ he => ih _ _ he)
          | halt x w' => cases x <;> simp only [Oper.upon] at hh ⊢ <;> exact h _ _ _ hh
        · exact absurd hh (hq _ _)
      · rename_i hw
        simp only [hw] at hh
        exact ih _ _ hh
theorem QQ.not_outgrown {G : Nat} {base : Nat → Prop} {w0 : World} {s : Inj} {N : Nat} {Kn : Env → List Deferred → AW → Prop} {Kp : List PanicEntry → Env → List Deferred → AW → Prop} :
    ∀ a w, ¬ QQ G base w0 s N Kn Kp .outgrown a w := fun _ _ h => h
section
variable {P : Program} {N : Nat} {k : List Item} {ρ : Env} {ds : List Deferred} {aw : AW} {R : ADone → Env → List Deferred → AW → Prop}
theorem ago_of_wp {c : Code} (h : ∀ (base : Nat → Prop) (w0 : World) (s : Inj) (a : Act) (w : World), St P.globals.size base w0 s ρ N ds aw a w →
      c.wp P (QQ P.globals.size base w0 s N (fun ρ' ds' aw' => AGo P N k ρ' ds' aw' R) (fun ch ρ' ds' aw' => R (.panic ch) ρ' ds' aw')) a w) :
    AGo P N (.code c :: k) ρ ds aw R := by
  intro base w0 s a w b cs hst
  obtain ⟨e, a1, w1, hq, harr⟩ := h base w0 s a w hst b k cs
  cases e with
  | normal =>
    obtain ⟨s', ρ', ds', aw', hle, hst', hgo⟩ := hq
    obtain ⟨m, t', a', w', h1, s2, d, ρ2, ds2, aw2, h2, h3⟩ := hgo base w0 s' a1 w1 b cs hst'
    exact ⟨m, t', a', w', Steps.trans harr h1, s2, d, ρ2, ds2, aw2, Inj.le_trans hle h2, h3⟩
  | panic ch =>
    obtain ⟨s', ρ', ds', aw', ch', hle, hst', hc, hr⟩ := hq
    obtain ⟨todo, hs⟩ := harr
    exact ⟨.panicking ch, todo, a1, w1, hs, s', .panic ch', ρ', ds', aw', hle, hst', .panic hc, hr⟩
  | exit id => exact hq.elim
  | goto l => exact hq.elim
  | ret => exact hq.elim
  | outgrown => exact hq.elim
theorem ago_region {id : Nat} {ops : Array Oper} {n : Nat} (hn : ops.size = n)
    (h : AOps P N ops (List.range n) ρ ds aw (fun ρ' ds' aw' => AGo P N k ρ' ds' aw' R) (fun ch ρ' ds' aw' => R (.panic ch) ρ' ds' aw')) :
    AGo P N (.code (.region id ops false) :: k) ρ ds aw R :=
  ago_of_wp fun base w0 s a w hst => wp_region (by rw [hn]; exact h base w0 s a w hst)
end
section
variable {P : Program} {N : Nat} {ops : Array Oper} {i : Nat} {rest : List Nat} {ρ : Env} {ds : List Deferred} {aw aw' : AW}
  {Kn : Env → List Deferred → AW → Prop} {Kp : List PanicEntry → Env → List Deferred → AW → Prop} {o : Oper}
theorem aops_nil (h : Kn ρ ds aw) : AOps P N ops [] ρ ds aw Kn Kp :=
  fun _ _ s _ _ hst => ⟨s, ρ, ds, aw, Inj.le_refl s, hst, h⟩
def OpV (P : Program) (o : Oper) (ρ : Env) (aw : AW) (v : Value) (aw' : AW) : Prop :=
  ∀ (base : Nat → Prop) (w0 : World) (s : Inj) (f : Operand → Value) (w : World), Rel P.globals.size base w0 s aw w →
    (∀ x, okOpd P.globals.size x = true → VR s (ρ.eval x) (f x)) →
    ∃ n v' w' s', (execOp f o).run P w = .ok n w' ∧ (n = .value v' ∨ (n = .skip ∧ v' = undef)) ∧ s.le s' ∧ Rel P.globals.size base w0 s' aw' w' ∧ VR s' v v'
def wants (ops : Array Oper) (o : Oper) (ρ : Env) (b : Bool) : Prop :=
  match o.guard with
  | none => b = true
  | some (j, want) => ∃ t, (ops[j]?).bind (·.dst) = some t ∧ ((∃ u, ρ t = .bool u ∧ b = (u == want)) ∨ (ρ t = undef ∧ b = false))
theorem wants_spec {s : Inj} {a : Act} (henv : ∀ t, VR s (ρ t) (a.tmps.getD t undef)) {b : Bool} (h : wants ops o ρ b) (hsz : ∀ (j t : Nat), (ops[j]?).bind (fun (o : Oper) => o.dst) = some t → t < a.tmps.size) :
    Region.wanted o (yielded ops a.tmps) = b := by
  unfold wants at h
  unfold Region.wanted
  cases hg : o.guard with
  | none => simp only [hg] at h; simp [h]
  | some p =>
    obtain ⟨j, want⟩ := p
    simp only [hg] at h
    obtain ⟨t, h1, h⟩ := h
    have hlt := hsz j t h1
    have he := henv t
    have hx : a.tmps.getD t undef = a.tmps[t] := by simp [Array.getD, hlt]
    rw [hx] at he
    rcases h with ⟨u, h2, rfl⟩ | ⟨h2, rfl⟩
    · rw [h2] at he
      have : a.tmps[t]? = some (.bool u) := by
        rw [Array.getElem?_eq_getElem hlt]
        generalize a.tmps[t] = q at he
        cases he; rfl
      simp only [yielded, h1, Option.bind_some, this]
      cases u <;> cases want <;> rfl
    · rw [h2] at he
      have : ∃ ys, a.tmps[t]? = some (.tuple ys) := by
        rw [Array.getElem?_eq_getElem hlt]
        generalize a.tmps[t] = q at he
        cases he with | tuple _ => exact ⟨_, rfl⟩
      obtain ⟨ys, this⟩ := this
      simp only [yielded, h1, Option.bind_some, this]
      rfl
def dstsOk (N : Nat) (ops : Array Oper) : Bool := ops.toList.all fun o => match o.dst with | some d => decide (d < N) | none => true
theorem dstsOk_get (h : dstsOk N ops = true) {j t : Nat} (hj : (ops[j]?).bind (·.dst) = some t) : t < N := by
  cases ho : ops[j]? with
  | none => simp [ho] at hj
  | some o =>
    simp only [ho, Option.bind_some] at hj
    simp only [dstsOk, List.all_eq_true] at h
    have hmem : o ∈ ops.toList := by
      rw [Array.mem_toList_iff]
      exact Array.mem_of_getElem? ho
    have := h o hmem
    simp only [hj, decide_eq_true_eq] at this
    exact this
theorem aops_val {v : Value} (hN : dstsOk N ops = true) (ho : ops[i]? = some o) (hg : wants ops o ρ true) (hv : OpV P o ρ aw v aw')
    (hk : AOps P N ops rest (ρ.put o.dst v) ds aw' Kn Kp) : AOps P N ops (i :: rest) ρ ds aw Kn Kp := by
  intro base w0 s a w hst
  have hw := wants_spec hst.env hg (fun j t hj => by rw [hst.size]; exact dstsOk_get hN hj)
  simp only [wpOps, ho, hw, if_true]
  left
  obtain ⟨n, v', w', s', h1, h2, h3, h4, h5⟩ := hv base w s a.eval w hst.rel.re (fun x hx => hst.eval hx)
  have hd : ∀ d, o.dst = some d → d < N := fun d hd => dstsOk_get hN (j := i) (by simp [ho, hd])
  have := hk base w0 s' (a.put o.dst v') w' (hst.put h3 h4 hd h5)
  unfold Oper.wp
  rw [h1]
  rcases h2 with rfl | ⟨rfl, rfl⟩
  · exact wpOps_mono (fun e a w => QQ.mono h3) QQ.not_outgrown _ _ _ this
  · exact wpOps_mono (fun e a w => QQ.mono h3) QQ.not_outgrown _ _ _ this
theorem aops_skip (hN : dstsOk N ops = true) (ho : ops[i]? = some o) (hg : wants ops o ρ false)
    (hk : AOps P N ops rest (ρ.put o.dst undef) ds aw Kn Kp) : AOps P N ops (i :: rest) ρ ds aw Kn Kp := by
  intro base w0 s a w hst
  have hw := wants_spec hst.env hg (fun j t hj => by rw [hst.size]; exact dstsOk_get hN hj)
  have hd : ∀ d, o.dst = some d → d < N := fun d hd => dstsOk_get hN (j := i) (by simp [ho, hd])
  simp only [wpOps, ho, hw]
  exact hk base w0 s (a.put o.dst undef) w (hst.put (Inj.le_refl s) hst.rel.re hd VR.undef)
def OpP (P : Program) (o : Oper) (ρ : Env) (aw : AW) (v : Value) : Prop :=
  ∀ (base : Nat → Prop) (w0 : World) (s : Inj) (f : Operand → Value) (w : World), Rel P.globals.size base w0 s aw w →
    (∀ x, okOpd P.globals.size x = true → VR s (ρ.eval x) (f x)) → ∃ v', (execOp f o).run P w = .halt (.panic v') w ∧ VR s v v'
theorem aops_panic {v : Value} (hN : dstsOk N ops = true) (ho : ops[i]? = some o) (hg : wants ops o ρ true) (hv : OpP P o ρ aw v)
    (hk : Kp [⟨v, false, false⟩] ρ ds aw) : AOps P N ops (i :: rest) ρ ds aw Kn Kp := by
  intro base w0 s a w hst
  have hw := wants_spec hst.env hg (fun j t hj => by rw [hst.size]; exact dstsOk_get hN hj)
  simp only [wpOps, ho, hw, if_true]
  left
  obtain ⟨v', h1, h2⟩ := hv base w0 s a.eval w hst.rel (fun x hx => hst.eval hx)
  unfold Oper.wp
  rw [h1]
  exact ⟨s, ρ, ds, aw, _, Inj.le_refl s, hst, .cons h2 .nil, hk⟩
inductive AEnd where
  | returned (v : Value)
  | panicked (chain : List PanicEntry)
inductive ER (s : Inj) : AEnd → Ending → Prop
  | returned {v v' : Value} (h : VR s v v') : ER s (.returned v) (.returned v')
  | panicked {c c' : List PanicEntry} (h : CRs s c c') : ER s (.panicked c) (.panicked c')
def EQ (G : Nat) (base : Nat → Prop) (w0 : World) (s : Inj) (Q : AEnd → AW → Prop) (e : Ending) (w' : World) : Prop :=
  ∃ s' ae aw', s.le s' ∧ Rel G base w0 s' aw' w' ∧ ER s' ae e ∧ Q ae aw'
def ACalls (P : Program) (f : FuncId) (args : List Value) (aw : AW) (Q : AEnd → AW → Prop) : Prop :=
  ∀ (base : Nat → Prop) (w0 : World) (s : Inj) (args' : List Value) (w : World), Rel P.globals.size base w0 s aw w → VRs s args args' →
    Calls P f args'.toArray w (EQ P.globals.size base w0 s Q)
theorem ACalls.mono {f : FuncId} {args : List Value} {Q Q' : AEnd → AW → Prop} (h : ACalls P f args aw Q) (hq : ∀ e w, Q e w → Q' e w) : ACalls P f args aw Q' :=
  fun base w0 s args' w hr hv => (h base w0 s args' w hr hv).mono fun _ _ ⟨s', ae, aw', h1, h2, h3, h4⟩ => ⟨s', ae, aw', h1, h2, h3, hq _ _ h4⟩
def OpC (P : Program) (o : Oper) (ρ : Env) (fid : FuncId) (args : List Value) : Prop :=
  ∀ (s : Inj) (f : Operand → Value) (w : World), (∀ x, okOpd P.globals.size x = true → VR s (ρ.eval x) (f x)) →
    ∃ args', (execOp f o).run P w = .ok (.enter fid args'.toArray) w ∧ VRs s args args'
theorem aops_call {fid : FuncId} {args : List Value} (hN : dstsOk N ops = true) (ho : ops[i]? = some o) (hg : wants ops o ρ true) (hc : OpC P o ρ fid args)
    (h : ACalls P fid args aw fun
      | .returned v, aw' => AOps P N ops rest (ρ.put o.dst v) ds aw' Kn Kp
      | .panicked ch, aw' => Kp ch ρ ds aw') : AOps P N ops (i :: rest) ρ ds aw Kn Kp := by
  intro base w0 s a w hst
  have hw := wants_spec hst.env hg (fun j t hj => by rw [hst.size]; exact dstsOk_get hN hj)
  have hd : ∀ d, o.dst = some d → d < N := fun d hd => dstsOk_get hN (j := i) (by simp [ho, hd])
  simp only [wpOps, ho, hw, if_true]
  left
  obtain ⟨args', h1, h2⟩ := hc s a.eval w (fun x hx => hst.eval hx)
  unfold Oper.wp
  rw [h1]
  refine (h base w s args' w hst.rel.re h2).mono ?_
  rintro e w' ⟨s', ae, aw2, hle, hrel, her, hq⟩
  cases her with
  | returned hv =>
    exact wpOps_mono (fun e a w => QQ.mono hle) QQ.not_outgrown _ _ _ (hq base w0 s' _ w' (hst.put hle hrel hd hv))
  | panicked hv =>
    exact ⟨s', ρ, ds, aw2, _, hle, hst.mono hle hrel, hv, hq⟩
def OpD (P : Program) (o : Oper) (ρ : Env) (d : Deferred) : Prop :=
  ∀ (s : Inj) (f : Operand → Value) (w : World), (∀ x, okOpd P.globals.size x = true → VR s (ρ.eval x) (f x)) →
    ∃ d', (execOp f o).run P w = .ok (.defer d') w ∧ TR s d.target d'.target ∧ VRs s d.args.toList d'.args.toList
theorem aops_defer {d : Deferred} (hN : dstsOk N ops = true) (ho : ops[i]? = some o) (hg : wants ops o ρ true) (hc : OpD P o ρ d)
    (hk : AOps P N ops rest (ρ.put o.dst undef) (d :: ds) aw Kn Kp) : AOps P N ops (i :: rest) ρ ds aw Kn Kp := by
  intro base w0 s a w hst
  have hw := wants_spec hst.env hg (fun j t hj => by rw [hst.size]; exact dstsOk_get hN hj)
  have hd : ∀ d, o.dst = some d → d < N := fun d hd => dstsOk_get hN (j := i) (by simp [ho, hd])
  simp only [wpOps, ho, hw, if_true]
  left
  obtain ⟨d', h1, h2, h3⟩ := hc s a.eval w (fun x hx => hst.eval hx)
  unfold Oper.wp
  rw [h1]
  have hst2 := hst.put (Inj.le_refl s) hst.rel.re hd (VR.undef (s := s))
  have hst3 : St P.globals.size base w0 s (ρ.put o.dst undef) N (d :: ds) aw (({ a with defers := d' :: a.defers } : Act).put o.dst undef) w := by
    rw [← Act.put_defers]
    exact ⟨hst2.rel, hst2.env, hst2.size, .cons h2 h3 hst2.dfr, by rw [marks_fn h2]; exact hst2.mrk, by rw [marks_fn h2]; exact hst2.nd⟩
  exact hk base w0 s _ w hst3
end
def ARes (P : Program) (fn : Func) (N : Nat) (ρ : Env) (aw : AW) (v : Value) : Prop :=
  ∀ (base : Nat → Prop) (w0 : World) (s : Inj) (tmps : Array Value) (w : World), Rel P.globals.size base w0 s aw w → (∀ t, VR s (ρ t) (tmps.getD t undef)) → tmps.size = N →
    ∃ v', (results fn tmps).run P w = .ok v' w ∧ VR s v v'
theorem init_env {s : Inj} {args args' : List Value} {N : Nat} (h : VRs s args args') (hN : args.length ≤ N) :
    (∀ t, VR s (Env.init args t) ((args'.toArray ++ Array.replicate (N - args'.toArray.size) undef).getD t undef)) ∧
      (args'.toArray ++ Array.replicate (N - args'.toArray.size) undef).size = N := by
  have hl := h.length
  refine ⟨fun t => ?_, by simp; omega⟩
  unfold Env.init
  by_cases ht : t < args.length
  · obtain ⟨v', h1, h2⟩ := h.get (List.getElem?_eq_getElem ht)
    have ht' : t < args'.length := by omega
    have e1 : args.getD t undef = args[t] := by simp [List.getD, ht]
    have e2 : (args'.toArray ++ Array.replicate (N - args'.toArray.size) undef).getD t undef = v' := by
      simp only [Array.getD_eq_getD_getElem?]
      rw [Array.getElem?_append_left (by simpa using ht')]
      simp [h1]
    rw [e1, e2]; exact h2
  · have e1 : args.getD t undef = undef := by simp [List.getD, List.getElem?_eq_none (Nat.le_of_not_lt ht)]
    have e2 : (args'.toArray ++ Array.replicate (N - args'.toArray.size) undef).getD t undef = undef := by
      simp only [Array.getD_eq_getD_getElem?]
      rw [Array.getElem?_append_right (by simp; omega)]
      rw [Array.getElem?_replicate]
      split <;> rfl
    rw [e1, e2]; exact VR.undef
theorem Rel.putObj {G : Nat} {base : Nat → Prop} {w0 w : World} {s : Inj} {aw : AW} (h : Rel G base w0 s aw w) {r : Nat} {o : Obj} (ho : w.heap[r]? = some o) (hc : sto o = false) (h0 : w0.heap.size ≤ r) (hb : ¬ base r) (o' : Obj) : Rel G base w0 s aw (w.putObj r o') := by
  have hoth : ∀ k, k ≠ r → (w.putObj r o').heap[k]? = w.heap[k]? := fun k hk => World.putObj_heap_other hk
  refine ⟨h.fresh, h.mfresh, fun b B hB => ?_, h.sep, fun k hk => by rw [World.putObj_size]; exact h.hbase k hk, h.glob,
    ⟨h.below.os, h.below.tape, h.below.output, by rw [World.putObj_size]; exact h.below.size, fun k hk => (hoth k (fun e => hb (e ▸ hk))).trans (h.below.block k hk), fun k o2 h2 hn => ?_⟩, h.maps.to rfl (Nat.le_refl _) fun k xs ck hk => ?_⟩
  · obtain ⟨e, cs, fz, h1, h2, h3, h4⟩ := h.blk b B hB
    refine ⟨e, cs, fz, h1, h2, ?_, h4⟩
    rw [hoth _ (fun e' => ?_)]
    · exact h3
    · rw [e', ho] at h3
      obtain rfl := Option.some.inj h3
      cases hc
  · have hk := (Array.getElem?_eq_some_iff.1 h2).1
    rw [hoth k (by omega)]
    exact h.below.other k o2 h2 hn
  · rw [hoth k (fun e => by subst e; rw [ho] at hk; cases hk; cases hc)]
    exact hk
theorem clear_marks {P : Program} {G : Nat} {base : Nat → Prop} {w0 : World} {s : Inj} {aw : AW} {cs : List Frame} : ∀ {q : List Deferred} {w : World} {fr : Frame}, DRs s [] q → fr.mode ≠ .run → fr.defers = q → Rel G base w0 s aw w →
    (∀ r ∈ marks q, (w0.heap.size ≤ r ∧ ¬ base r) ∧ w.heap[r]? = some (.deferred (some []))) → (marks q).Nodup →
    ∃ w', Steps P (lone fr cs w) (lone { fr with defers := [] } cs w') ∧ Rel G base w0 s aw w'
  | [], w, fr, _, _, hd, hr, _, _ => ⟨w, by rw [← hd]; exact Steps.refl P _, hr⟩
  | d :: q, w, fr, hdr, hm, hd, hr, hmk, hnd => by
    cases hdr with
    | mark r t =>
      rw [marks_mark] at hmk hnd
      obtain ⟨⟨h1, h2⟩, h3⟩ := hmk r (List.mem_cons_self ..)
      have hs := step_collected (P := P) (cs := cs) hm hd rfl (run_takeDeferred h3)
      have hr' := hr.putObj h3 rfl h1 h2 (.deferred none)
      obtain ⟨w', k1, k2⟩ := clear_marks (P := P) (cs := cs) (fr := { fr with defers := [] ++ q }) t hm rfl hr' (fun r' hr'' => by
        obtain ⟨a1, a2⟩ := hmk r' (List.mem_cons_of_mem _ hr'')
        refine ⟨a1, ?_⟩
        have hne : r' ≠ r := fun e => (List.nodup_cons.1 hnd).1 (e ▸ hr'')
        rw [World.putObj_heap_other hne]
        exact a2) (List.nodup_cons.1 hnd).2
      exact ⟨w', .head hs k1, k2⟩
theorem acalls_of_ago {P : Program} {f : FuncId} {fn : Func} {c : Code} {N : Nat} {args : List Value} {aw : AW} {Q : AEnd → AW → Prop}
    (hf : P.funcs[f]? = some fn) (hb : fn.body = some c) (hn : fn.ntmps = N) (hN : args.length ≤ N)
    (h : AGo P N [.code c] (Env.init args) [] aw fun d ρ ds aw' => ds = [] ∧ match d with
      | .ret => ∃ v, ARes P fn N ρ aw' v ∧ Q (.returned v) aw'
      | .panic ch => Q (.panicked ch) aw') : ACalls P f args aw Q := by
  intro base w0 s args' w hrel hv cs
  obtain ⟨henv, hsz⟩ := init_env hv hN
  let b : Frame := { (default : Frame) with fn := f, kind := .normal }
  let a : Act := { tmps := args'.toArray ++ Array.replicate (fn.ntmps - args'.toArray.size) undef, defers := [] }
  have henter : Frame.enter P f args'.toArray .normal = b.at a [.code c] := by
    simp [Frame.enter, Frame.at, hf, hb, b, a]
  rw [henter]
  obtain ⟨m, t', a', w', hs, s', d, ρ', ds', aw', hle, hst, hm, hds, hr⟩ := h base w s a w b cs
    ⟨hrel.re, by simp only [a, hn]; exact henv, by simp only [a, hn]; exact hsz, .nil, (fun r h => by cases h), .nil⟩
  subst hds
  obtain ⟨w2, hcl, hrel2⟩ := clear_marks (P := P) (cs := cs) (fr := { b.at a' t' with mode := m }) hst.dfr (by cases hm <;> simp) rfl hst.rel hst.mrk hst.nd
  have hall := Steps.trans hs hcl
  cases hm with
  | ret =>
    obtain ⟨v, hres, hq⟩ := hr
    obtain ⟨v', h1, h2⟩ := hres base w s' a'.tmps w2 hrel2 hst.env hst.size
    exact ⟨.returned v', w2, _, ⟨s', .returned v, aw', hle, hrel.back hrel2, .returned h2, hq⟩, hall, rfl, rfl, rfl, rfl, fn, hf, h1⟩
  | panic hc =>
    exact ⟨.panicked _, w2, _, ⟨s', .panicked _, aw', hle, hrel.back hrel2, .panicked hc, hr⟩, hall, rfl, rfl, rfl, fn, hf⟩
end Go.Am
set_option linter.unusedSectionVars false
namespace Go.Am
open Go Go.RowKit
variable [SymE]
theorem VR.bool_inv {s : Inj} {b : Bool} {v : Value} (h : VR s (.bool b) v) : v = .bool b := by cases h; rfl
theorem VR.int_inv {s : Inj} {k : IntKind} {n : Int} {v : Value} (h : VR s (.int k n) v) : v = .int k n := by cases h; rfl
theorem VR.string_inv {s : Inj} {x : ByteArray} {v : Value} (h : VR s (.string x) v) : v = .string x := by cases h; rfl
theorem VR.ptr_inv {s : Inj} {b i : Nat} {v : Value} (h : VR s (.pointer (some ⟨b, i, none⟩)) v) : ∃ e, s b = some e ∧ v = .pointer (some ⟨e.cb, e.off + i, none⟩) := by
  cases h with | ptr h => exact ⟨_, h, rfl⟩
theorem VR.agg_inv {s : Inj} {xs : Array Value} {v : Value} (h : VR s (.agg xs) v) : ∃ ys, v = .agg ys ∧ VRs s xs.toList ys.toList := by
  cases h with | agg h => exact ⟨_, rfl, h⟩
theorem VR.tuple_inv {s : Inj} {xs : Array Value} {v : Value} (h : VR s (.tuple xs) v) : ∃ ys, v = .tuple ys ∧ VRs s xs.toList ys.toList := by
  cases h with | tuple h => exact ⟨_, rfl, h⟩
theorem VR.iface_inv {s : Inj} {t : TypeId} {x v : Value} (h : VR s (.iface t x) v) : ∃ y, v = .iface t y ∧ VR s x y := by
  cases h with | iface _ h => exact ⟨_, rfl, h⟩
theorem VR.nilIface_inv {s : Inj} {v : Value} (h : VR s .nilIface v) : v = .nilIface := by cases h; rfl
theorem VR.func_inv {s : Inj} {fn : Fn} {a c : Array Value} {v : Value} (h : VR s (.func fn a c) v) : ∃ a' c', v = .func fn a' c' ∧ VRs s a.toList a'.toList ∧ VRs s c.toList c'.toList := by
  cases h with | func _ h1 h2 => exact ⟨_, _, rfl, h1, h2⟩
def one (v : Value) : Bool := v.oneCell'
theorem VR.one {s : Inj} {v v' : Value} (h : VR s v v') : v'.oneCell' = v.oneCell' := by
  cases h <;> first | rfl | skip
  rename_i i
  rcases SymE.leaf i with ⟨k, n, e⟩ | ⟨x, e⟩ <;> rw [e] <;> rfl
theorem VR.cells {s : Inj} {v v' : Value} (h : VR s v v') : VRs s v.cells.toList v'.cells.toList := by
  cases h with
  | agg h => exact h
  | bool b => exact .cons (.bool b) .nil
  | int k n => exact .cons (.int k n) .nil
  | float k n => exact .cons (.float k n) .nil
  | string x => exact .cons (.string x) .nil
  | nilptr => exact .cons .nilptr .nil
  | ptr h => exact .cons (.ptr h) .nil
  | nilslice => exact .cons .nilslice .nil
  | slice h1 h2 h3 => exact .cons (.slice h1 h2 h3) .nil
  | nilmap => exact .cons .nilmap .nil
  | func fn h1 h2 => exact .cons (.func fn h1 h2) .nil
  | nilFunc => exact .cons .nilFunc .nil
  | iface t h => exact .cons (.iface t h) .nil
  | nilIface => exact .cons .nilIface .nil
  | tuple h => exact .cons (.tuple h) .nil
  | mapp h => exact .cons (.mapp h) .nil
  | sym i =>
    have hc : (SymE.E i).cells = #[SymE.E i] := by rcases SymE.leaf i with ⟨k, n, e⟩ | ⟨x, e⟩ <;> rw [e] <;> rfl
    rw [hc]
    exact .cons (.sym i) .nil
section
variable {P : Program} {ρ : Env} {aw aw' : AW} {o : Oper} {v : Value}
theorem opv_pure (h : ∀ (s : Inj) (f : Operand → Value) (w : World), (∀ x, okOpd P.globals.size x = true → VR s (ρ.eval x) (f x)) →
      ∃ v', (execOp f o).run P w = .ok (.value v') w ∧ VR s v v') : OpV P o ρ aw v aw := by
  intro base w0 s f w hr hf
  obtain ⟨v', h1, h2⟩ := h s f w hf
  exact ⟨_, v', w, s, h1, .inl rfl, Inj.le_refl s, hr, h2⟩
theorem opv_move {x : Operand} (hop : o.op = .move x) (hok : okOpd P.globals.size x = true) (hx : ρ.eval x = v) : OpV P o ρ aw v aw :=
  opv_pure fun s f w hf => ⟨f x, by simp [execOp, hop], by rw [← hx]; exact hf x hok⟩
theorem opv_assign {x : Operand} (hop : o.op = .assign x) (hok : okOpd P.globals.size x = true) (hx : ρ.eval x = v) : OpV P o ρ aw v aw :=
  opv_pure fun s f w hf => ⟨f x, by simp [execOp, hop], by rw [← hx]; exact hf x hok⟩
theorem opv_pick {c x y : Operand} {b : Bool} (hop : o.op = .pick c x y) (hc : okOpd P.globals.size c = true) (hx : okOpd P.globals.size x = true)
    (hy : okOpd P.globals.size y = true) (h : ρ.eval c = .bool b) (hv : (if b then ρ.eval x else ρ.eval y) = v) : OpV P o ρ aw v aw :=
  opv_pure fun s f w hf => by
    have h1 := hf c hc
    rw [h] at h1
    refine ⟨if b then f x else f y, by simp [execOp, hop, VR.bool_inv h1, asBool], ?_⟩
    subst hv
    cases b
    · simpa using hf y hy
    · simpa using hf x hx
theorem opv_arith {op : BinOp} {xt yt : TypeId} {x y : Operand} {k : IntKind} {m n : Int} {r : Value} (hop : o.op = .binOp op xt x y yt)
    (hx : okOpd P.globals.size x = true) (hy : okOpd P.globals.size y = true) (h1 : ρ.eval x = .int k m) (h2 : ρ.eval y = .int k n)
    (hr : ∀ w, (do eqGuard op xt x y (.int k m) (.int k n); binOp op xt (.int k m) (.int k n) : Sem Value).run P w = .ok r w) (hp : plain r = true) (hv : r = v) : OpV P o ρ aw v aw :=
  opv_pure fun s f w hf => by
    have e1 := hf x hx; rw [h1] at e1
    have e2 := hf y hy; rw [h2] at e2
    refine ⟨r, ?_, ?_⟩
    · simp only [execOp, hop, VR.int_inv e1, VR.int_inv e2, Sem.run_bind]
      have := hr w
      simp only [Sem.run_bind] at this
      rw [this]; rfl
    · subst hv; exact VR.ofPlain hp
theorem run_eqGuard_int (op : BinOp) (t : TypeId) (x y : Operand) (k : IntKind) (m n : Int) (w : World) : (eqGuard op t x y (.int k m) (.int k n)).run P w = .ok () w := by
  unfold eqGuard
  cases op <;> simp
theorem run_eqGuard_str (op : BinOp) (t : TypeId) (x y : Operand) (a b : ByteArray) (w : World) : (eqGuard op t x y (.string a) (.string b)).run P w = .ok () w := by
  unfold eqGuard
  cases op <;> simp
variable {xt yt : TypeId} {x y : Operand} {k : IntKind} {m n : Int}
theorem opv_add (hop : o.op = .binOp .add xt x y yt) (hx : okOpd P.globals.size x = true) (hy : okOpd P.globals.size y = true) (h1 : ρ.eval x = .int k m) (h2 : ρ.eval y = .int k n) :
    OpV P o ρ aw (.int k (k.wrap (m + n))) aw := opv_arith hop hx hy h1 h2 (fun w => by simp [run_eqGuard_int, binOp, Op.intArith]) rfl rfl
theorem opv_sub (hop : o.op = .binOp .sub xt x y yt) (hx : okOpd P.globals.size x = true) (hy : okOpd P.globals.size y = true) (h1 : ρ.eval x = .int k m) (h2 : ρ.eval y = .int k n) :
    OpV P o ρ aw (.int k (k.wrap (m - n))) aw := opv_arith hop hx hy h1 h2 (fun w => by simp [run_eqGuard_int, binOp, Op.intArith]) rfl rfl
theorem opv_mul (hop : o.op = .binOp .mul xt x y yt) (hx : okOpd P.globals.size x = true) (hy : okOpd P.globals.size y = true) (h1 : ρ.eval x = .int k m) (h2 : ρ.eval y = .int k n) :
    OpV P o ρ aw (.int k (k.wrap (m * n))) aw := opv_arith hop hx hy h1 h2 (fun w => by simp [run_eqGuard_int, binOp, Op.intArith]) rfl rfl
theorem opv_quo (hop : o.op = .binOp .quo xt x y yt) (hx : okOpd P.globals.size x = true) (hy : okOpd P.globals.size y = true) (h1 : ρ.eval x = .int k m) (h2 : ρ.eval y = .int k n) (h0 : n ≠ 0) :
    OpV P o ρ aw (.int k (k.wrap (m.tdiv n))) aw := opv_arith hop hx hy h1 h2 (fun w => by simp [run_eqGuard_int, binOp, Op.intDiv, h0]) rfl rfl
theorem opv_rem (hop : o.op = .binOp .rem xt x y yt) (hx : okOpd P.globals.size x = true) (hy : okOpd P.globals.size y = true) (h1 : ρ.eval x = .int k m) (h2 : ρ.eval y = .int k n) (h0 : n ≠ 0) :
    OpV P o ρ aw (.int k (m.tmod n)) aw := opv_arith hop hx hy h1 h2 (fun w => by simp [run_eqGuard_int, binOp, Op.intDiv, h0]) rfl rfl
def bitsOf (op : BinOp) (k : IntKind) (m n : Int) : Int :=
  let a := BitVec.ofInt k.bits m
  let b := BitVec.ofInt k.bits n
  k.wrap (match op with | .and => (a &&& b).toNat | .or => (a ||| b).toNat | .xor => (a ^^^ b).toNat | _ => (a &&& ~~~b).toNat)
theorem opv_and (hop : o.op = .binOp .and xt x y yt) (hx : okOpd P.globals.size x = true) (hy : okOpd P.globals.size y = true) (h1 : ρ.eval x = .int k m) (h2 : ρ.eval y = .int k n) :
    OpV P o ρ aw (.int k (bitsOf .and k m n)) aw := opv_arith hop hx hy h1 h2 (fun w => by simp [run_eqGuard_int, binOp, Op.intBits, bitsOf]) rfl rfl
theorem opv_or (hop : o.op = .binOp .or xt x y yt) (hx : okOpd P.globals.size x = true) (hy : okOpd P.globals.size y = true) (h1 : ρ.eval x = .int k m) (h2 : ρ.eval y = .int k n) :
    OpV P o ρ aw (.int k (bitsOf .or k m n)) aw := opv_arith hop hx hy h1 h2 (fun w => by simp [run_eqGuard_int, binOp, Op.intBits, bitsOf]) rfl rfl
theorem opv_xor (hop : o.op = .binOp .xor xt x y yt) (hx : okOpd P.globals.size x = true) (hy : okOpd P.globals.size y = true) (h1 : ρ.eval x = .int k m) (h2 : ρ.eval y = .int k n) :
    OpV P o ρ aw (.int k (bitsOf .xor k m n)) aw := opv_arith hop hx hy h1 h2 (fun w => by simp [run_eqGuard_int, binOp, Op.intBits, bitsOf]) rfl rfl
theorem opv_andNot (hop : o.op = .binOp .andNot xt x y yt) (hx : okOpd P.globals.size x = true) (hy : okOpd P.globals.size y = true) (h1 : ρ.eval x = .int k m) (h2 : ρ.eval y = .int k n) :
    OpV P o ρ aw (.int k (bitsOf .andNot k m n)) aw := opv_arith hop hx hy h1 h2 (fun w => by simp [run_eqGuard_int, binOp, Op.intBits, bitsOf]) rfl rfl
theorem opv_eqI (hop : o.op = .binOp .eql xt x y yt) (hx : okOpd P.globals.size x = true) (hy : okOpd P.globals.size y = true) (h1 : ρ.eval x = .int k m) (h2 : ρ.eval y = .int k n) :
    OpV P o ρ aw (.bool (decide (m = n))) aw := opv_arith hop hx hy h1 h2 (fun w => by simp [run_eqGuard_int, binOp, Op.intCmp]; rfl) rfl rfl
theorem opv_neI (hop : o.op = .binOp .neq xt x y yt) (hx : okOpd P.globals.size x = true) (hy : okOpd P.globals.size y = true) (h1 : ρ.eval x = .int k m) (h2 : ρ.eval y = .int k n) :
    OpV P o ρ aw (.bool (!decide (m = n))) aw := opv_arith hop hx hy h1 h2 (fun w => by simp [run_eqGuard_int, binOp, Op.intCmp]; rfl) rfl rfl
theorem opv_lt (hop : o.op = .binOp .lss xt x y yt) (hx : okOpd P.globals.size x = true) (hy : okOpd P.globals.size y = true) (h1 : ρ.eval x = .int k m) (h2 : ρ.eval y = .int k n) :
    OpV P o ρ aw (.bool (decide (m < n))) aw := opv_arith hop hx hy h1 h2 (fun w => by simp [run_eqGuard_int, binOp, Op.intCmp]) rfl rfl
theorem opv_le (hop : o.op = .binOp .leq xt x y yt) (hx : okOpd P.globals.size x = true) (hy : okOpd P.globals.size y = true) (h1 : ρ.eval x = .int k m) (h2 : ρ.eval y = .int k n) :
    OpV P o ρ aw (.bool (decide (m ≤ n))) aw := opv_arith hop hx hy h1 h2 (fun w => by simp [run_eqGuard_int, binOp, Op.intCmp]) rfl rfl
theorem opv_gt (hop : o.op = .binOp .gtr xt x y yt) (hx : okOpd P.globals.size x = true) (hy : okOpd P.globals.size y = true) (h1 : ρ.eval x = .int k m) (h2 : ρ.eval y = .int k n) :
    OpV P o ρ aw (.bool (decide (n < m))) aw := opv_arith hop hx hy h1 h2 (fun w => by simp [run_eqGuard_int, binOp, Op.intCmp]) rfl rfl
theorem opv_ge (hop : o.op = .binOp .geq xt x y yt) (hx : okOpd P.globals.size x = true) (hy : okOpd P.globals.size y = true) (h1 : ρ.eval x = .int k m) (h2 : ρ.eval y = .int k n) :
    OpV P o ρ aw (.bool (decide (n ≤ m))) aw := opv_arith hop hx hy h1 h2 (fun w => by simp [run_eqGuard_int, binOp, Op.intCmp]) rfl rfl
theorem opv_shift {op : BinOp} {yk : IntKind} {r : Value} (hop : o.op = .binOp op xt x y yt) (hx : okOpd P.globals.size x = true) (hy : okOpd P.globals.size y = true)
    (h1 : ρ.eval x = .int k m) (h2 : ρ.eval y = .int yk n) (hr : ∀ w, (do eqGuard op xt x y (.int k m) (.int yk n); binOp op xt (.int k m) (.int yk n) : Sem Value).run P w = .ok r w) (hp : plain r = true) (hv : r = v) : OpV P o ρ aw v aw :=
  opv_pure fun s f w hf => by
    have e1 := hf x hx; rw [h1] at e1
    have e2 := hf y hy; rw [h2] at e2
    refine ⟨r, ?_, ?_⟩
    · simp only [execOp, hop, VR.int_inv e1, VR.int_inv e2, Sem.run_bind]
      have := hr w
      simp only [Sem.run_bind] at this
      rw [this]; rfl
    · subst hv; exact VR.ofPlain hp
theorem opv_shl {yk : IntKind} (hop : o.op = .binOp .shl xt x y yt) (hx : okOpd P.globals.size x = true) (hy : okOpd P.globals.size y = true) (h1 : ρ.eval x = .int k m) (h2 : ρ.eval y = .int yk n) (h0 : 0 ≤ n) :
    OpV P o ρ aw (.int k (k.wrap (m * 2 ^ (min n.toNat k.bits)))) aw := opv_shift hop hx hy h1 h2 (fun w => by simp [eqGuard, binOp, Op.shift, show ¬ n < 0 by omega]) rfl rfl
theorem opv_shr {yk : IntKind} (hop : o.op = .binOp .shr xt x y yt) (hx : okOpd P.globals.size x = true) (hy : okOpd P.globals.size y = true) (h1 : ρ.eval x = .int k m) (h2 : ρ.eval y = .int yk n) (h0 : 0 ≤ n) :
    OpV P o ρ aw (.int k (m.fdiv (2 ^ (min n.toNat k.bits)))) aw := opv_shift hop hx hy h1 h2 (fun w => by simp [eqGuard, binOp, Op.shift, show ¬ n < 0 by omega]) rfl rfl
theorem opv_str {op : BinOp} {a b : ByteArray} {r : Value} (hop : o.op = .binOp op xt x y yt) (hx : okOpd P.globals.size x = true) (hy : okOpd P.globals.size y = true)
    (h1 : ρ.eval x = .string a) (h2 : ρ.eval y = .string b) (hr : ∀ w, (do eqGuard op xt x y (.string a) (.string b); binOp op xt (.string a) (.string b) : Sem Value).run P w = .ok r w) (hp : plain r = true) (hv : r = v) : OpV P o ρ aw v aw :=
  opv_pure fun s f w hf => by
    have e1 := hf x hx; rw [h1] at e1
    have e2 := hf y hy; rw [h2] at e2
    refine ⟨r, ?_, ?_⟩
    · simp only [execOp, hop, VR.string_inv e1, VR.string_inv e2, Sem.run_bind]
      have := hr w
      simp only [Sem.run_bind] at this
      rw [this]; rfl
    · subst hv; exact VR.ofPlain hp
theorem toList_eq (a b : ByteArray) : (a.toList == b.toList) = decide (a = b) := by
  by_cases h : a = b
  · subst h; simp
  · have : a.toList ≠ b.toList := by
      intro e
      apply h
      rw [ByteArray.toList_eq, ByteArray.toList_eq] at e
      cases a; cases b
      simp only [ByteArray.mk.injEq]
      exact Array.toList_inj.1 e
    simp [h, this]
theorem opv_cat {a b : ByteArray} (hop : o.op = .binOp .add xt x y yt) (hx : okOpd P.globals.size x = true) (hy : okOpd P.globals.size y = true) (h1 : ρ.eval x = .string a) (h2 : ρ.eval y = .string b)
    (hs : a.size + b.size ≤ 2 ^ 62) : OpV P o ρ aw (.string (a ++ b)) aw := opv_str hop hx hy h1 h2 (fun w => by
      have : ¬ (((a.size + b.size : Nat) : Int) > IntKind.i64.max) := by
        have : IntKind.i64.max = 9223372036854775807 := rfl
        rw [this]; omega
      simp only [Sem.run_bind, run_eqGuard_str, Result.andThen_ok, binOp, Op.stringOp, if_neg this]; rfl) rfl rfl
theorem opv_eqS {a b : ByteArray} (hop : o.op = .binOp .eql xt x y yt) (hx : okOpd P.globals.size x = true) (hy : okOpd P.globals.size y = true) (h1 : ρ.eval x = .string a) (h2 : ρ.eval y = .string b) :
    OpV P o ρ aw (.bool (decide (a = b))) aw := opv_str hop hx hy h1 h2 (fun w => by simp only [Sem.run_bind, run_eqGuard_str, Result.andThen_ok, binOp, Op.stringOp, toList_eq]; rfl) rfl rfl
theorem opv_neS {a b : ByteArray} (hop : o.op = .binOp .neq xt x y yt) (hx : okOpd P.globals.size x = true) (hy : okOpd P.globals.size y = true) (h1 : ρ.eval x = .string a) (h2 : ρ.eval y = .string b) :
    OpV P o ρ aw (.bool (!decide (a = b))) aw := opv_str hop hx hy h1 h2 (fun w => by simp only [Sem.run_bind, run_eqGuard_str, Result.andThen_ok, binOp, Op.stringOp, toList_eq]; rfl) rfl rfl
theorem opv_neg (hop : o.op = .unOp .neg xt x) (hx : okOpd P.globals.size x = true) (h1 : ρ.eval x = .int k m) : OpV P o ρ aw (.int k (k.wrap (-m))) aw :=
  opv_pure fun s f w hf => by
    have e1 := hf x hx; rw [h1] at e1
    exact ⟨_, by simp [execOp, hop, VR.int_inv e1, Op.unary, Op.intArith], VR.int _ _⟩
theorem opv_compl (hop : o.op = .unOp .xor xt x) (hx : okOpd P.globals.size x = true) (h1 : ρ.eval x = .int k m) : OpV P o ρ aw (.int k (bitsOf .xor k (if k.signed then -1 else k.max) m)) aw :=
  opv_pure fun s f w hf => by
    have e1 := hf x hx; rw [h1] at e1
    exact ⟨_, by simp [execOp, hop, VR.int_inv e1, Op.unary, Op.intBits, bitsOf], VR.int _ _⟩
theorem opv_not {b : Bool} (hop : o.op = .unOp .not xt x) (hx : okOpd P.globals.size x = true) (h1 : ρ.eval x = .bool b) : OpV P o ρ aw (.bool (!b)) aw :=
  opv_pure fun s f w hf => by
    have e1 := hf x hx; rw [h1] at e1
    exact ⟨_, by simp [execOp, hop, VR.bool_inv e1, Op.unary], VR.bool _⟩
theorem opv_conv {src dst : TypeId} {d : TypeDesc} {j : IntKind} (hop : o.op = .convert src dst x) (hx : okOpd P.globals.size x = true) (hs : P.underlying src = some d)
    (hd : P.underlying dst = some (.int j)) (h1 : ρ.eval x = .int k m) : OpV P o ρ aw (.int j (j.wrap m)) aw :=
  opv_pure fun s f w hf => by
    have e1 := hf x hx; rw [h1] at e1
    exact ⟨_, by simp [execOp, hop, VR.int_inv e1, convert, run_underlying hs, run_underlying hd, Conv.intToInt], VR.int _ _⟩
theorem opv_convS {src dst : TypeId} {d : TypeDesc} {a : ByteArray} (hop : o.op = .convert src dst x) (hx : okOpd P.globals.size x = true) (hs : P.underlying src = some d)
    (hd : P.underlying dst = some .string) (h1 : ρ.eval x = .string a) : OpV P o ρ aw (.string a) aw :=
  opv_pure fun s f w hf => by
    have e1 := hf x hx; rw [h1] at e1
    exact ⟨.string a, by simp [execOp, hop, VR.string_inv e1, convert, run_underlying hs, run_underlying hd], VR.string _⟩
theorem opv_extract {vs : Array Value} {i : Nat} (hop : o.op = .extract x i) (hx : okOpd P.globals.size x = true) (h1 : ρ.eval x = .tuple vs) (hi : vs[i]? = some v) : OpV P o ρ aw v aw :=
  opv_pure fun s f w hf => by
    have e1 := hf x hx; rw [h1] at e1
    obtain ⟨ys, h2, h3⟩ := e1.tuple_inv
    obtain ⟨v', h4, h5⟩ := h3.get (i := i) (v := v) (by simpa using hi)
    exact ⟨v', by simp [execOp, hop, h2, Instr.extract, show ys[i]? = some v' by simpa using h4], h5⟩
theorem opv_mkIface {d : TypeDesc} (hop : o.op = .makeInterface xt x) (hx : okOpd P.globals.size x = true) (hu : P.underlying xt = some d) (hd : (match d with | .interface _ => false | _ => true) = true)
    (h1 : ρ.eval x = v) : OpV P o ρ aw (.iface xt v) aw :=
  opv_pure fun s f w hf => by
    have e1 := hf x hx; rw [h1] at e1
    refine ⟨.iface xt (f x), ?_, .iface _ e1⟩
    simp only [execOp, hop, Instr.makeInterface, Sem.run_bind, run_underlying hu, Result.andThen_ok]
    cases d <;> first | rfl | simp at hd
theorem evals {s : Inj} {f : Operand → Value} {G : Nat} (hf : ∀ x, okOpd G x = true → VR s (ρ.eval x) (f x)) : ∀ (l : List Operand), (l.all (okOpd G)) = true → VRs s (l.map ρ.eval) (l.map f)
  | [], _ => .nil
  | y :: l, h => by
    simp only [List.all_cons, Bool.and_eq_true] at h
    exact .cons (hf y h.1) (evals hf l h.2)
theorem opv_mkFunc {fn : Fn} {a c : Array Operand} (hop : o.op = .makeFunc fn a c) (ha : a.toList.all (okOpd P.globals.size) = true) (hc : c.toList.all (okOpd P.globals.size) = true) :
    OpV P o ρ aw (.func fn (a.map ρ.eval) (c.map ρ.eval)) aw :=
  opv_pure fun s f w hf => ⟨.func fn (a.map f) (c.map f), by simp [execOp, hop, Instr.makeFunc], .func _ (by simpa using evals hf _ ha) (by simpa using evals hf _ hc)⟩
theorem opv_nilCheckP {b i : Nat} (hop : o.op = .nilCheck x) (hx : okOpd P.globals.size x = true) (h1 : ρ.eval x = .pointer (some ⟨b, i, none⟩)) : OpV P o ρ aw (.pointer (some ⟨b, i, none⟩)) aw :=
  opv_pure fun s f w hf => by
    have e1 := hf x hx; rw [h1] at e1
    obtain ⟨e, h2, h3⟩ := e1.ptr_inv
    exact ⟨_, by simp [execOp, hop, h3], .ptr h2⟩
theorem opv_nilCheckF {g : FuncId} {a c : Array Value} (hop : o.op = .nilCheck x) (hx : okOpd P.globals.size x = true) (h1 : ρ.eval x = .func (.func g) a c) : OpV P o ρ aw (.func (.func g) a c) aw :=
  opv_pure fun s f w hf => by
    have e1 := hf x hx; rw [h1] at e1
    obtain ⟨a', c', h2, h3, h4⟩ := e1.func_inv
    exact ⟨_, by simp [execOp, hop, h2], .func _ h3 h4⟩
theorem run_isAgg {P : Program} {t : TypeId} {d : TypeDesc} (h : P.underlying t = some d) (w : World) : (isAgg t).run P w = .ok (match d with | .struct _ | .array _ _ => true | _ => false) w := by
  simp only [isAgg, Sem.run_bind, run_underlying h, Result.andThen_ok]
  cases d <;> rfl
theorem run_sizeOf' {P : Program} {t : TypeId} {n : Nat} (h : (P.info? t).map (·.size) = some n) (w : World) : (sizeOf t).run P w = .ok n w := by
  cases hi : P.info? t with
  | none => simp [hi] at h
  | some i =>
    simp [hi] at h
    simp [sizeOf, run_typeInfo w hi, h]
def aggT (d : TypeDesc) : Bool := match d with | .struct _ | .array _ _ => true | _ => false
theorem opv_field1 {fs : Array Field} {fd : Field} {d : TypeDesc} {i : Nat} {cs : Array Value} (hop : o.op = .field xt x i) (hx : okOpd P.globals.size x = true) (hu : P.underlying xt = some (.struct fs)) (hf : fs[i]? = some fd)
    (hd : P.underlying fd.type = some d) (ha : aggT d = false) (h1 : ρ.eval x = .agg cs) (hv : cs[fd.offset]? = some v) : OpV P o ρ aw v aw :=
  opv_pure fun s f w hff => by
    have e1 := hff x hx; rw [h1] at e1
    obtain ⟨ys, h2, h3⟩ := e1.agg_inv
    obtain ⟨v', h4, h5⟩ := h3.get (i := fd.offset) (v := v) (by simpa using hv)
    have h4' : ys[fd.offset]? = some v' := by simpa using h4
    refine ⟨v', ?_, h5⟩
    simp only [execOp, hop, Instr.field, Sem.run_bind, run_underlying hu, Result.andThen_ok, hf, h2, asAgg, Sem.run_pure, part, run_isAgg hd]
    cases d <;> simp_all [aggT]
theorem opv_fieldN {fs : Array Field} {fd : Field} {d : TypeDesc} {i n : Nat} {cs : Array Value} (hop : o.op = .field xt x i) (hx : okOpd P.globals.size x = true) (hu : P.underlying xt = some (.struct fs)) (hf : fs[i]? = some fd)
    (hd : P.underlying fd.type = some d) (ha : aggT d = true) (hn : (P.info? fd.type).map (·.size) = some n) (h1 : ρ.eval x = .agg cs) (hv : .agg (cs.extract fd.offset (fd.offset + n)) = v) : OpV P o ρ aw v aw :=
  opv_pure fun s f w hff => by
    have e1 := hff x hx; rw [h1] at e1
    obtain ⟨ys, h2, h3⟩ := e1.agg_inv
    refine ⟨.agg (ys.extract fd.offset (fd.offset + n)), ?_, ?_⟩
    · simp only [execOp, hop, Instr.field, Sem.run_bind, run_underlying hu, Result.andThen_ok, hf, h2, asAgg, Sem.run_pure, part, run_isAgg hd]
      have hsz := run_sizeOf' hn w
      cases d <;> simp_all [aggT]
    · subst hv
      refine .agg ?_
      simp only [Array.toList_extract, List.extract_eq_take_drop]
      exact (h3.drop _).take _
end
end Go.Am
set_option linter.unusedSimpArgs false
set_option linter.unusedVariables false
set_option linter.unusedSectionVars false
namespace Go.Am
open Go Go.RowKit
variable [SymE]
def AW.getN (aw : AW) (b i : Nat) : Nat → Option (List Value)
  | 0 => some []
  | n + 1 => match aw.get b i with
    | none => none
    | some v => (aw.getN b (i + 1) n).map (v :: ·)
theorem AW.getN_length {aw : AW} {b : Nat} : ∀ {n i : Nat} {cs : List Value}, aw.getN b i n = some cs → cs.length = n
  | 0, i, cs, h => by simp [AW.getN] at h; subst h; rfl
  | n + 1, i, cs, h => by
    simp only [AW.getN] at h
    split at h
    · simp at h
    · cases hg : aw.getN b (i + 1) n with
      | none => simp [hg] at h
      | some l => simp [hg] at h; subst h; simp [AW.getN_length hg]
def AW.wr (aw : AW) (b i n : Nat) : Prop := ∃ B, aw.m b = some B ∧ B.rw = true ∧ i + n ≤ B.cells.length ∧ B.fz = 0
section
variable {G : Nat} {base : Nat → Prop} {w0 : World} {s : Inj} {aw : AW} {w : World}
theorem Rel.cellsN (h : Rel G base w0 s aw w) {b : Nat} {e : Ent} (he : s b = some e) : ∀ {n i : Nat} {cs : List Value}, aw.getN b i n = some cs →
    ∃ cs', VRs s cs cs' ∧ ∀ j v, cs'[j]? = some v → w.cell? ⟨e.cb, e.off + i + j, none⟩ = some v
  | 0, i, cs, hg => by
    simp [AW.getN] at hg; subst hg
    exact ⟨[], .nil, fun j v hj => by simp at hj⟩
  | n + 1, i, cs, hg => by
    simp only [AW.getN] at hg
    split at hg
    · simp at hg
    · rename_i v hv
      cases hg2 : aw.getN b (i + 1) n with
      | none => simp [hg2] at hg
      | some l =>
        simp [hg2] at hg; subst hg
        obtain ⟨e', v', h1, h2, h3⟩ := h.cell hv
        rw [he] at h1; obtain rfl := Option.some.inj h1
        obtain ⟨cs', h4, h5⟩ := h.cellsN he hg2
        refine ⟨v' :: cs', .cons h3 h4, ?_⟩
        intro j u hj
        cases j with
        | zero => simp at hj; subst hj; simpa using h2
        | succ j =>
          simp at hj
          have := h5 j u hj
          rw [show e.off + (i + 1) + j = e.off + i + (j + 1) by omega] at this
          exact this
theorem run_loadN (P : Program) {e : Ent} {i n : Nat} {cs' : List Value} (hl : cs'.length = n) (h : ∀ j v, cs'[j]? = some v → w.cell? ⟨e.cb, e.off + i + j, none⟩ = some v) :
    (loadCells ⟨e.cb, e.off + i, none⟩ n).run P w = .ok cs'.toArray w := by
  subst hl
  exact run_loadCells_list w _ _ (fun j v hj => by rw [Addr.add_lit]; exact h j v hj)
theorem Rel.setN (P : Program) : ∀ {vs vs' : List Value} {aw : AW} {w : World} {b i k : Nat} {e : Ent}, Rel G base w0 s aw w → s b = some e → aw.wr b (i + k) vs.length → VRs s vs vs' → (vs.all one = true) →
    ∃ w', (storeCells ⟨e.cb, e.off + i, none⟩ vs' k).run P w = .ok () w' ∧ Rel G base w0 s (aw.setN b (i + k) vs) w'
  | [], _, aw, w, b, i, k, e, h, he, hw, hv, ho => by
    cases hv
    exact ⟨w, by simp [storeCells], h⟩
  | v :: vs, _, aw, w, b, i, k, e, h, he, hw, hv, ho => by
    cases hv with
    | @cons _ v' _ vs' hv hvs =>
    obtain ⟨B, h1, h2, h3, h4⟩ := hw
    simp only [List.length_cons] at h3
    simp only [List.all_cons, Bool.and_eq_true] at ho
    obtain ⟨k1, k2, k3⟩ := h.set h1 h2 (i := i + k) (by omega) h4 hv he
    have hw' : (aw.set b (i + k) v).wr b (i + (k + 1)) vs.length := by
      refine ⟨{ B with cells := B.cells.set (i + k) v }, ?_, h2, ?_, ?_⟩
      · simp [AW.set, h1]
      · simp only [List.length_set]; omega
      · simp only; omega
    obtain ⟨w', k4, k5⟩ := Rel.setN P (i := i) (k := k + 1) k3 he hw' hvs ho.2
    refine ⟨w', ?_, ?_⟩
    · simp only [storeCells, Sem.run_bind]
      rw [run_store _ _ _ _ _ (by rw [hv.one]; exact ho.1)]
      rw [Addr.add_lit, show e.off + i + k = e.off + (i + k) by omega]
      cases hc : w.cell? ⟨e.cb, e.off + (i + k), none⟩ with
      | none => simp [hc] at k2
      | some u =>
        simp only [k1, Bool.false_eq_true, if_false, Result.andThen_ok]
        exact k4
    · rw [show i + (k + 1) = i + k + 1 by omega] at k5
      exact k5
end
section
variable {P : Program} {ρ : Env} {aw aw' : AW} {o : Oper} {v : Value} {x y : Operand} {t : TypeId} {d : TypeDesc} {b i n : Nat}
theorem opv_load1 (hop : o.op = .load t x) (hu : P.underlying t = some d) (ha : aggT d = false) (hx : okOpd P.globals.size x = true)
    (h1 : ρ.eval x = .pointer (some ⟨b, i, none⟩)) (hg : aw.get b i = some v) : OpV P o ρ aw v aw := by
  intro base w0 s f w hr hf
  have e1 := hf x hx; rw [h1] at e1
  obtain ⟨e, he, h2⟩ := e1.ptr_inv
  obtain ⟨e', v', k1, k2, k3⟩ := hr.cell hg
  rw [he] at k1; obtain rfl := Option.some.inj k1
  refine ⟨_, v', w, s, ?_, .inl rfl, Inj.le_refl s, hr, k3⟩
  simp only [execOp, hop, h2, Instr.loadAt, Instr.sureAddr, loadVar, Sem.run_bind, Sem.run_pure, Result.andThen_ok, run_isAgg hu]
  cases d <;> simp_all [aggT]
theorem opv_loadN {cs : List Value} (hop : o.op = .load t x) (hu : P.underlying t = some d) (ha : aggT d = true) (hn : (P.info? t).map (·.size) = some n) (hx : okOpd P.globals.size x = true)
    (h1 : ρ.eval x = .pointer (some ⟨b, i, none⟩)) (hg : aw.getN b i n = some cs) : OpV P o ρ aw (.agg cs.toArray) aw := by
  intro base w0 s f w hr hf
  have e1 := hf x hx; rw [h1] at e1
  obtain ⟨e, he, h2⟩ := e1.ptr_inv
  obtain ⟨cs', k1, k2⟩ := hr.cellsN he hg
  have hl : cs'.length = n := by rw [← k1.length]; exact AW.getN_length hg
  have hld := run_loadN P hl k2
  have hsz := run_sizeOf' hn w
  refine ⟨_, .agg cs'.toArray, w, s, ?_, .inl rfl, Inj.le_refl s, hr, .agg (by simpa using k1)⟩
  simp only [execOp, hop, h2, Instr.loadAt, Instr.sureAddr, loadVar, Sem.run_bind, Sem.run_pure, Result.andThen_ok, run_isAgg hu]
  cases d <;> simp_all [aggT]
theorem opv_store {xv : Value} (hop : o.op = .store t x y) (hx : okOpd P.globals.size x = true) (hy : okOpd P.globals.size y = true)
    (h1 : ρ.eval x = .pointer (some ⟨b, i, none⟩)) (h2 : ρ.eval y = xv) (hn : (P.info? t).map (·.size) = some xv.cells.toList.length)
    (ho : xv.cells.toList.all one = true) (hw : aw.wr b i xv.cells.toList.length) : OpV P o ρ aw undef (aw.setN b i xv.cells.toList) := by
  intro base w0 s f w hr hf
  have e1 := hf x hx; rw [h1] at e1
  obtain ⟨e, he, h3⟩ := e1.ptr_inv
  have e2 := hf y hy; rw [h2] at e2
  have hc := e2.cells
  obtain ⟨w', k1, k2⟩ := Rel.setN P (i := i) (k := 0) hr he (by simpa using hw) hc ho
  have hsz := run_sizeOf' hn w
  have hl := hc.length
  refine ⟨_, undef, w', s, ?_, .inr ⟨rfl, rfl⟩, Inj.le_refl s, by simpa using k2, VR.undef⟩
  simp only [execOp, hop, h3, Instr.storeAt, Instr.sureAddr, storeVar, Sem.run_bind, Sem.run_pure, Result.andThen_ok, hsz]
  have : ¬ ((f y).cells.size ≠ xv.cells.toList.length) := by
    rw [hl]; simp
  simp only [if_neg this, Sem.run_bind, Sem.run_pure, Result.andThen_ok]
  rw [k1]; rfl
theorem run_zeroValue' {t : TypeId} {z : Value} (h : (P.info? t).bind (·.zero) = some z) (w : World) : (zeroValue t).run P w = .ok z w := by
  cases hi : P.info? t with
  | none => simp [hi] at h
  | some q =>
    simp [hi] at h
    simp [zeroValue, run_typeInfo w hi, h]
theorem run_newRow (P : Program) (e : TypeId) (cs : Array Value) (w : World) : (newRow e cs).run P w = .ok ⟨w.heap.size, 0, none⟩ (w.alloc (.cells cs e)) := by
  simp [newRow]
theorem opv_alloc {z : Value} (hop : o.op = .alloc t) (hz : (P.info? t).bind (·.zero) = some z) (hp : plains z.cells.toList = true) :
    OpV P o ρ aw (.pointer (some ⟨aw.next, 0, none⟩)) (aw.alloc z.cells.toList t 0) := by
  intro base w0 s f w hr hf
  have hv : VRs s z.cells.toList z.cells.toList := VRs.ofPlains hp
  obtain ⟨s', k1, k2, k3⟩ := hr.alloc (cells := z.cells.toList) (cs := z.cells) t 0 (by simp) (by simp) (fun i v hi => by
    obtain ⟨v', a1, a2⟩ := hv.get hi
    exact ⟨v', by simpa using a1, a2⟩) (0, 0) (by simp)
  refine ⟨_, .pointer (some ⟨w.heap.size, 0, none⟩), _, s', ?_, .inl rfl, k1, k3, ?_⟩
  · simp only [execOp, hop, Instr.alloc, Sem.run_bind, run_zeroValue' hz, Result.andThen_ok, newVar, run_newRow, Sem.run_pure]
  · have := VR.ptr (s := s') (o := 0) k2
    simpa using this
theorem opv_box {xv : Value} (hop : o.op = .box t x) (hx : okOpd P.globals.size x = true) (h1 : ρ.eval x = xv) :
    OpV P o ρ aw (.pointer (some ⟨aw.next, 0, none⟩)) (aw.alloc xv.cells.toList t 0) := by
  intro base w0 s f w hr hf
  have e1 := hf x hx; rw [h1] at e1
  have hv := e1.cells
  obtain ⟨s', k1, k2, k3⟩ := hr.alloc (cells := xv.cells.toList) (cs := (f x).cells) t 0 (by have := hv.length; simp at this ⊢; omega) (by have := hv.length; intro _; simp at this ⊢; omega) (fun i v hi => by
    obtain ⟨v', a1, a2⟩ := hv.get hi
    exact ⟨v', by simpa using a1, a2⟩) (0, 0) (by simp)
  refine ⟨_, .pointer (some ⟨w.heap.size, 0, none⟩), _, s', ?_, .inl rfl, k1, k3, ?_⟩
  · simp only [execOp, hop, Instr.box, Sem.run_bind, Result.andThen_ok, newVar, run_newRow, Sem.run_pure]
  · have := VR.ptr (s := s') (o := 0) k2
    simpa using this
theorem foldl_set_rel {s : Inj} (off : Nat) : ∀ {vs vs' : List Value} (k : Nat) {cs cs' : Array Value}, VRs s vs vs' → VRs s cs.toList cs'.toList →
    VRs s ((vs.zipIdx k).foldl (fun (q : Array Value) (p : Value × Nat) => q.setIfInBounds (off + p.2) p.1) cs).toList ((vs'.zipIdx k).foldl (fun (q : Array Value) (p : Value × Nat) => q.setIfInBounds (off + p.2) p.1) cs').toList
  | [], _, k, cs, cs', .nil, h => by simpa using h
  | v :: vs, _, k, cs, cs', .cons hv hvs, h => by
    simp only [List.zipIdx_cons, List.foldl_cons]
    refine foldl_set_rel off (k + 1) hvs ?_
    simp only [Array.toList_setIfInBounds]
    exact h.set _ hv
inductive PRs (s : Inj) : List (Nat × Value) → List (Nat × Value) → Prop
  | nil : PRs s [] []
  | cons {i : Nat} {v v' : Value} {l l' : List (Nat × Value)} (h : VR s v v') (t : PRs s l l') : PRs s ((i, v) :: l) ((i, v') :: l')
theorem fill_rel {s : Inj} {place : Nat → Option (Nat × Nat)} : ∀ {ps ps' : List (Nat × Value)} {cs cs' r : Array Value}, PRs s ps ps' → VRs s cs.toList cs'.toList →
    Instr.fill place cs ps = some r → ∃ r', Instr.fill place cs' ps' = some r' ∧ VRs s r.toList r'.toList
  | _, _, cs, cs', r, .nil, h, hf => by
    simp only [Instr.fill, Option.some.injEq] at hf ⊢
    subst hf
    exact ⟨cs', rfl, h⟩
  | _, _, cs, cs', r, .cons (i := i) (v := v) (v' := v') hv ht, h, hf => by
    simp only [Instr.fill] at hf ⊢
    have hl := h.length
    have hc := hv.cells
    have hcl := hc.length
    simp only [Array.length_toList] at hl hcl
    split at hf
    · simp at hf
    · rename_i off size hp
      split at hf
      · simp at hf
      · rename_i hcond
        rw [if_neg (by rw [← hcl, ← hl]; exact hcond)]
        refine fill_rel ht ?_ hf
        have := foldl_set_rel (s := s) off 0 hc h
        rw [← Array.foldl_toList, ← Array.foldl_toList, Array.toList_zipIdx, Array.toList_zipIdx]
        exact this
theorem evalps {s : Inj} {f : Operand → Value} {G : Nat} (hf : ∀ x, okOpd G x = true → VR s (ρ.eval x) (f x)) : ∀ (l : List (Nat × Operand)), (l.all fun p => okOpd G p.2) = true →
    PRs s (l.map fun p => (p.1, ρ.eval p.2)) (l.map fun p => (p.1, f p.2))
  | [], _ => .nil
  | y :: l, h => by
    simp only [List.all_cons, Bool.and_eq_true] at h
    exact .cons (hf y.2 h.1) (evalps hf l h.2)
def placesOf (P : Program) (fs : List Field) : List (Nat × Nat) := fs.map fun f => (f.offset, P.cellsOf f.type)
theorem run_places (w : World) : ∀ (fs : List Field), (fs.all fun f => (P.info? f.type).isSome) = true →
    (fs.mapM (fun f => (do pure (f.offset, ← sizeOf f.type) : Sem (Nat × Nat)))).run P w = .ok (placesOf P fs) w
  | [], _ => rfl
  | f :: fs, h => by
    simp only [List.all_cons, Bool.and_eq_true] at h
    obtain ⟨i, hi⟩ := Option.isSome_iff_exists.1 h.1
    have ih := run_places w fs h.2
    simp only [List.mapM_cons, Sem.run_bind, run_sizeOf w hi, Result.andThen_ok, Sem.run_pure, ih, placesOf, List.map_cons]
theorem opv_build {fs : Array Field} {ps : Array (Nat × Operand)} {z : Value} {pl : List (Nat × Nat)} {r : Array Value} (hop : o.op = .build t ps) (hok : (ps.toList.all fun p => okOpd P.globals.size p.2) = true)
    (hz : (P.info? t).bind (·.zero) = some z) (hp : plains z.cells.toList = true) (hu : P.underlying t = some (.struct fs)) (hfs : (fs.toList.all fun f => (P.info? f.type).isSome) = true)
    (hpl : placesOf P fs.toList = pl) (hr : Instr.fill (fun (i : Nat) => pl[i]?) z.cells (ps.toList.map fun p => (p.1, ρ.eval p.2)) = some r) : OpV P o ρ aw (.agg r) aw :=
  opv_pure fun s f w hf => by
    obtain ⟨r', h1, h2⟩ := fill_rel (evalps hf ps.toList hok) (VRs.ofPlains (s := s) hp) hr
    refine ⟨.agg r', ?_, .agg h2⟩
    have hpls := run_places (P := P) w fs.toList hfs
    have hm : (fs.mapM (fun f => (do pure (f.offset, ← sizeOf f.type) : Sem (Nat × Nat)))).run P w = .ok (placesOf P fs.toList).toArray w := by
      rw [Array.mapM_eq_mapM_toList]
      simp only [Sem.run_map, hpls, Result.andThen_ok]
    simp only [execOp, hop, Instr.build, Sem.run_bind, run_zeroValue' hz, run_underlying hu, Result.andThen_ok, hm]
    subst hpl
    have e : (fun (x : Nat) => (placesOf P fs.toList).toArray[x]?) = fun (i : Nat) => (placesOf P fs.toList)[i]? := by funext i; simp
    have e2 : ((Array.map (fun x => match x with | (i, x) => (i, f x)) ps).toList) = ps.toList.map fun p => (p.1, f p.2) := by simp
    rw [e, e2, h1]
    rfl
theorem opv_buildSlice {el : TypeId} {ps : Array (Nat × Operand)} {z : Value} {r : Array Value} {size : Nat} (hop : o.op = .buildSlice t n ps) (hok : (ps.toList.all fun p => okOpd P.globals.size p.2) = true)
    (hu : P.underlying t = some (.slice el)) (hsz : (P.info? el).map (·.size) = some size) (hz : (P.info? el).bind (·.zero) = some z) (hp : plains z.cells.toList = true)
    (hn : n * size ≤ 2 ^ 24) (h0 : 0 < n * size) (hzl : z.cells.size = size)
    (hr : Instr.fill (fun i => some (i * size, size)) ((Array.range (n * size)).map (z.cells[· % size]!)) (ps.toList.map fun p => (p.1, ρ.eval p.2)) = some r) :
    OpV P o ρ aw (.slice (some ⟨aw.next, 0, none⟩) n n) (aw.alloc r.toList el size) := by
  intro base w0 s f w hrel hf
  have hzr : VRs s ((Array.range (n * size)).map (z.cells[· % size]!)).toList ((Array.range (n * size)).map (z.cells[· % size]!)).toList := by
    refine VRs.of_get rfl fun i a b ha hb => ?_
    rw [ha] at hb; obtain rfl := Option.some.inj hb
    have hsp : 0 < size := by
      rcases Nat.eq_zero_or_pos size with h | h
      · simp [h] at h0
      · exact h
    simp only [Array.toList_map, List.getElem?_map, Array.toList_range] at ha
    cases hq : (List.range (n * size))[i]? with
    | none => simp [hq] at ha
    | some q =>
      simp only [hq, Option.map_some, Option.some.injEq] at ha
      have hlt : q % size < z.cells.size := by rw [hzl]; exact Nat.mod_lt _ hsp
      have hz' : z.cells.toList[q % size]? = some a := by
        rw [← ha]
        simp [hlt]
      exact ((VRs.ofPlains (s := s) hp).get hz').elim fun a' ⟨e1, e2⟩ => by
        rw [hz'] at e1; obtain rfl := Option.some.inj e1; exact e2
  obtain ⟨r', h1, h2⟩ := fill_rel (evalps hf ps.toList hok) hzr hr
  obtain ⟨s', k1, k2, k3⟩ := hrel.alloc (cells := r.toList) (cs := r') el size (by have := h2.length; simp at this ⊢; omega) (by have := h2.length; intro _; simp at this ⊢; omega) (fun i v hi => by
    obtain ⟨v', a1, a2⟩ := h2.get hi
    exact ⟨v', by simpa using a1, a2⟩) (0, 0) (by simp)
  refine ⟨_, .slice (some ⟨w.heap.size, 0, none⟩) n n, _, s', ?_, .inl rfl, k1, k3, ?_⟩
  · have e2 : ((Array.map (fun x => match x with | (i, x) => (i, f x)) ps).toList) = ps.toList.map fun p => (p.1, f p.2) := by simp
    simp only [execOp, hop, Instr.buildSlice, Sem.run_bind, run_underlying hu, run_sizeOf' hsz, Result.andThen_ok]
    rw [if_neg (by omega), if_neg (by omega)]
    simp only [Sem.run_pure, Result.andThen_ok, Sem.run_bind, run_zeroValue' hz, hzl, e2, h1, run_newRow]
  · refine .slice (Nat.le_refl _) (fun _ => rfl) fun _ => ⟨_, k2, by simp, fun h => ?_⟩
    exfalso
    have : n ≤ 2 ^ 24 := Nat.le_trans (Nat.le_mul_of_pos_right n (by rcases Nat.eq_zero_or_pos size with h | h; · simp [h] at h0
                                                                     · exact h)) hn
    unfold UNK at h; omega
end
end Go.Am
set_option linter.unusedSimpArgs false
set_option linter.unusedVariables false
set_option linter.unusedSectionVars false
namespace Go.Am
open Go Go.RowKit
variable [SymE]
theorem VR.slice_inv {s : Inj} {b i l c : Nat} {v : Value} (h : VR s (.slice (some ⟨b, i, none⟩) l c) v) : ∃ a' c', v = .slice (some a') l c' ∧ l ≤ c' ∧ (c < UNK → c' = c) ∧
    (0 < c' → ∃ e, s b = some e ∧ a' = ⟨e.cb, e.off + i, none⟩ ∧ (UNK ≤ c → e.off + i + c' * e.esz ≤ e.csize)) := by
  cases h with | slice h1 h2 h3 => exact ⟨_, _, rfl, h1, h2, h3⟩
theorem VR.nilslice_inv {s : Inj} {l c : Nat} {v : Value} (h : VR s (.slice none l c) v) : l = 0 ∧ c = 0 ∧ v = .slice none 0 0 := by
  cases h with | nilslice => exact ⟨rfl, rfl, rfl⟩
section
variable {P : Program} {ρ : Env} {aw aw' : AW} {o : Oper} {v : Value} {x y : Operand} {t : TypeId} {d : TypeDesc} {b i n : Nat}
theorem run_asIntOf (k : IntKind) (n : Int) (w : World) : (asIntOf (.int k n)).run P w = .ok (k, n) w := rfl
theorem opv_indexAddr {el : TypeId} {k : IntKind} {j : Int} {l c size : Nat} (hop : o.op = .indexAddr t x y) (hx : okOpd P.globals.size x = true) (hy : okOpd P.globals.size y = true)
    (hu : P.underlying t = some (.slice el)) (hsz : (P.info? el).map (·.size) = some size) (h1 : ρ.eval x = .slice (some ⟨b, i, none⟩) l c) (h2 : ρ.eval y = .int k j) (h0 : 0 ≤ j) (hj : j < l) :
    OpV P o ρ aw (.pointer (some ⟨b, i + j.toNat * size, none⟩)) aw :=
  opv_pure fun s f w hf => by
    have e1 := hf x hx; rw [h1] at e1
    have e2 := hf y hy; rw [h2] at e2
    obtain ⟨a', c', q1, q2, q3, q4⟩ := e1.slice_inv
    have hc' : 0 < c' := by omega
    obtain ⟨e, q5, q6, q7⟩ := q4 hc'
    refine ⟨.pointer (some ⟨e.cb, e.off + (i + j.toNat * size), none⟩), ?_, .ptr q5⟩
    simp only [execOp, hop, Instr.indexAt, VR.int_inv e2, q1, Sem.run_bind, run_asIntOf, Result.andThen_ok, run_underlying hu, Sem.run_pure, q6]
    rw [if_pos ⟨h0, hj⟩]
    simp only [Sem.run_bind, run_sizeOf' hsz, Result.andThen_ok, Sem.run_pure, Addr.add_lit, Nat.add_assoc]
theorem opv_indexAddrA {el : TypeId} {k : IntKind} {j : Int} {l size : Nat} (hop : o.op = .indexAddr t x y) (hx : okOpd P.globals.size x = true) (hy : okOpd P.globals.size y = true)
    (hu : P.underlying t = some (.array l el)) (hsz : (P.info? el).map (·.size) = some size) (h1 : ρ.eval x = .pointer (some ⟨b, i, none⟩)) (h2 : ρ.eval y = .int k j) (h0 : 0 ≤ j) (hj : j < l) :
    OpV P o ρ aw (.pointer (some ⟨b, i + j.toNat * size, none⟩)) aw :=
  opv_pure fun s f w hf => by
    have e1 := hf x hx; rw [h1] at e1
    have e2 := hf y hy; rw [h2] at e2
    obtain ⟨e, q5, q6⟩ := e1.ptr_inv
    refine ⟨.pointer (some ⟨e.cb, e.off + (i + j.toNat * size), none⟩), ?_, .ptr q5⟩
    simp only [execOp, hop, Instr.indexAt, VR.int_inv e2, q6, Sem.run_bind, run_asIntOf, Result.andThen_ok, run_underlying hu, Sem.run_pure, Instr.sureAddr]
    rw [if_pos ⟨h0, hj⟩]
    simp only [Sem.run_bind, run_sizeOf' hsz, Result.andThen_ok, Sem.run_pure, Addr.add_lit, Nat.add_assoc]
theorem opv_fieldAddr {fs : Array Field} {fd : Field} {size : Nat} (hop : o.op = .fieldAddr t x n) (hx : okOpd P.globals.size x = true)
    (hu : P.underlying t = some (.struct fs)) (hf' : fs[n]? = some fd) (hsz : (P.info? fd.type).map (·.size) = some size) (h0 : 0 < size) (h1 : ρ.eval x = .pointer (some ⟨b, i, none⟩)) :
    OpV P o ρ aw (.pointer (some ⟨b, i + fd.offset, none⟩)) aw :=
  opv_pure fun s f w hf => by
    have e1 := hf x hx; rw [h1] at e1
    obtain ⟨e, q5, q6⟩ := e1.ptr_inv
    refine ⟨.pointer (some ⟨e.cb, e.off + (i + fd.offset), none⟩), ?_, .ptr q5⟩
    simp only [execOp, hop, Instr.fieldAt, q6, Sem.run_bind, Result.andThen_ok, run_underlying hu, Sem.run_pure, Instr.sureAddr, hf', fieldPlace, run_sizeOf' hsz]
    rw [if_neg (by omega)]
    simp only [Sem.run_bind, Result.andThen_ok, Sem.run_pure, Addr.add_lit, Nat.add_assoc]
theorem opv_indexS {k : IntKind} {j : Int} {a : ByteArray} {u : UInt8} (hop : o.op = .index t x y) (hx : okOpd P.globals.size x = true) (hy : okOpd P.globals.size y = true)
    (hu : P.underlying t = some .string) (h1 : ρ.eval x = .string a) (h2 : ρ.eval y = .int k j) (h0 : 0 ≤ j) (hj : a[j.toNat]? = some u) :
    OpV P o ρ aw (.int .u8 u.toNat) aw :=
  opv_pure fun s f w hf => by
    have e1 := hf x hx; rw [h1] at e1
    have e2 := hf y hy; rw [h2] at e2
    refine ⟨.int .u8 u.toNat, ?_, .int _ _⟩
    simp only [execOp, hop, Instr.index, VR.int_inv e2, VR.string_inv e1, Sem.run_bind, run_asIntOf, Result.andThen_ok, run_underlying hu, h0, if_true, hj, Sem.run_pure]
theorem opv_indexA {k : IntKind} {j : Int} {el : TypeId} {l size : Nat} {cs : Array Value} (hop : o.op = .index t x y) (hx : okOpd P.globals.size x = true) (hy : okOpd P.globals.size y = true)
    (hu : P.underlying t = some (.array l el)) (hd : P.underlying el = some d) (ha : aggT d = false) (hsz : (P.info? el).map (·.size) = some 1) (h1 : ρ.eval x = .agg cs) (h2 : ρ.eval y = .int k j) (h0 : 0 ≤ j) (hj : j < l) (hv : cs[j.toNat]? = some v) :
    OpV P o ρ aw v aw :=
  opv_pure fun s f w hf => by
    have e1 := hf x hx; rw [h1] at e1
    have e2 := hf y hy; rw [h2] at e2
    obtain ⟨ys, q1, q2⟩ := e1.agg_inv
    obtain ⟨v', h4, h5⟩ := q2.get (i := j.toNat) (v := v) (by simpa using hv)
    have h4' : ys[j.toNat]? = some v' := by simpa using h4
    refine ⟨v', ?_, h5⟩
    simp only [execOp, hop, Instr.index, VR.int_inv e2, q1, Sem.run_bind, run_asIntOf, Result.andThen_ok, run_underlying hu, Sem.run_pure]
    rw [if_pos ⟨h0, hj⟩]
    simp only [Sem.run_bind, run_sizeOf' hsz, Result.andThen_ok, part, run_isAgg hd, Nat.mul_one]
    cases d <;> simp_all [aggT]
def Bnd (ρ : Env) (G : Nat) (d : Nat) : Option Operand → Nat → Prop
  | none, n => n = d
  | some x, n => okOpd G x = true ∧ ∃ k, ρ.eval x = .int k (n : Int)
theorem run_sliceBound (k : IntKind) (n m : Nat) (c : BoundsCode) (h : n ≤ m) (w : World) : (Instr.sliceBound (.int k (n : Int)) m c).run P w = .ok n w := by
  simp only [Instr.sliceBound, Sem.run_bind, run_asIntOf, Result.andThen_ok]
  rw [if_pos ⟨by omega, by omega⟩]
  simp
theorem run_bounds2 {s : Inj} {f : Operand → Value} (hf : ∀ x, okOpd P.globals.size x = true → VR s (ρ.eval x) (f x)) {isS : Bool} {len cap lo hi : Nat} {xl xh : Option Operand}
    (hl : Bnd ρ P.globals.size 0 xl lo) (hh : Bnd ρ P.globals.size len xh hi) (h1 : lo ≤ hi) (h2 : hi ≤ cap) (w : World) :
    (Instr.sliceBounds isS len cap (xl.map f) (xh.map f) none).run P w = .ok (lo, hi, cap) w := by
  have b1 : ∀ z, xl = some z → ∃ k, f z = .int k lo := by
    rintro z rfl
    obtain ⟨h3, k, h4⟩ := hl
    have := hf z h3; rw [h4] at this
    exact ⟨k, VR.int_inv this⟩
  have b2 : ∀ z, xh = some z → ∃ k, f z = .int k hi := by
    rintro z rfl
    obtain ⟨h3, k, h4⟩ := hh
    have := hf z h3; rw [h4] at this
    exact ⟨k, VR.int_inv this⟩
  simp only [Instr.sliceBounds, Sem.run_bind, Sem.run_pure, Result.andThen_ok]
  cases xh with
  | none =>
    have : hi = len := hh
    subst this
    cases xl with
    | none => have : lo = 0 := hl; subst this; simp
    | some z =>
      obtain ⟨k, hk⟩ := b1 z rfl
      simp [hk, run_sliceBound k lo hi _ h1]
  | some z' =>
    obtain ⟨k', hk'⟩ := b2 z' rfl
    cases xl with
    | none => have : lo = 0 := hl; subst this; simp [hk', run_sliceBound k' hi cap _ h2]
    | some z =>
      obtain ⟨k, hk⟩ := b1 z rfl
      simp [hk, hk', run_sliceBound k lo hi _ h1, run_sliceBound k' hi cap _ h2]
theorem opv_sliceStr {a : ByteArray} {lo hi : Nat} {xl xh : Option Operand} (hop : o.op = .slice t x xl xh none) (hx : okOpd P.globals.size x = true)
    (hu : P.underlying t = some .string) (h1 : ρ.eval x = .string a) (hl : Bnd ρ P.globals.size 0 xl lo) (hh : Bnd ρ P.globals.size a.size xh hi) (h2 : lo ≤ hi) (h3 : hi ≤ a.size) :
    OpV P o ρ aw (.string (a.extract lo hi)) aw :=
  opv_pure fun s f w hf => by
    have e1 := hf x hx; rw [h1] at e1
    refine ⟨.string (a.extract lo hi), ?_, .string _⟩
    have := run_bounds2 (P := P) hf (isS := false) (cap := a.size) hl hh h2 h3 w
    simp only [execOp, hop, Instr.sliceAt, Instr.slice, VR.string_inv e1, Sem.run_bind, Result.andThen_ok, run_underlying hu, Option.map_none, Option.isSome_none, Bool.false_eq_true, if_false, Sem.run_pure, this]
def capOf (c lo : Nat) : Nat := if c < UNK then c - lo else c
theorem opv_slice {el : TypeId} {l c lo hi size : Nat} {xl xh : Option Operand} (hop : o.op = .slice t x xl xh none) (hx : okOpd P.globals.size x = true)
    (hu : P.underlying t = some (.slice el)) (hsz : (P.info? el).map (·.size) = some size) (h1 : ρ.eval x = .slice (some ⟨b, i, none⟩) l c) (hl : Bnd ρ P.globals.size 0 xl lo) (hh : Bnd ρ P.globals.size l xh hi)
    (h2 : lo ≤ hi) (h3 : hi ≤ if c < UNK then c else l) (hB : UNK ≤ c → ∃ B, aw.m b = some B ∧ B.esz = size) :
    OpV P o ρ aw (.slice (some ⟨b, i + lo * size, none⟩) (hi - lo) (capOf c lo)) aw := by
  intro base w0 s f w hr hf
  have e1 := hf x hx; rw [h1] at e1
  obtain ⟨a', c', q1, q2, q3, q4⟩ := e1.slice_inv
  have hhi : hi ≤ c' := by
    split at h3
    · rename_i hc; rw [q3 hc]; exact h3
    · omega
  have hb := run_bounds2 (P := P) hf (isS := true) (cap := c') hl hh h2 hhi w
  refine ⟨_, .slice (some (if c' = lo then a' else a'.add (lo * size))) (hi - lo) (c' - lo), w, s, ?_, .inl rfl, Inj.le_refl s, hr, ?_⟩
  · simp only [execOp, hop, Instr.sliceAt, Instr.slice, q1, Sem.run_bind, Result.andThen_ok, run_underlying hu, Option.map_none, hb, run_sizeOf' hsz, Sem.run_pure]
    split <;> rfl
  · refine .slice (by omega) (fun hc => ?_) fun hp => ?_
    · unfold capOf at hc ⊢
      split at hc
      · rename_i h; rw [if_pos h, q3 h]
      · omega
    · obtain ⟨e, q5, q6, q7⟩ := q4 (by omega)
      refine ⟨e, q5, ?_, fun hc => ?_⟩
      · rw [if_neg (by omega), q6, Addr.add_lit, Nat.add_assoc]
      · unfold capOf at hc
        split at hc
        · omega
        · rename_i hcc
          have hcU : UNK ≤ c := by omega
          obtain ⟨B, hB1, hB2⟩ := hB hcU
          obtain ⟨e', _, _, r1, r2, _⟩ := hr.blk b B hB1
          rw [q5] at r1; obtain rfl := Option.some.inj r1
          have r3 := q7 hcU
          rw [← hB2, ← r2.1]
          have : c' * e.esz = lo * e.esz + (c' - lo) * e.esz := by rw [← Nat.add_mul]; congr 1; omega
          rw [this] at r3
          omega
theorem opv_sliceNil {xl xh : Option Operand} {el : TypeId} {size : Nat} (hop : o.op = .slice t x xl xh none) (hx : okOpd P.globals.size x = true)
    (hu : P.underlying t = some (.slice el)) (hsz : (P.info? el).map (·.size) = some size) (h1 : ρ.eval x = .slice none 0 0) (hl : Bnd ρ P.globals.size 0 xl 0) (hh : Bnd ρ P.globals.size 0 xh 0) :
    OpV P o ρ aw (.slice none 0 0) aw :=
  opv_pure fun s f w hf => by
    have e1 := hf x hx; rw [h1] at e1
    obtain ⟨_, _, q1⟩ := e1.nilslice_inv
    have hb := run_bounds2 (P := P) hf (isS := true) (cap := 0) hl hh (Nat.le_refl _) (Nat.le_refl _) w
    refine ⟨.slice none 0 0, ?_, .nilslice⟩
    simp only [execOp, hop, Instr.sliceAt, Instr.slice, q1, Sem.run_bind, Result.andThen_ok, run_underlying hu, Option.map_none, hb, run_sizeOf' hsz, Sem.run_pure]
    rfl
theorem run_bounds3 {s : Inj} {f : Operand → Value} (hf : ∀ x, okOpd P.globals.size x = true → VR s (ρ.eval x) (f x)) {len cap lo hi mx : Nat} {xl : Option Operand} {xh xm : Operand}
    (hl : Bnd ρ P.globals.size 0 xl lo) (hh : Bnd ρ P.globals.size 0 (some xh) hi) (hm : Bnd ρ P.globals.size 0 (some xm) mx) (h1 : lo ≤ hi) (h2 : hi ≤ mx) (h3 : mx ≤ cap) (w : World) :
    (Instr.sliceBounds true len cap (xl.map f) (some (f xh)) (some (f xm))).run P w = .ok (lo, hi, mx) w := by
  obtain ⟨g1, k1, g2⟩ := hh
  obtain ⟨g3, k2, g4⟩ := hm
  have e1 := hf xh g1; rw [g2] at e1
  have e2 := hf xm g3; rw [g4] at e2
  simp only [Instr.sliceBounds, Sem.run_bind, Sem.run_pure, Result.andThen_ok, VR.int_inv e1, VR.int_inv e2, if_true, run_sliceBound k2 mx cap _ h3, run_sliceBound k1 hi mx _ h2]
  cases xl with
  | none => have : lo = 0 := hl; subst this; simp
  | some z =>
    obtain ⟨g5, k3, g6⟩ := hl
    have e3 := hf z g5; rw [g6] at e3
    simp [VR.int_inv e3, run_sliceBound k3 lo hi _ h1]
theorem opv_slice3 {el : TypeId} {l c lo hi mx size : Nat} {xl : Option Operand} {xh xm : Operand} (hop : o.op = .slice t x xl (some xh) (some xm)) (hx : okOpd P.globals.size x = true)
    (hu : P.underlying t = some (.slice el)) (hsz : (P.info? el).map (·.size) = some size) (h1 : ρ.eval x = .slice (some ⟨b, i, none⟩) l c) (hl : Bnd ρ P.globals.size 0 xl lo)
    (hh : Bnd ρ P.globals.size 0 (some xh) hi) (hm : Bnd ρ P.globals.size 0 (some xm) mx) (h2 : lo ≤ hi) (h3 : hi ≤ mx) (h4 : mx ≤ if c < UNK then c else l) (h5 : mx < UNK) :
    OpV P o ρ aw (.slice (some ⟨b, i + lo * size, none⟩) (hi - lo) (mx - lo)) aw :=
  opv_pure fun s f w hf => by
    have e1 := hf x hx; rw [h1] at e1
    obtain ⟨a', c', q1, q2, q3, q4⟩ := e1.slice_inv
    have hmx : mx ≤ c' := by
      split at h4
      · rename_i hc; rw [q3 hc]; exact h4
      · omega
    have hb := run_bounds3 (P := P) hf (len := l) (cap := c') hl hh hm h2 h3 hmx w
    refine ⟨.slice (some (if mx = lo then a' else a'.add (lo * size))) (hi - lo) (mx - lo), ?_, ?_⟩
    · simp only [execOp, hop, Instr.sliceAt, Instr.slice, q1, Sem.run_bind, Result.andThen_ok, run_underlying hu, Option.map_some, hb, run_sizeOf' hsz, Sem.run_pure]
      split <;> rfl
    · refine .slice (by omega) (fun hc => rfl) fun hp => ?_
      obtain ⟨e, q5, q6, q7⟩ := q4 (by omega)
      refine ⟨e, q5, ?_, fun hc => by exfalso; omega⟩
      rw [if_neg (by omega), q6, Addr.add_lit, Nat.add_assoc]
theorem opv_slice3Nil {xl : Option Operand} {xh xm : Operand} {el : TypeId} {size : Nat} (hop : o.op = .slice t x xl (some xh) (some xm)) (hx : okOpd P.globals.size x = true)
    (hu : P.underlying t = some (.slice el)) (hsz : (P.info? el).map (·.size) = some size) (h1 : ρ.eval x = .slice none 0 0) (hl : Bnd ρ P.globals.size 0 xl 0)
    (hh : Bnd ρ P.globals.size 0 (some xh) 0) (hm : Bnd ρ P.globals.size 0 (some xm) 0) : OpV P o ρ aw (.slice none 0 0) aw :=
  opv_pure fun s f w hf => by
    have e1 := hf x hx; rw [h1] at e1
    obtain ⟨_, _, q1⟩ := e1.nilslice_inv
    have hb := run_bounds3 (P := P) hf (len := 0) (cap := 0) hl hh hm (Nat.le_refl _) (Nat.le_refl _) (Nat.le_refl _) w
    refine ⟨.slice none 0 0, ?_, .nilslice⟩
    simp only [execOp, hop, Instr.sliceAt, Instr.slice, q1, Sem.run_bind, Result.andThen_ok, run_underlying hu, Option.map_some, hb, run_sizeOf' hsz, Sem.run_pure]
    rfl
theorem opv_sliceArr {el : TypeId} {l lo hi size : Nat} {xl xh : Option Operand} (hop : o.op = .slice t x xl xh none) (hx : okOpd P.globals.size x = true)
    (hu : P.underlying t = some (.array l el)) (hsz : (P.info? el).map (·.size) = some size) (h1 : ρ.eval x = .pointer (some ⟨b, i, none⟩)) (hl : Bnd ρ P.globals.size 0 xl lo) (hh : Bnd ρ P.globals.size l xh hi)
    (h2 : lo ≤ hi) (h3 : hi ≤ l) (h4 : l < UNK) : OpV P o ρ aw (.slice (some ⟨b, i + lo * size, none⟩) (hi - lo) (l - lo)) aw :=
  opv_pure fun s f w hf => by
    have e1 := hf x hx; rw [h1] at e1
    obtain ⟨e, q1, q2⟩ := e1.ptr_inv
    have hb := run_bounds2 (P := P) hf (isS := false) (cap := l) hl hh h2 h3 w
    refine ⟨.slice (some (if l = lo then ⟨e.cb, e.off + i, none⟩ else (⟨e.cb, e.off + i, none⟩ : Addr).add (lo * size))) (hi - lo) (l - lo), ?_, ?_⟩
    · simp only [execOp, hop, Instr.sliceAt, q2, Instr.sureAddr, Sem.run_bind, Result.andThen_ok, run_underlying hu, Option.map_none, hb, run_sizeOf' hsz, Sem.run_pure]
    · refine .slice (by omega) (fun hc => rfl) fun hp => ⟨e, q1, ?_, fun hc => by exfalso; omega⟩
      rw [if_neg (by omega), Addr.add_lit, Nat.add_assoc]
theorem opv_lenS {a : ByteArray} {T : TypeId} {at' : Array TypeId} (hop : o.op = .call { callee := .builtin .len, args := #[x], argTypes := at' }) (hat : at'[0]? = some T) (hx : okOpd P.globals.size x = true)
    (hu : P.underlying T = some .string) (h1 : ρ.eval x = .string a) : OpV P o ρ aw (.int .i64 a.size) aw :=
  opv_pure fun s f w hf => by
    have e1 := hf x hx; rw [h1] at e1
    refine ⟨.int .i64 a.size, ?_, .int _ _⟩
    simp [execOp, hop, resolve, invoke, builtin, Builtin.len_, VR.string_inv e1, hat, run_underlying hu, goInt]
theorem opv_len {q : Option Addr} {l c : Nat} {T el : TypeId} {at' : Array TypeId} (hop : o.op = .call { callee := .builtin .len, args := #[x], argTypes := at' }) (hat : at'[0]? = some T) (hx : okOpd P.globals.size x = true)
    (hu : P.underlying T = some (.slice el)) (h1 : ρ.eval x = .slice q l c) : OpV P o ρ aw (.int .i64 l) aw :=
  opv_pure fun s f w hf => by
    have e1 := hf x hx; rw [h1] at e1
    have : ∃ q' c', f x = .slice q' l c' := by
      generalize f x = u at e1
      cases e1 with
      | nilslice => exact ⟨_, _, rfl⟩
      | slice => exact ⟨_, _, rfl⟩
    obtain ⟨q', c', hq⟩ := this
    refine ⟨.int .i64 l, ?_, .int _ _⟩
    simp [execOp, hop, resolve, invoke, builtin, Builtin.len_, hq, hat, run_underlying hu, goInt]
theorem opv_lenA {l : Nat} {T el : TypeId} {at' : Array TypeId} (hop : o.op = .call { callee := .builtin .len, args := #[x], argTypes := at' }) (hat : at'[0]? = some T)
    (hu : P.underlying T = some (.array l el)) : OpV P o ρ aw (.int .i64 l) aw :=
  opv_pure fun s f w hf => by
    refine ⟨.int .i64 l, ?_, .int _ _⟩
    simp [execOp, hop, resolve, invoke, builtin, Builtin.len_, hat, run_underlying hu, goInt]
theorem opv_max {k : IntKind} {m n : Int} {at' : Array TypeId} (hop : o.op = .call { callee := .builtin .max, args := #[x, y], argTypes := at' }) (hx : okOpd P.globals.size x = true) (hy : okOpd P.globals.size y = true)
    (h1 : ρ.eval x = .int k m) (h2 : ρ.eval y = .int k n) : OpV P o ρ aw (.int k (max m n)) aw :=
  opv_pure fun s f w hf => by
    have e1 := hf x hx; rw [h1] at e1
    have e2 := hf y hy; rw [h2] at e2
    refine ⟨.int k (if n > m then n else m), ?_, ?_⟩
    · simp [execOp, hop, resolve, invoke, builtin, Builtin.max_, Builtin.max2, VR.int_inv e1, VR.int_inv e2]
    · have : (if n > m then n else m) = max m n := by split <;> omega
      rw [this]; exact .int _ _
theorem opv_min {k : IntKind} {m n : Int} {at' : Array TypeId} (hop : o.op = .call { callee := .builtin .min, args := #[x, y], argTypes := at' }) (hx : okOpd P.globals.size x = true) (hy : okOpd P.globals.size y = true)
    (h1 : ρ.eval x = .int k m) (h2 : ρ.eval y = .int k n) : OpV P o ρ aw (.int k (min m n)) aw :=
  opv_pure fun s f w hf => by
    have e1 := hf x hx; rw [h1] at e1
    have e2 := hf y hy; rw [h2] at e2
    refine ⟨.int k (if n < m then n else m), ?_, ?_⟩
    · simp [execOp, hop, resolve, invoke, builtin, Builtin.min_, Builtin.min2, VR.int_inv e1, VR.int_inv e2]
    · have : (if n < m then n else m) = min m n := by split <;> omega
      rw [this]; exact .int _ _
theorem run_callFunc {g : FuncId} {fn : Func} {c : Code} (hf : P.funcs[g]? = some fn) (hn : (fn.name == "runtime.NumGoroutine") = false) (hb : fn.body = some c) (args : Array Value) (w : World) :
    (callFunc g args).run P w = .ok (.enter g args) w := by
  simp only [callFunc, Sem.run_bind, run_program, Result.andThen_ok, hf, hn, Bool.false_eq_true, if_false, hb, Option.isNone_some, Sem.run_pure]
theorem opc_static {g : FuncId} {fn : Func} {c : Code} {xs : Array Operand} {at' : Array TypeId} {args : List Value} (hop : o.op = .call { callee := .value (.func g), args := xs, argTypes := at' })
    (hok : xs.toList.all (okOpd P.globals.size) = true) (hf : P.funcs[g]? = some fn) (hn : (fn.name == "runtime.NumGoroutine") = false) (hb : fn.body = some c) (ha : xs.toList.map ρ.eval = args) : OpC P o ρ g args := by
  intro s f w hff
  refine ⟨(xs.map f).toList, ?_, ?_⟩
  · have e0 : f (.func g) = .func (.func g) #[] #[] := by
      have := hff (.func g) rfl
      simp only [Env.eval] at this
      obtain ⟨a', c', h2, h3, h4⟩ := this.func_inv
      have r1 : a' = #[] := by apply Array.toList_inj.1; generalize a'.toList = q at h3; cases h3; rfl
      have r2 : c' = #[] := by apply Array.toList_inj.1; generalize c'.toList = q at h4; cases h4; rfl
      rw [h2, r1, r2]
    simp only [execOp, hop, resolve, e0, Deferred.ofValue, Sem.run_bind, Sem.run_pure, Result.andThen_ok, invoke]
    rw [run_callFunc hf hn hb]
    congr 2
    apply Array.toList_inj.1
    simp
  · subst ha
    have := evals (ρ := ρ) hff xs.toList hok
    simpa using this
theorem opc_dyn {g : FuncId} {fn : Func} {c : Code} {z : Operand} {xs : Array Operand} {at' : Array TypeId} {args : List Value} {fa ca : Array Value} (hop : o.op = .call { callee := .value z, args := xs, argTypes := at' })
    (hz : okOpd P.globals.size z = true) (hok : xs.toList.all (okOpd P.globals.size) = true) (hzv : ρ.eval z = .func (.func g) fa ca)
    (hf : P.funcs[g]? = some fn) (hn : (fn.name == "runtime.NumGoroutine") = false) (hb : fn.body = some c) (ha : fa.toList ++ xs.toList.map ρ.eval ++ ca.toList = args) : OpC P o ρ g args := by
  intro s f w hff
  have e1 := hff z hz; rw [hzv] at e1
  obtain ⟨a', c', h2, h3, h4⟩ := e1.func_inv
  refine ⟨(a' ++ xs.map f ++ c').toList, ?_, ?_⟩
  · simp only [execOp, hop, resolve, h2, Deferred.ofValue, Sem.run_bind, Sem.run_pure, Result.andThen_ok, invoke]
    rw [run_callFunc hf hn hb]
  · subst ha
    have := evals (ρ := ρ) hff xs.toList hok
    simp only [Array.toList_append, Array.toList_map]
    exact (h3.append this).append h4
theorem opd_dyn {g : FuncId} {z : Operand} {xs : Array Operand} {at' : Array TypeId} {fa ca : Array Value} (hop : o.op = .defer { callee := .value z, args := xs, argTypes := at' })
    (hz : okOpd P.globals.size z = true) (hok : xs.toList.all (okOpd P.globals.size) = true) (hzv : ρ.eval z = .func (.func g) fa ca) :
    OpD P o ρ { target := .fn (.func g) ca, args := fa ++ xs.map ρ.eval } := by
  intro s f w hff
  have e1 := hff z hz; rw [hzv] at e1
  obtain ⟨a', c', h2, h3, h4⟩ := e1.func_inv
  refine ⟨{ target := .fn (.func g) c', args := a' ++ xs.map f }, ?_, .fn _ h4, ?_⟩
  · simp [execOp, hop, resolve, h2, Deferred.ofValue]
  · simp only [Array.toList_append, Array.toList_map]
    exact h3.append (evals (ρ := ρ) hff xs.toList hok)
theorem opp_panic {u : TypeId} {z : Value} (hop : o.op = .panic x) (hx : okOpd P.globals.size x = true) (h1 : ρ.eval x = .iface u z) : OpP P o ρ aw (.iface u z) := by
  intro base w0 s f w hr hff
  have e1 := hff x hx; rw [h1] at e1
  obtain ⟨z', h2, h3⟩ := e1.iface_inv
  exact ⟨.iface u z', by simp [execOp, hop, h2, Instr.panic], .iface _ h3⟩
end
end Go.Am
set_option linter.unusedSimpArgs false
set_option linter.unusedVariables false
set_option linter.unusedSectionVars false
namespace Go.Am
open Go Go.RowKit
variable [SymE]
inductive Src (aw : AW) (size : Nat) : Value → Nat → List Value → Prop
  | slice {b i n c : Nat} {cs : List Value} (h : aw.getN b i (n * size) = some cs) : Src aw size (.slice (some ⟨b, i, none⟩) n c) n cs
  | nil : Src aw size (.slice none 0 0) 0 []
  | str (a : ByteArray) (h : size = 1) : Src aw size (.string a) a.size (a.data.toList.map fun b => .int .u8 b.toNat)
theorem Src.length {aw : AW} {size n : Nat} {v : Value} {cs : List Value} (h : Src aw size v n cs) : cs.length = n * size := by
  cases h with
  | slice h => exact AW.getN_length h
  | nil => simp
  | str a h => subst h; simp only [List.length_map, Array.length_toList, Nat.mul_one]; rfl
theorem plains_bytes (l : List UInt8) : plains (l.map fun b => Value.int .u8 b.toNat) = true := by
  induction l with
  | nil => rfl
  | cons a l ih => exact ih
section
variable {G : Nat} {base : Nat → Prop} {w0 : World} {s : Inj} {aw : AW} {w : World} {P : Program}
theorem Src.run (h : Rel G base w0 s aw w) {size n : Nat} {v v' : Value} {cs : List Value} (hs : Src aw size v n cs) (hv : VR s v v') :
    (Builtin.lenOf v').run P w = .ok n w ∧ ∃ cs', VRs s cs cs' ∧ (Builtin.firstCells size n v').run P w = .ok cs'.toArray w := by
  cases hs with
  | @slice b i n c cs hg =>
    obtain ⟨a', c', rfl, q2, q3, q4⟩ := hv.slice_inv
    refine ⟨rfl, ?_⟩
    rcases Nat.eq_zero_or_pos n with h0 | h0
    · subst h0
      simp [AW.getN] at hg; subst hg
      refine ⟨[], .nil, ?_⟩
      simp [Builtin.firstCells, loadCells, loadCellsFrom]
    · obtain ⟨e, q5, q6, _⟩ := q4 (by omega)
      obtain ⟨cs', k1, k2⟩ := h.cellsN q5 hg
      refine ⟨cs', k1, ?_⟩
      subst q6
      exact run_loadN P (by rw [← k1.length]; exact AW.getN_length hg) k2
  | nil =>
    obtain ⟨_, _, rfl⟩ := hv.nilslice_inv
    exact ⟨rfl, [], .nil, rfl⟩
  | str a hz =>
    rw [hv.string_inv]
    refine ⟨rfl, _, VRs.ofPlains (plains_bytes _), ?_⟩
    have he : a.extract 0 a.size = a := by simp
    simp only [Builtin.firstCells, he, Sem.run_pure]
    congr 1
    apply Array.toList_inj.1
    simp
end
theorem growBy_le (n : Nat) : ∀ (r c : Nat), c ≤ n + (n + 768) / 4 → Builtin.growBy n r c ≤ n + (n + 768) / 4
  | 0, c, h => h
  | r + 1, c, h => by
    simp only [Builtin.growBy]
    split
    · exact h
    · exact growBy_le n r _ (by omega)
theorem nextcap_le (need cap : Nat) (h : cap < need) : Builtin.nextslicecap need cap ≤ 2 * need + 768 := by
  unfold Builtin.nextslicecap
  split
  · omega
  · split
    · omega
    · have := growBy_le need 4 cap (by omega)
      omega
theorem zeroCells_size (z : Array Value) (n : Nat) : (Builtin.zeroCells z n).size = n * z.size := by simp [Builtin.zeroCells]
section
variable {P : Program} {ρ : Env} {aw aw' : AW} {o : Oper} {v xv sv : Value} {x y : Operand} {t el sT xT : TypeId} {d dx : TypeDesc} {b i n l c size bytes : Nat} {cs os : List Value} {z : Value} {at' : Array TypeId}
def notInt (d : TypeDesc) : Bool := match d with | .slice _ | .string => true | _ => false
theorem notInt_or {d : TypeDesc} (h : notInt d = true) : (∃ e, d = .slice e) ∨ d = .string := by
  cases d <;> simp_all [notInt]
theorem run_append_fits (hat : at' = #[sT, xT]) (hu : P.underlying sT = some (.slice el)) (hsz : (P.info? el).map (·.size) = some size) (hxu : P.underlying xT = some dx) (hni : notInt dx = true)
    {w w' : World} {a : Option Addr} {c' : Nat} {xv' : Value} {cs' : List Value} (hl : (Builtin.lenOf xv').run P w = .ok n w) (hf : (Builtin.firstCells size n xv').run P w = .ok cs'.toArray w)
    (hfit : l + n ≤ c') (hst : (match a with | some a => storeCells (a.add (l * size)) cs' | none => pure () : Sem Unit).run P w = .ok () w') (ty : TypeId) :
    (Builtin.append_ at' ty #[.slice a l c', xv']).run P w = .ok (.slice a (l + n) c') w' := by
  subst hat
  rcases notInt_or hni with ⟨e2, rfl⟩ | rfl
  all_goals
  simp only [Builtin.append_, List.getElem?_toArray, List.getElem?_cons_zero, List.getElem?_cons_succ, Sem.run_bind, run_underlying hu, Result.andThen_ok, run_sizeOf' hsz, run_underlying hxu, Sem.run_pure,
    Bool.false_eq_true, if_false, hl, hfit, if_true, Bool.not_false, hf]
  cases a with
  | none => simp only [Sem.run_pure, Result.ok.injEq] at hst; simp [hst.2]
  | some a => simp only [Sem.run_bind]; simp only at hst; rw [hst]; rfl
theorem run_append_grows (hat : at' = #[sT, xT]) (hu : P.underlying sT = some (.slice el)) (hsz : (P.info? el).map (·.size) = some size) (hby : (P.info? el).map (·.bytes) = some bytes) (hxu : P.underlying xT = some dx) (hni : notInt dx = true)
    (hz0 : (P.info? el).bind (·.zero) = some z) (hb0 : 0 < bytes)
    {w : World} {a : Option Addr} {c' : Nat} {xv' : Value} {cs' os' : List Value} (hl : (Builtin.lenOf xv').run P w = .ok n w) (hf : ∀ w, (∃ w1 : World, w = w1.drew ∨ w = w1) → True)
    (hfx : (Builtin.firstCells size n xv').run P w.drew = .ok cs'.toArray w.drew) (hfs : (Builtin.firstCells size l (.slice a l c')).run P w.drew = .ok os'.toArray w.drew)
    (hfit : c' < l + n) (hb : (2 * (l + n) + 768) * bytes ≤ 2 ^ 48) (ty : TypeId) :
    ∃ N, l + n ≤ N ∧ (Builtin.append_ at' ty #[.slice a l c', xv']).run P w =
      .ok (.slice (some ⟨w.heap.size, 0, none⟩) (l + n) N) (w.drew.alloc (.cells (os'.toArray ++ cs'.toArray ++ Builtin.zeroCells z.cells (N - (l + n))) el)) := by
  subst hat
  obtain ⟨inf, hinf⟩ : ∃ inf, P.info? el = some inf := by
    cases h : P.info? el with
    | none => simp [h] at hsz
    | some q => exact ⟨q, rfl⟩
  have hbb : inf.bytes = bytes := by simpa [hinf] using hby
  have hcap := nextcap_le (l + n) c' hfit
  have hcap2 : Builtin.nextslicecap (l + n) c' * bytes ≤ 2 ^ 48 := Nat.le_trans (Nat.mul_le_mul_right _ hcap) hb
  refine ⟨(Question.appendCap (l + n) c' el).cut (w.tape w.drawn (.appendCap (l + n) c' el)), ?_, ?_⟩
  · simp only [Question.cut]; omega
  · rcases notInt_or hni with ⟨e2, rfl⟩ | rfl
    all_goals
    simp only [Builtin.append_, List.getElem?_toArray, List.getElem?_cons_zero, List.getElem?_cons_succ, Sem.run_bind, run_underlying hu, Result.andThen_ok, run_sizeOf' hsz, run_underlying hxu, Sem.run_pure,
      Bool.false_eq_true, if_false, hl, Bool.not_false, if_true]
    rw [if_neg (by omega)]
    simp only [Sem.run_bind, run_typeInfo w hinf, Result.andThen_ok, hbb]
    rw [if_neg (by rintro ⟨_, h | h⟩; · exact h
                   · omega)]
    simp only [Sem.run_bind, run_typeInfo w hinf, Result.andThen_ok, hbb]
    rw [if_neg (by omega)]
    simp only [Sem.run_bind, run_choose, Question.forced, Bool.false_eq_true, if_false, Result.andThen_ok, World.drew_eq, run_typeInfo _ hinf, run_askRoom, hfs, hfx, run_zeroValue' hz0, run_newRow, Sem.run_pure, World.size_drew]
theorem VR.sliceAny {s : Inj} {q : Option Addr} {v' : Value} (h : VR s (.slice q l c) v') : ∃ a c', v' = .slice a l c' ∧ l ≤ c' ∧ (c < UNK → c' = c) := by
  cases h with
  | nilslice => exact ⟨_, _, rfl, Nat.le_refl _, fun _ => rfl⟩
  | slice h1 h2 h3 => exact ⟨_, _, rfl, h1, h2⟩
theorem opv_append0 {q : Option Addr} (hop : o.op = .call { callee := .builtin .append, args := #[x, y], argTypes := at' }) (hat : at' = #[sT, xT]) (hx : okOpd P.globals.size x = true) (hy : okOpd P.globals.size y = true)
    (hu : P.underlying sT = some (.slice el)) (hsz : (P.info? el).map (·.size) = some size) (hxu : P.underlying xT = some dx) (hni : notInt dx = true)
    (h1 : ρ.eval x = .slice q l c) (h2 : ρ.eval y = xv) (hs : Src aw size xv 0 cs) : OpV P o ρ aw (.slice q l c) aw := by
  intro base w0 s f w hr hf
  have e1 := hf x hx; rw [h1] at e1
  have e2 := hf y hy; rw [h2] at e2
  obtain ⟨a, c', q1, q2, q3⟩ := e1.sliceAny
  obtain ⟨r1, cs', r2, r3⟩ := hs.run (P := P) hr e2
  have hcs : cs' = [] := by
    have := hs.length
    rw [Nat.zero_mul] at this
    have h' := r2.length
    rw [this] at h'
    exact List.eq_nil_of_length_eq_zero h'.symm
  subst hcs
  have := run_append_fits (P := P) (a := a) (c' := c') (l := l) hat hu hsz hxu hni r1 r3 (by omega) (w' := w) (by cases a <;> simp [storeCells]) o.type
  refine ⟨_, .slice a l c', w, s, ?_, .inl rfl, Inj.le_refl s, hr, q1 ▸ e1⟩
  simp only [execOp, hop, resolve, Sem.run_bind, Sem.run_pure, Result.andThen_ok, invoke, builtin, List.map_toArray, List.map_cons, List.map_nil, q1]
  rw [this]; rfl
theorem opv_appendX (hop : o.op = .call { callee := .builtin .append, args := #[x, y], argTypes := at' }) (hat : at' = #[sT, xT]) (hx : okOpd P.globals.size x = true) (hy : okOpd P.globals.size y = true)
    (hu : P.underlying sT = some (.slice el)) (hsz : (P.info? el).map (·.size) = some size) (hxu : P.underlying xT = some dx) (hni : notInt dx = true)
    (h1 : ρ.eval x = .slice (some ⟨b, i, none⟩) l c) (h2 : ρ.eval y = xv) (hs : Src aw size xv n cs) (hc : c < UNK) (hfit : l + n ≤ c) (h0 : 0 < n) (ho : cs.all one = true) (hw : aw.wr b (i + l * size) cs.length) :
    OpV P o ρ aw (.slice (some ⟨b, i, none⟩) (l + n) c) (aw.setN b (i + l * size) cs) := by
  intro base w0 s f w hr hf
  have e1 := hf x hx; rw [h1] at e1
  have e2 := hf y hy; rw [h2] at e2
  obtain ⟨a', c', q1, q2, q3, q4⟩ := e1.slice_inv
  have hcc := q3 hc
  subst hcc
  obtain ⟨e, q5, q6, q7⟩ := q4 (by omega)
  subst q6
  obtain ⟨r1, cs', r2, r3⟩ := hs.run (P := P) hr e2
  obtain ⟨w', k1, k2⟩ := Rel.setN P (i := i + l * size) (k := 0) hr q5 (by simpa using hw) r2 ho
  have := run_append_fits (P := P) (a := some ⟨e.cb, e.off + i, none⟩) (c' := c') (l := l) hat hu hsz hxu hni r1 r3 hfit (w' := w') (by simp only [Addr.add_lit]; rw [show e.off + i + l * size = e.off + (i + l * size) by omega]; exact k1) o.type
  refine ⟨_, .slice (some ⟨e.cb, e.off + i, none⟩) (l + n) c', w', s, ?_, .inl rfl, Inj.le_refl s, by simpa using k2, .slice hfit (fun _ => rfl) fun _ => ⟨e, q5, rfl, fun h => by omega⟩⟩
  simp only [execOp, hop, resolve, Sem.run_bind, Sem.run_pure, Result.andThen_ok, invoke, builtin, List.map_toArray, List.map_cons, List.map_nil, q1]
  rw [this]; rfl
theorem alloc_append {G : Nat} {base : Nat → Prop} {w0 : World} {s : Inj} {w : World} (hr : Rel G base w0 s aw w) {os' cs' : List Value} (ho : VRs s os os') (hc : VRs s cs cs') (el esz : Nat) (hesz : 0 < esz) (rest : Array Value) :
    ∃ s', s.le s' ∧ s' aw.next = some ⟨w.heap.size, 0, (os'.toArray ++ cs'.toArray ++ rest).size, esz⟩ ∧
      Rel G base w0 s' (aw.alloc (os ++ cs) el esz) (w.alloc (.cells (os'.toArray ++ cs'.toArray ++ rest) el)) := by
  have hv := ho.append hc
  have hlen := hv.length
  refine hr.alloc el esz ?_ (by omega) ?_ (0, 0) (by simp)
  · simp at hlen ⊢; omega
  · intro j u hj
    obtain ⟨u', a1, a2⟩ := hv.get hj
    refine ⟨u', ?_, a2⟩
    have hlt := (List.getElem?_eq_some_iff.1 a1).1
    rw [Array.getElem?_append_left (by simpa using hlt)]
    simpa using a1
theorem opv_appendG (hop : o.op = .call { callee := .builtin .append, args := #[x, y], argTypes := at' }) (hat : at' = #[sT, xT]) (hx : okOpd P.globals.size x = true) (hy : okOpd P.globals.size y = true)
    (hu : P.underlying sT = some (.slice el)) (hsz : (P.info? el).map (·.size) = some size) (hby : (P.info? el).map (·.bytes) = some bytes) (hxu : P.underlying xT = some dx) (hni : notInt dx = true)
    (hz0 : (P.info? el).bind (·.zero) = some z) (hzs : z.cells.size = size) (hb0 : 0 < bytes)
    (h1 : ρ.eval x = sv) (h2 : ρ.eval y = xv) (hos : Src aw size sv l os) (hsl : ∃ q, sv = .slice q l c) (hs : Src aw size xv n cs) (hc : c < UNK) (hfit : c < l + n) (hsz0 : 0 < size)
    (hb : (2 * (l + n) + 768) * bytes ≤ 2 ^ 48) : OpV P o ρ aw (.slice (some ⟨aw.next, 0, none⟩) (l + n) UNK) (aw.alloc (os ++ cs) el size) := by
  intro base w0 s f w hr hf
  obtain ⟨q, rfl⟩ := hsl
  have e1 := hf x hx; rw [h1] at e1
  have e2 := hf y hy; rw [h2] at e2
  obtain ⟨a, c', q1, q2, q3⟩ := e1.sliceAny
  have hcc := q3 hc
  subst hcc
  obtain ⟨r1, _⟩ := hs.run (P := P) hr e2
  obtain ⟨_, cs', r2, r3⟩ := hs.run (P := P) hr.drew e2
  obtain ⟨_, os', t2, t3⟩ := hos.run (P := P) hr.drew (q1 ▸ e1)
  obtain ⟨N, hN, hrun⟩ := run_append_grows (P := P) (a := a) (c' := c') (l := l) hat hu hsz hby hxu hni hz0 hb0 r1 (fun _ _ => trivial) r3 t3 hfit hb o.type
  obtain ⟨s', k1, k2, k3⟩ := alloc_append hr.drew t2 r2 el size hsz0 (Builtin.zeroCells z.cells (N - (l + n)))
  refine ⟨_, .slice (some ⟨w.heap.size, 0, none⟩) (l + n) N, _, s', ?_, .inl rfl, k1, k3, .slice hN (fun h => absurd h (by omega)) fun _ => ⟨_, k2, rfl, fun _ => ?_⟩⟩
  · simp only [execOp, hop, resolve, Sem.run_bind, Sem.run_pure, Result.andThen_ok, invoke, builtin, List.map_toArray, List.map_cons, List.map_nil, q1]
    rw [hrun]; rfl
  · have l1 := t2.length; have l2 := r2.length
    rw [hos.length] at l1; rw [hs.length] at l2
    simp only [Array.size_append, List.size_toArray, zeroCells_size, hzs, ← l1, ← l2, Nat.zero_add]
    rw [← Nat.add_mul, ← Nat.add_mul]
    exact Nat.le_of_eq (by congr 1; omega)
def Inj.put (s : Inj) (n : Nat) (e : Ent) : Inj := fun q => if q = n then some e else s q
theorem Inj.put_same (s : Inj) (n : Nat) (e : Ent) : s.put n e n = some e := by simp [Inj.put]
theorem Inj.put_ne {s : Inj} {n q : Nat} (e : Ent) (h : ¬ q = n) : s.put n e q = s q := by simp [Inj.put, h]
theorem Rel.move (P : Program) {G : Nat} {base : Nat → Prop} {w0 : World} {s : Inj} {w : World} (hr : Rel G base w0 s aw w) {B : Blk} {e : Ent} (hB : aw.m b = some B) (hrw : B.rw = true) (hfz : B.fz = 0) (he : s b = some e)
    {os cs cs' : List Value} (hos : aw.getN b i os.length = some os) (hcs : VRs s cs cs') (ho : cs.all one = true) (hroom : e.off + i + os.length + cs.length ≤ e.csize) (hi : i = 0) (hesz : 0 < e.esz) :
    ∃ w' s', (storeCells ⟨e.cb, e.off + i + os.length, none⟩ cs').run P w = .ok () w' ∧ s.le s' ∧ s' aw.next = some ⟨e.cb, e.off + i, e.csize, e.esz⟩ ∧
      Rel G base w0 s' ((aw.kill b).alloc (os ++ cs) B.elem e.esz) w' := by
  obtain ⟨e', C, fz, h1, h2, h3, h4, h5, h6, h7⟩ := hr.blk b B hB
  rw [he] at h1; obtain rfl := Option.some.inj h1
  obtain ⟨h8, h9⟩ := h7 hrw
  obtain ⟨os', k1, k2⟩ := hr.cellsN he hos
  have hlo := k1.length
  let mid : List Value := (List.range cs.length).map fun j => (C.getD (e.off + i + os.length + j) undef)
  obtain ⟨σ', hσ⟩ : ∃ σ' : Inj, σ' = s.put aw.next ⟨e.cb, e.off + i, e.csize, e.esz⟩ := ⟨_, rfl⟩
  have hσ1 : σ' aw.next = some ⟨e.cb, e.off + i, e.csize, e.esz⟩ := by rw [hσ, Inj.put_same]
  have hσ2 : ∀ {q : Nat}, ¬ q = aw.next → σ' q = s q := fun h => by rw [hσ, Inj.put_ne _ h]
  have hle : s.le σ' := by
    intro q x hq
    have : q ≠ aw.next := by rintro rfl; rw [hr.fresh _ (Nat.le_refl _)] at hq; simp at hq
    rw [hσ2 this]; exact hq
  have hbn : b ≠ aw.next := by rintro rfl; rw [hr.mfresh _ (Nat.le_refl _)] at hB; simp at hB
  have hstore : ∀ (vs : List Value) (k : Nat) (w : World) (C : Array Value), w.heap[e.cb]? = some (.cells C B.elem fz) → C.size = e.csize → k + vs.length ≤ os.length + cs.length → os.length ≤ k → (vs.all one = true) →
      ∃ w', (storeCells ⟨e.cb, e.off + i, none⟩ vs k).run P w = .ok () w' ∧ (∀ j, j ≠ e.cb → w'.heap[j]? = w.heap[j]?) ∧ w'.heap.size = w.heap.size ∧ w'.os = w.os ∧ w'.tape = w.tape ∧ w'.output = w.output ∧
        ∃ C', w'.heap[e.cb]? = some (.cells C' B.elem fz) ∧ C'.size = e.csize ∧ (∀ j, j < e.off + i + k → C'[j]? = C[j]?) ∧ ∀ j u, vs[j]? = some u → C'[e.off + i + k + j]? = some u := by
    intro vs
    induction vs with
    | nil =>
      intro k w C hC hs _ _ _
      exact ⟨w, by simp [storeCells], fun _ _ => rfl, rfl, rfl, rfl, rfl, C, hC, hs, fun _ _ => rfl, fun j u hj => by simp at hj⟩
    | cons u vs ih =>
      intro k w C hC hs hk hlk hone
      simp only [List.length_cons] at hk
      simp only [List.all_cons, Bool.and_eq_true] at hone
      have hlt : e.off + i + k < C.size := by omega
      have hfr : w.frozen? ⟨e.cb, e.off + i + k, none⟩ = false := by
        simp only [World.frozen?, hC]
        have := h9 hfz (e.off + i + k) (by omega) (by omega)
        simp only [Bool.and_eq_false_iff, decide_eq_false_iff_not]
        by_cases hx : fz.1 ≤ e.off + i + k
        · exact .inr (fun hy => this ⟨hx, hy⟩)
        · exact .inl hx
      have hcell : w.cell? ⟨e.cb, e.off + i + k, none⟩ = some C[e.off + i + k] := by simp [World.cell?, hC, hlt]
      have hC2 : (w.setCell ⟨e.cb, e.off + i + k, none⟩ u).heap[e.cb]? = some (.cells (C.setIfInBounds (e.off + i + k) u) B.elem fz) := by
        simp [World.setCell, Array.getElem?_modify, hC]
      obtain ⟨w', g1, g2, g3, g4, g5, g6, C', g7, g8, g9, g10⟩ := ih (k + 1) (w.setCell ⟨e.cb, e.off + i + k, none⟩ u) _ hC2 (by simpa using hs) (by omega) (by omega) hone.2
      refine ⟨w', ?_, ?_, ?_, ?_, ?_, ?_, C', g7, g8, ?_, ?_⟩
      · simp only [storeCells, Sem.run_bind]
        rw [run_store _ _ _ _ _ hone.1, Addr.add_lit, hcell]
        simp only [hfr, Bool.false_eq_true, if_false, Result.andThen_ok]
        exact g1
      · intro j hj
        rw [g2 j hj]
        exact Below.heap_setCell _ _ _ _ hj
      · rw [g3]; simp
      · rw [g4]; rfl
      · rw [g5]; rfl
      · rw [g6]; rfl
      · intro j hj
        rw [g9 j (by omega), Array.getElem?_setIfInBounds_ne (by omega)]
      · intro j x hj
        cases j with
        | zero =>
          simp at hj; subst hj
          rw [g9 _ (by omega)]
          simp [hlt]
        | succ j =>
          simp at hj
          have := g10 j x hj
          rw [show e.off + i + (k + 1) + j = e.off + i + k + (j + 1) by omega] at this
          exact this
  have hone' : cs'.all one = true := by
    have : ∀ {a b : List Value}, VRs s a b → a.all one = true → b.all one = true := by
      intro a b hab
      induction a generalizing b with
      | nil => cases hab; simp
      | cons x xs ih =>
        cases hab with | cons hx hxs =>
        simp only [List.all_cons, Bool.and_eq_true]
        exact fun h => ⟨by rw [one, hx.one]; exact h.1, ih hxs h.2⟩
    exact this hcs ho
  have hlc := hcs.length
  obtain ⟨w', g1, g2, g3, g4, g5, g6, C', g7, g8, g9, g10⟩ := hstore cs' os.length w C h3 h4 (by omega) (Nat.le_refl _) hone'
  refine ⟨w', σ', ?_, hle, hσ1, ?_⟩
  · have shift : ∀ (vs : List Value) (k m : Nat), storeCells ⟨e.cb, e.off + i + m, none⟩ vs k = storeCells ⟨e.cb, e.off + i, none⟩ vs (k + m) := by
      intro vs
      induction vs with
      | nil => intro k m; rfl
      | cons u vs ih =>
        intro k m
        simp only [storeCells, Addr.add_lit]
        rw [show e.off + i + m + k = e.off + i + (k + m) by omega]
        congr 1; funext _
        rw [ih (k + 1) m, show k + 1 + m = k + m + 1 by omega]
    have := shift cs' 0 os.length
    rw [this, Nat.zero_add]
    exact g1
  refine ⟨?_, ?_, ?_, ?_, ?_, ?_, ?_, (hr.maps.inj hle).to rfl (Nat.le_succ _) fun k xs ck hk => ?_⟩
  rotate_right
  · rw [g2 k (fun e' => by subst e'; rw [h3] at hk; cases hk)]
    exact hk
  · intro q hq
    have hq' : aw.next + 1 ≤ q := hq
    have : q ≠ aw.next := by omega
    rw [hσ2 this]
    exact hr.fresh q (by omega)
  · intro q hq
    have hq' : aw.next + 1 ≤ q := hq
    simp only [AW.alloc, AW.kill]
    have hqn : ¬ q = aw.next := by omega
    simp only [hqn, if_false]
    split
    · rfl
    · exact hr.mfresh q (by omega)
  · intro q Q hq
    simp only [AW.alloc, AW.kill] at hq
    by_cases hqn : q = aw.next
    · subst hqn
      simp only [if_true, Option.some.injEq] at hq
      subst hq
      refine ⟨⟨e.cb, e.off + i, e.csize, e.esz⟩, C', fz, hσ1, ⟨rfl, fun _ => by have := h2.2.1 hrw; simp only; omega, fun h => absurd h (by simp only; omega)⟩, g7, g8, by simp; omega, ?_, ?_⟩
      · intro j u hj
        simp only at hj
        by_cases hjl : j < os.length
        · rw [List.getElem?_append_left hjl] at hj
          obtain ⟨u', a1, a2⟩ := k1.get hj
          refine ⟨u', ?_, a2.mono hle⟩
          have := k2 j u' a1
          simp only [World.cell?, h3] at this
          simp only
          rw [g9 _ (by omega)]
          simpa using this
        · rw [List.getElem?_append_right (by omega)] at hj
          obtain ⟨u', a1, a2⟩ := hcs.get hj
          refine ⟨u', ?_, a2.mono hle⟩
          have := g10 (j - os.length) u' a1
          simp only
          rw [show e.off + i + j = e.off + i + os.length + (j - os.length) by omega]
          exact this
      · intro _
        exact ⟨h8, fun _ j h1 h2 => h9 hfz j (by simp only at h1; omega) h2⟩
    · simp only [hqn, if_false] at hq
      split at hq
      · simp at hq
      · rename_i hqb
        obtain ⟨e2, C2, fz2, m1, m2, m3, m4, m5, m6, m7⟩ := hr.blk q Q hq
        have hne : e.cb ≠ e2.cb := hr.sep b q B Q e e2 (fun x => hqb x.symm) hB hq he m1 hrw
        exact ⟨e2, C2, fz2, by rw [hσ2 hqn]; exact m1, m2, by rw [g2 _ (fun x => hne x.symm)]; exact m3, m4, m5, fun j u hj => let ⟨u', a1, a2⟩ := m6 j u hj; ⟨u', a1, a2.mono hle⟩, m7⟩
  · intro b1 b2 B1 B2 e1 e2 hne hb1 hb2 he1 he2 hrw1
    simp only [AW.alloc, AW.kill] at hb1 hb2
    by_cases n1 : b1 = aw.next
    · subst n1
      have n2 : ¬ b2 = aw.next := fun x => hne x.symm
      simp only [n2, if_false] at hb2
      split at hb2
      · simp at hb2
      · rename_i n3
        rw [hσ1] at he1; rw [hσ2 n2] at he2
        obtain rfl := Option.some.inj he1
        exact hr.sep b b2 B B2 e e2 (fun x => n3 x.symm) hB hb2 he he2 hrw
    · simp only [n1, if_false] at hb1
      split at hb1
      · simp at hb1
      · rename_i n3
        rw [hσ2 n1] at he1
        by_cases n2 : b2 = aw.next
        · subst n2
          rw [hσ1] at he2
          obtain rfl := Option.some.inj he2
          exact hr.sep b1 b B1 B e1 e n3 hb1 hB he1 he hrw1
        · simp only [n2, if_false] at hb2
          split at hb2
          · simp at hb2
          · rw [hσ2 n2] at he2
            exact hr.sep b1 b2 B1 B2 e1 e2 hne hb1 hb2 he1 he2 hrw1
  · rw [g3]; exact hr.hbase
  · intro g hg
    obtain ⟨x, a1, a2, a3⟩ := hr.glob g hg
    exact ⟨x, hle _ _ a1, a2, a3⟩
  · refine hr.below.trans ⟨g4, g5, g6, by rw [g3]; exact Nat.le_refl _, fun j hj => g2 j (fun e => h8 (e ▸ hj)), fun j o hj hn => ?_⟩
    rw [g2 j (fun e => ?_)]
    · exact hj
    · subst e
      rw [h3] at hj
      obtain rfl := Option.some.inj hj
      cases hn
end
end Go.Am
set_option linter.unusedSimpArgs false
set_option linter.unusedVariables false
set_option linter.unusedSectionVars false
namespace Go.Am
open Go Go.RowKit
variable [SymE]
section
variable {P : Program} {ρ : Env} {aw aw' : AW} {o : Oper} {v xv sv : Value} {x y : Operand} {t el sT xT : TypeId} {d dx : TypeDesc} {b i n l c size bytes : Nat} {cs os : List Value} {z : Value} {at' : Array TypeId}
theorem opv_appendU {B : Blk} (hop : o.op = .call { callee := .builtin .append, args := #[x, y], argTypes := at' }) (hat : at' = #[sT, xT]) (hx : okOpd P.globals.size x = true) (hy : okOpd P.globals.size y = true)
    (hu : P.underlying sT = some (.slice el)) (hsz : (P.info? el).map (·.size) = some size) (hby : (P.info? el).map (·.bytes) = some bytes) (hxu : P.underlying xT = some dx) (hni : notInt dx = true)
    (hz0 : (P.info? el).bind (·.zero) = some z) (hzs : z.cells.size = size) (hb0 : 0 < bytes)
    (h1 : ρ.eval x = .slice (some ⟨b, i, none⟩) l c) (h2 : ρ.eval y = xv) (hos : aw.getN b i (l * size) = some os) (hs : Src aw size xv n cs) (hc : UNK ≤ c)
    (hB : aw.m b = some B) (hrw : B.rw = true) (hfz : B.fz = 0) (hBe : B.elem = el) (hBs : B.esz = size) (ho : cs.all one = true) (hi : i = 0) (hsz0 : 0 < size)
    (hb : (2 * (l + n) + 768) * bytes ≤ 2 ^ 48) : OpV P o ρ aw (.slice (some ⟨aw.next, 0, none⟩) (l + n) UNK) ((aw.kill b).alloc (os ++ cs) el size) := by
  intro base w0 s f w hr hf
  have e1 := hf x hx; rw [h1] at e1
  have e2 := hf y hy; rw [h2] at e2
  obtain ⟨a', c', q1, q2, q3, q4⟩ := e1.slice_inv
  by_cases hfit : l + n ≤ c'
  · -- in place, or nothing at all
    rcases Nat.eq_zero_or_pos c' with h0 | h0
    · -- an empty one: nothing is appended to nothing
      have hl0 : l = 0 := by omega
      have hn0 : n = 0 := by omega
      subst hl0 hn0 h0
      obtain ⟨r1, cs', r2, r3⟩ := hs.run (P := P) hr e2
      have hcs : cs = [] := List.eq_nil_of_length_eq_zero (by rw [hs.length]; omega)
      subst hcs
      cases r2
      have hos' : os = [] := List.eq_nil_of_length_eq_zero (by rw [AW.getN_length hos]; omega)
      subst hos'
      obtain ⟨e, C, fz, g1, g2, g3, g4, g5, g6, g7⟩ := hr.blk b B hB
      obtain ⟨w', s', k1, k2, k3, k4⟩ := Rel.move P (i := 0) hr hB hrw hfz g1 (os := []) (cs := []) (cs' := []) rfl .nil rfl (by simp; omega) rfl (by rw [g2.1, hBs]; exact hsz0)
      simp only [storeCells, Sem.run_pure, Result.ok.injEq, true_and] at k1
      subst k1
      have := run_append_fits (P := P) (a := some a') (c' := 0) (l := 0) hat hu hsz hxu hni r1 r3 (by omega) (w' := w) (by simp [storeCells]) o.type
      refine ⟨_, .slice (some a') 0 0, w, s', ?_, .inl rfl, k2, ?_, .slice (Nat.le_refl _) (fun h => absurd h (Nat.lt_irrefl _)) fun h => absurd h (Nat.lt_irrefl _)⟩
      · simp only [execOp, hop, resolve, Sem.run_bind, Sem.run_pure, Result.andThen_ok, invoke, builtin, List.map_toArray, List.map_cons, List.map_nil, q1]
        rw [this]; rfl
      · rw [hBe] at k4
        rw [show e.esz = size by rw [g2.1, hBs]] at k4
        exact k4
    · obtain ⟨e, q5, q6, q7⟩ := q4 h0
      subst q6
      obtain ⟨r1, cs', r2, r3⟩ := hs.run (P := P) hr e2
      have hlo := AW.getN_length hos
      have hlc := hs.length
      have q8 := q7 hc
      obtain ⟨e', C, fz, g1, g2, g3, g4, g5, g6, g7⟩ := hr.blk b B hB
      rw [q5] at g1; obtain rfl := Option.some.inj g1
      have hes : e.esz = size := by rw [g2.1, hBs]
      rw [hes] at q8
      have hroom : e.off + i + os.length + cs.length ≤ e.csize := by
        rw [hlo, hlc]
        have : (l + n) * size ≤ c' * size := Nat.mul_le_mul_right _ hfit
        rw [Nat.add_mul] at this
        omega
      obtain ⟨w', s', k1, k2, k3, k4⟩ := Rel.move P hr hB hrw hfz q5 (by rw [hlo]; exact hos) r2 ho hroom hi (by rw [hes]; exact hsz0)
      have := run_append_fits (P := P) (a := some ⟨e.cb, e.off + i, none⟩) (c' := c') (l := l) hat hu hsz hxu hni r1 r3 hfit (w' := w') (by simp only [Addr.add_lit]; rw [← hlo]; exact k1) o.type
      rw [hBe, hes] at k4
      refine ⟨_, .slice (some ⟨e.cb, e.off + i, none⟩) (l + n) c', w', s', ?_, .inl rfl, k2, k4, .slice hfit (fun h => absurd h (Nat.lt_irrefl _)) fun _ => ⟨_, k3, rfl, fun _ => ?_⟩⟩
      · simp only [execOp, hop, resolve, Sem.run_bind, Sem.run_pure, Result.andThen_ok, invoke, builtin, List.map_toArray, List.map_cons, List.map_nil, q1]
        rw [this]; rfl
      · simp only [Nat.add_zero, hes]; exact q8
  · have hkr := hr.kill b
    obtain ⟨r1, _⟩ := hs.run (P := P) hr e2
    obtain ⟨_, cs', r2, r3⟩ := hs.run (P := P) hr.drew e2
    have hsrc : Src aw size (.slice (some ⟨b, i, none⟩) l c) l os := .slice hos
    obtain ⟨_, os', t2, t3⟩ := hsrc.run (P := P) hr.drew (q1 ▸ e1)
    obtain ⟨N, hN, hrun⟩ := run_append_grows (P := P) (a := some a') (c' := c') (l := l) hat hu hsz hby hxu hni hz0 hb0 r1 (fun _ _ => trivial) r3 t3 (by omega) hb o.type
    obtain ⟨s', k1, k2, k3⟩ := alloc_append (hr.drew.kill b) t2 r2 el size hsz0 (Builtin.zeroCells z.cells (N - (l + n)))
    refine ⟨_, .slice (some ⟨w.heap.size, 0, none⟩) (l + n) N, _, s', ?_, .inl rfl, k1, k3, .slice hN (fun h => absurd h (Nat.lt_irrefl _)) fun _ => ⟨_, k2, rfl, fun _ => ?_⟩⟩
    · simp only [execOp, hop, resolve, Sem.run_bind, Sem.run_pure, Result.andThen_ok, invoke, builtin, List.map_toArray, List.map_cons, List.map_nil, q1]
      rw [hrun]; rfl
    · have l1 := t2.length; have l2 := r2.length
      rw [AW.getN_length hos] at l1; rw [hs.length] at l2
      simp only [Array.size_append, List.size_toArray, zeroCells_size, hzs, ← l1, ← l2, Nat.zero_add]
      rw [← Nat.add_mul, ← Nat.add_mul]
      exact Nat.le_of_eq (by congr 1; omega)
theorem Src.take {aw : AW} {size n m : Nat} {v : Value} {cs : List Value} (h : Src aw size v n cs) (hm : m ≤ n) {s : Inj} {G : Nat} {base : Nat → Prop} {w0 w : World} (hr : Rel G base w0 s aw w) {v' : Value} (hv : VR s v v') :
    ∃ cs', VRs s (cs.take (m * size)) cs' ∧ (Builtin.firstCells size m v').run P w = .ok cs'.toArray w := by
  have getN_take : ∀ (k b i n : Nat) (cs : List Value), aw.getN b i n = some cs → k ≤ n → aw.getN b i k = some (cs.take k) := by
    intro k
    induction k with
    | zero => intro b i n cs _ _; simp [AW.getN]
    | succ k ih =>
      intro b i n cs hg hk
      cases n with
      | zero => omega
      | succ n =>
        simp only [AW.getN] at hg ⊢
        split at hg
        · simp at hg
        · rename_i u hu
          cases hg2 : aw.getN b (i + 1) n with
          | none => simp [hg2] at hg
          | some l =>
            simp [hg2] at hg; subst hg
            simp [hu, ih b (i + 1) n l hg2 (by omega)]
  cases h with
  | @slice b i n c cs hg =>
    have := getN_take (m * size) b i (n * size) cs hg (Nat.mul_le_mul_right _ hm)
    have h2 : Src aw size (.slice (some ⟨b, i, none⟩) m c) m (cs.take (m * size)) := .slice this
    obtain ⟨a', c', rfl, q2, q3, q4⟩ := hv.slice_inv
    have hv2 : VR s (.slice (some ⟨b, i, none⟩) m c) (.slice (some a') m c') := .slice (by omega) q3 q4
    obtain ⟨_, cs', k1, k2⟩ := h2.run (P := P) hr hv2
    exact ⟨cs', k1, by simpa [Builtin.firstCells] using k2⟩
  | nil =>
    obtain ⟨_, _, rfl⟩ := hv.nilslice_inv
    have : m = 0 := by omega
    subst this
    exact ⟨[], by simp; exact .nil, rfl⟩
  | str a hz =>
    subst hz
    rw [hv.string_inv]
    refine ⟨_, (VRs.ofPlains (plains_bytes _)).take _, ?_⟩
    simp only [Builtin.firstCells, Sem.run_pure, Nat.mul_one]
    congr 1
    apply Array.toList_inj.1
    simp only [Array.toList_map, List.map_take, ByteArray.data_extract]
    simp [← List.map_take]
theorem opv_copy {m : Nat} (hop : o.op = .call { callee := .builtin .copy, args := #[x, y], argTypes := at' }) (hat : at' = #[sT, xT]) (hx : okOpd P.globals.size x = true) (hy : okOpd P.globals.size y = true)
    (hu : P.underlying sT = some (.slice el)) (hsz : (P.info? el).map (·.size) = some size)
    (h1 : ρ.eval x = .slice (some ⟨b, i, none⟩) l c) (h2 : ρ.eval y = xv) (hs : Src aw size xv n cs) (hm : m = min n l) (ho : (cs.take (m * size)).all one = true) (hw : aw.wr b i (cs.take (m * size)).length) :
    OpV P o ρ aw (.int .i64 m) (aw.setN b i (cs.take (m * size))) := by
  intro base w0 s f w hr hf
  have e1 := hf x hx; rw [h1] at e1
  have e2 := hf y hy; rw [h2] at e2
  obtain ⟨a', c', q1, q2, q3, q4⟩ := e1.slice_inv
  obtain ⟨r1, _⟩ := hs.run (P := P) hr e2
  obtain ⟨cs', r2, r3⟩ := hs.take (P := P) (m := m) (by omega) hr e2
  have hmn : Nat.min n l = m := hm.symm
  rcases Nat.eq_zero_or_pos m with h0 | h0
  · have hnil : cs.take (m * size) = [] := by subst h0; simp
    rw [hnil] at r2 hw ho ⊢
    cases r2
    refine ⟨_, .int .i64 m, w, s, ?_, .inl rfl, Inj.le_refl s, hr, .int _ _⟩
    subst hat
    simp only [execOp, hop, resolve, Sem.run_bind, Sem.run_pure, Result.andThen_ok, invoke, builtin, List.map_toArray, List.map_cons, List.map_nil, q1, Builtin.copy_, List.getElem?_toArray, List.getElem?_cons_zero, List.getElem?_cons_succ,
      run_underlying hu, run_sizeOf' hsz, r1, hmn, r3, storeCells, goInt]
  · obtain ⟨e, q5, q6, q7⟩ := q4 (by omega)
    subst q6
    obtain ⟨w', k1, k2⟩ := Rel.setN P (i := i) (k := 0) hr q5 (by simpa using hw) r2 ho
    refine ⟨_, .int .i64 m, w', s, ?_, .inl rfl, Inj.le_refl s, by simpa using k2, .int _ _⟩
    subst hat
    simp only [execOp, hop, resolve, Sem.run_bind, Sem.run_pure, Result.andThen_ok, invoke, builtin, List.map_toArray, List.map_cons, List.map_nil, q1, Builtin.copy_, List.getElem?_toArray, List.getElem?_cons_zero, List.getElem?_cons_succ,
      run_underlying hu, run_sizeOf' hsz, r1, hmn, r3, goInt]
    rw [k1]; rfl
def zeros (z : List Value) : Nat → List Value
  | 0 => []
  | n + 1 => z ++ zeros z n
theorem zeros_length (z : List Value) : ∀ n, (zeros z n).length = n * z.length
  | 0 => by simp [zeros]
  | n + 1 => by simp [zeros, zeros_length z n, Nat.add_mul]; omega
theorem zeros_get (z : List Value) (hz : 0 < z.length) : ∀ (n j : Nat), j < n * z.length → (zeros z n)[j]? = z[j % z.length]?
  | 0, j, h => by simp at h
  | n + 1, j, h => by
    simp only [zeros]
    by_cases hj : j < z.length
    · rw [List.getElem?_append_left hj, Nat.mod_eq_of_lt hj]
    · rw [List.getElem?_append_right (by omega), zeros_get z hz n _ (by rw [Nat.add_mul] at h; omega)]
      congr 1
      rw [← Nat.mod_eq_sub_mod (by omega)]
theorem madeCells_zeros {z : Array Value} (hz : 0 < z.size) (n : Nat) : ((Array.range (n * z.size)).map (z[· % z.size]!)).toList = zeros z.toList n := by
  apply List.ext_getElem?
  intro j
  by_cases hj : j < n * z.size
  · rw [zeros_get _ (by simpa using hz) n j (by simpa using hj)]
    have : j % z.size < z.size := Nat.mod_lt _ hz
    simp [hj, this]
  · have h2 : (zeros z.toList n).length ≤ j := by rw [zeros_length]; simp; omega
    rw [List.getElem?_eq_none h2]
    simp; omega
theorem zeros_plain {z : List Value} (h : plains z = true) : ∀ n, plains (zeros z n) = true
  | 0 => rfl
  | n + 1 => by
    have app : ∀ a b : List Value, plains a = true → plains b = true → plains (a ++ b) = true := by
      intro a
      induction a with
      | nil => intro b _ h; exact h
      | cons u a ih => intro b h1 h2; simp only [plains, List.cons_append, Bool.and_eq_true] at h1 ⊢; exact ⟨h1.1, ih b h1.2 h2⟩
    exact app _ _ h (zeros_plain h n)
theorem opv_makeSlice {k k' : IntKind} {m cp : Nat} (hop : o.op = .makeSlice t x y) (hx : okOpd P.globals.size x = true) (hy : okOpd P.globals.size y = true)
    (hu : P.underlying t = some (.slice el)) (hsz : (P.info? el).map (·.size) = some size) (hby : (P.info? el).map (·.bytes) = some bytes) (hz0 : (P.info? el).bind (·.zero) = some z) (hzs : z.cells.size = size) (hs0 : 0 < size) (hp : plains z.cells.toList = true)
    (h1 : ρ.eval x = .int k (m : Int)) (h2 : ρ.eval y = .int k' (cp : Int)) (hm : m ≤ cp) (hb : bytes * cp ≤ 2 ^ 47) (hcp : cp < 2 ^ 60) :
    OpV P o ρ aw (.slice (some ⟨aw.next, 0, none⟩) m cp) (aw.alloc (zeros z.cells.toList cp) el size) := by
  intro base w0 s f w hr hf
  have e1 := hf x hx; rw [h1] at e1
  have e2 := hf y hy; rw [h2] at e2
  obtain ⟨inf, hinf⟩ : ∃ inf, P.info? el = some inf := by
    cases h : P.info? el with
    | none => simp [h] at hsz
    | some q => exact ⟨q, rfl⟩
  have hbb : inf.bytes = bytes := by simpa [hinf] using hby
  have w1 : IntKind.i64.wrap (m : Int) = m := IntWalk.i64_in _ (by omega)
  have w2 : IntKind.i64.wrap (cp : Int) = cp := IntWalk.i64_in _ (by omega)
  have hb' : ((inf.bytes : Int) * (cp : Int)) ≤ 2 ^ 47 := by rw [hbb]; exact_mod_cast hb
  obtain ⟨s', k1, k2, k3⟩ := hr.alloc (cells := zeros z.cells.toList cp) (cs := (Array.range (cp * size)).map (z.cells[· % size]!)) el size (by
      rw [← hzs, ← madeCells_zeros (by omega) cp]; simp) (by omega) (fun j u hj => by
      have hpl := VRs.ofPlains (s := s) (zeros_plain hp cp)
      rw [← hzs]
      obtain ⟨u', a1, a2⟩ := hpl.get hj
      refine ⟨u', ?_, a2⟩
      rw [← madeCells_zeros (by omega) cp] at a1
      rw [← Array.getElem?_toList]; exact a1) (0, 0) (by simp)
  have hfin : (Instr.makeSlice t (.int k (m : Int)) (.int k' (cp : Int))).run P w = .ok (.slice (some ⟨w.heap.size, 0, none⟩) m cp) (w.alloc (.cells ((Array.range (cp * size)).map (z.cells[· % size]!)) el)) := by
    simp only [Instr.makeSlice, Sem.run_bind, run_underlying hu, Result.andThen_ok, asInt, run_asIntOf, Sem.run_pure, run_typeInfo w hinf, w1, w2]
    rw [if_neg (by simp; omega)]
    simp only [Sem.run_bind, run_askRoom, Result.andThen_ok, run_sizeOf' hsz, Int.toNat_natCast]
    by_cases hn : cp * size = 0
    · have : cp = 0 := by
        rcases Nat.mul_eq_zero.1 hn with h | h
        · exact h
        · omega
      subst this
      simp only [hn, if_true, Sem.run_pure, Result.andThen_ok, Sem.run_bind, run_newRow]
      congr 3
      apply Array.toList_inj.1
      simp
    · simp only [hn, if_false, Sem.run_bind, run_zeroValue' hz0, Result.andThen_ok, Sem.run_pure, run_newRow, hzs]
  refine ⟨_, .slice (some ⟨w.heap.size, 0, none⟩) m cp, _, s', ?_, .inl rfl, k1, k3, .slice hm (fun _ => rfl) fun _ => ⟨_, k2, rfl, fun h => ?_⟩⟩
  · simp only [execOp, hop, VR.int_inv e1, VR.int_inv e2, Sem.run_bind, hfin, Result.andThen_ok, Sem.run_pure]
  · unfold UNK at h; omega
theorem freeze_alloc (w : World) (cs : Array Value) (e : TypeId) : (w.alloc (.cells cs e)).freeze ⟨w.heap.size, cs.size, none⟩ 1 = w.alloc (.cells cs e (cs.size, cs.size + 1)) := by
  simp only [World.freeze, World.alloc]
  simp only [Nat.one_ne_zero, if_false]
  congr 1
  apply Array.ext_getElem?
  intro j
  rw [Array.getElem?_modify, Array.getElem?_push, Array.getElem?_push]
  by_cases hj : w.heap.size = j
  · subst hj; simp
  · have : ¬ j = w.heap.size := fun h => hj h.symm
    simp [hj, this]
end
end Go.Am
set_option linter.unusedSimpArgs false
set_option linter.unusedVariables false
set_option linter.unusedSectionVars false
namespace Go.Am
open Go Go.RowKit
variable [SymE]
def bytesV (l : List UInt8) : List Value := l.map fun b => .int .u8 b.toNat
mutual
theorem VR.eq_of_plain {s : Inj} : ∀ {v v' : Value}, VR s v v' → plain v = true → v' = v
  | _, _, .bool b, _ => rfl
  | _, _, .int k n, _ => rfl
  | _, _, .float k n, _ => rfl
  | _, _, .string x, _ => rfl
  | _, _, .nilptr, _ => rfl
  | _, _, .ptr h, hp => by simp [plain] at hp
  | _, _, .nilslice, _ => rfl
  | _, _, .slice hl hc h, hp => by simp [plain] at hp
  | _, _, .nilmap, _ => rfl
  | _, _, .func (f1 := ⟨a⟩) (f2 := ⟨b⟩) (c1 := ⟨c⟩) (c2 := ⟨d⟩) fn hf hc, hp => by
    simp only [plain, Bool.and_eq_true] at hp
    have := hf.eq_of_plains hp.1; simp only at this; subst this
    have := hc.eq_of_plains hp.2; simp only at this; subst this; rfl
  | _, _, .nilFunc, _ => rfl
  | _, _, .iface t h, hp => by rw [h.eq_of_plain (by simpa [plain] using hp)]
  | _, _, .nilIface, _ => rfl
  | _, _, .agg (xs := ⟨a⟩) (ys := ⟨b⟩) h, hp => by
    have := h.eq_of_plains (by simpa [plain] using hp); simp only at this; subst this; rfl
  | _, _, .tuple (xs := ⟨a⟩) (ys := ⟨b⟩) h, hp => by
    have := h.eq_of_plains (by simpa [plain] using hp); simp only at this; subst this; rfl
theorem VRs.eq_of_plains {s : Inj} : ∀ {v v' : List Value}, VRs s v v' → plains v = true → v' = v
  | _, _, .nil, _ => rfl
  | _, _, .cons h t, hp => by
    simp only [plains, Bool.and_eq_true] at hp
    rw [h.eq_of_plain hp.1, t.eq_of_plains hp.2]
end
section
variable {P : Program} {ρ : Env} {aw aw' : AW} {o : Oper} {v xv sv : Value} {x y : Operand} {t el sT xT xt yt : TypeId} {d dx : TypeDesc} {b i n l c size bytes : Nat} {cs os : List Value} {z : Value} {at' : Array TypeId}
theorem opv_toBytes {src dst e : TypeId} {a : ByteArray} (hop : o.op = .convert src dst x) (hx : okOpd P.globals.size x = true) (hs : P.underlying src = some d) (hd : P.underlying dst = some (.slice e))
    (he : P.underlying e = some (.int .u8)) (h1 : ρ.eval x = .string a) : OpV P o ρ aw (.slice (some ⟨aw.next, 0, none⟩) a.size UNK) (aw.alloc (bytesV a.data.toList) e 1) := by
  intro base w0 s f w hr hf
  have e1 := hf x hx; rw [h1] at e1
  obtain ⟨N, hN⟩ : ∃ N, N = (Question.appendCap a.size 0 e).cut (w.tape w.drawn (.appendCap a.size 0 e)) := ⟨_, rfl⟩
  have hle : a.size ≤ N := by rw [hN]; simp only [Question.cut]; omega
  obtain ⟨C, hC⟩ : ∃ C : Array Value, C = (a.data.map fun b => Value.int .u8 b.toNat) ++ Array.replicate (N - a.size) (.int .u8 0) := ⟨_, rfl⟩
  have hds : a.data.size = a.size := rfl
  have hCs : C.size = N := by rw [hC]; simp [hds]; omega
  obtain ⟨s', k1, k2, k3⟩ := hr.drew.alloc (cells := bytesV a.data.toList) (cs := C) e 1 (by rw [hCs]; simp only [bytesV, List.length_map, Array.length_toList]; exact hle) (by omega) (fun j u hj => by
    refine ⟨u, ?_, ?_⟩
    · have hlt := (List.getElem?_eq_some_iff.1 hj).1
      simp only [bytesV, List.length_map, Array.length_toList] at hlt
      rw [hC, Array.getElem?_append_left (by simpa using hlt), ← Array.getElem?_toList]
      simpa [bytesV] using hj
    · simp only [bytesV, List.getElem?_map] at hj
      cases hq : a.data.toList[j]? with
      | none => rw [hq] at hj; simp at hj
      | some q => rw [hq] at hj; simp only [Option.map_some, Option.some.injEq] at hj; subst hj; exact .int _ _) (C.size, C.size + 1) (fun j hj h => by omega)
  refine ⟨_, .slice (some ⟨w.heap.size, 0, none⟩) a.size N, _, s', ?_, .inl rfl, k1, k3, .slice hle (fun h => absurd h (Nat.lt_irrefl _)) fun _ => ⟨_, k2, rfl, fun _ => by simp [hCs]⟩⟩
  have hq : (Question.appendCap a.size 0 e).forced = false := rfl
  have hsh : (w.drew.alloc (.cells C e)).shape? w.heap.size = some (e, C.size) := by
    have hlt : w.heap.size < (w.drew.heap.push (.cells C e)).size := by simp [World.size_drew]
    simp only [World.shape?, World.alloc]
    rw [show (w.drew.heap.push (.cells C e))[w.heap.size]? = some (.cells C e) from Array.getElem?_push_size]
  simp only [execOp, hop, VR.string_inv e1, convert, Sem.run_bind, run_underlying hs, run_underlying hd, run_underlying he, Result.andThen_ok, Conv.stringToBytes, run_choose, hq, Bool.false_eq_true, if_false, World.drew_eq, ← hN, run_newRow, ← hC,
    World.size_drew, markStringish, run_shape, hsh, run_freeze, Sem.run_pure, freeze_alloc]
  have := freeze_alloc w.drew C e
  simp only [World.size_drew] at this
  rw [this]
theorem push_all (l : List UInt8) : (l.map fun b => (b.toNat : Int)).foldl (fun (r : ByteArray) (n : Int) => r.push (UInt8.ofNat n.toNat)) ByteArray.empty = ⟨l.toArray⟩ := by
  have : ∀ (l : List UInt8) (s : ByteArray), (l.map fun b => (b.toNat : Int)).foldl (fun (r : ByteArray) (n : Int) => r.push (UInt8.ofNat n.toNat)) s = ⟨s.data ++ l.toArray⟩ := by
    intro l
    induction l with
    | nil => intro s; simp
    | cons a l ih =>
      intro s
      simp only [List.map_cons, List.foldl_cons]
      rw [ih]
      congr 1
      apply Array.toList_inj.1
      simp [ByteArray.data_push]
  rw [this]
  congr 1
  apply Array.toList_inj.1
  simp
theorem opv_toStr {src dst e : TypeId} {l : List UInt8} (hop : o.op = .convert src dst x) (hx : okOpd P.globals.size x = true) (hs : P.underlying src = some (.slice e)) (hd : P.underlying dst = some .string)
    (he : P.underlying e = some (.int .u8)) (h1 : ρ.eval x = xv) (hl : Src aw 1 xv n (bytesV l)) (hsl : ∃ q m c, xv = .slice q m c) : OpV P o ρ aw (.string ⟨l.toArray⟩) aw := by
  intro base w0 s f w hr hf
  obtain ⟨q, m, c, rfl⟩ := hsl
  have e1 := hf x hx; rw [h1] at e1
  obtain ⟨r1, cs', r2, r3⟩ := hl.run (P := P) hr e1
  have hcs : cs' = bytesV l := r2.eq_of_plains (plains_bytes l)
  subst hcs
  refine ⟨_, .string ⟨l.toArray⟩, w, s, ?_, .inl rfl, Inj.le_refl s, hr, .string _⟩
  have hlen := hl.length
  generalize hB : bytesV l = B at hl hlen r3
  cases hl with
  | @slice b i n c cs hg =>
    obtain ⟨a', c', q1, q2, q3, q4⟩ := e1.slice_inv
    have hld : (loadCells a' n).run P w = .ok B.toArray w := by
      rw [q1] at r3
      simpa [Builtin.firstCells] using r3
    have hfin : (Conv.bytesToString (.slice (some a') n c')).run P w = .ok (.string ⟨l.toArray⟩) w := by
      rw [run_bytesToString w a' n c' (l.map fun b => (b.toNat : Int)) (by rw [hld, ← hB]; simp [bytesV, List.map_map, Function.comp_def]), push_all]
    simp only [execOp, hop, q1, convert, Sem.run_bind, run_underlying hs, run_underlying hd, run_underlying he, Result.andThen_ok, hfin, Sem.run_pure]
  | nil =>
    have : l = [] := by
      rw [← hB] at hlen
      cases l with
      | nil => rfl
      | cons a l => simp [bytesV] at hlen
    subst this
    obtain ⟨_, _, q1⟩ := e1.nilslice_inv
    simp only [execOp, hop, q1, convert, Sem.run_bind, run_underlying hs, run_underlying hd, run_underlying he, Result.andThen_ok, Conv.bytesToString, Sem.run_pure]
    rfl
theorem opv_bin {op : BinOp} {u1 u2 r : Value} (hop : o.op = .binOp op xt x y yt) (hx : okOpd P.globals.size x = true) (hy : okOpd P.globals.size y = true) (h1 : ρ.eval x = u1) (h2 : ρ.eval y = u2)
    (hr : ∀ (s : Inj) (v1 v2 : Value) (w : World), VR s u1 v1 → VR s u2 v2 → (do eqGuard op xt x y v1 v2; binOp op xt v1 v2 : Sem Value).run P w = .ok r w) (hp : plain r = true) : OpV P o ρ aw r aw :=
  opv_pure fun s f w hf => by
    have e1 := hf x hx; rw [h1] at e1
    have e2 := hf y hy; rw [h2] at e2
    refine ⟨r, ?_, VR.ofPlain hp⟩
    have := hr s _ _ w e1 e2
    simp only [Sem.run_bind] at this
    simp only [execOp, hop, Sem.run_bind]
    rw [this]; rfl
theorem opv_binP {op : BinOp} {u1 u2 r : Value} (hop : o.op = .binOp op xt x y yt) (hx : okOpd P.globals.size x = true) (hy : okOpd P.globals.size y = true) (h1 : ρ.eval x = u1) (h2 : ρ.eval y = u2)
    (hp1 : plain u1 = true) (hp2 : plain u2 = true) (hr : ∀ (w : World), (do eqGuard op xt x y u1 u2; binOp op xt u1 u2 : Sem Value).run P w = .ok r w) (hp : plain r = true) : OpV P o ρ aw r aw :=
  opv_bin hop hx hy h1 h2 (fun s v1 v2 w e1 e2 => by rw [e1.eq_of_plain hp1, e2.eq_of_plain hp2]; exact hr w) hp
theorem equal_succ (t : TypeId) (x y : Value) : Op.equal t x y = Op.equalIn (9999 + 1) t x y := rfl
theorem run_equal_bool (hu : P.underlying xt = some .bool) (p q : Bool) (w : World) : (Op.equal xt (.bool p) (.bool q)).run P w = .ok (p == q) w := by
  rw [equal_succ]; generalize 9999 = k
  simp only [Op.equalIn, Sem.run_bind, run_underlying hu, Result.andThen_ok, Sem.run_pure]
theorem opv_eqB {p q : Bool} (hop : o.op = .binOp .eql xt x y yt) (hx : okOpd P.globals.size x = true) (hy : okOpd P.globals.size y = true) (hu : P.underlying xt = some .bool) (h1 : ρ.eval x = .bool p) (h2 : ρ.eval y = .bool q) :
    OpV P o ρ aw (.bool (p == q)) aw := opv_binP hop hx hy h1 h2 rfl rfl (fun w => by
      have : binOp .eql xt (.bool p) (.bool q) = (do pure (.bool (← Op.equal xt (.bool p) (.bool q))) : Sem Value) := rfl
      rw [this]; simp only [eqGuard, Sem.run_bind, Sem.run_pure, Result.andThen_ok, run_equal_bool hu]; rfl) rfl
theorem opv_neB {p q : Bool} (hop : o.op = .binOp .neq xt x y yt) (hx : okOpd P.globals.size x = true) (hy : okOpd P.globals.size y = true) (hu : P.underlying xt = some .bool) (h1 : ρ.eval x = .bool p) (h2 : ρ.eval y = .bool q) :
    OpV P o ρ aw (.bool (!(p == q))) aw := opv_binP hop hx hy h1 h2 rfl rfl (fun w => by
      have : binOp .neq xt (.bool p) (.bool q) = (do pure (.bool (!(← Op.equal xt (.bool p) (.bool q)))) : Sem Value) := rfl
      rw [this]; simp only [eqGuard, Sem.run_bind, Sem.run_pure, Result.andThen_ok, run_equal_bool hu]; rfl) rfl
def isNil : Value → Option Bool
  | .pointer a => some a.isNone
  | .slice a _ _ => some a.isNone
  | .map a => some a.isNone
  | .nilFunc => some true
  | .func _ _ _ => some false
  | .nilIface => some true
  | .iface _ _ => some false
  | _ => none
def nilFits (d : TypeDesc) (u c : Value) : Bool := match d, u, c with
  | .pointer _, .pointer _, .pointer none => true
  | .slice _, .slice _ _ _, .slice none 0 0 => true
  | .map _ _, .map none, .map none => true
  | .func _ _ _, .nilFunc, .nilFunc => true
  | .func _ _ _, .func _ _ _, .nilFunc => true
  | .interface _, .nilIface, .nilIface => true
  | .interface _, .iface _ _, .nilIface => true
  | _, _, _ => false
theorem nilFits_plain {u cv : Value} (h : nilFits d u cv = true) : plain cv = true := by
  unfold nilFits at h
  split at h <;> first | (simp at h; done) | rfl
theorem run_equal_nil {u u' cv : Value} {s : Inj} (hu : P.underlying xt = some d) (hfit : nilFits d u cv = true) (hv : VR s u u') (w : World) :
    (Op.equal xt u' cv).run P w = .ok ((isNil u).getD false) w := by
  rw [equal_succ]; generalize 9999 = k
  unfold nilFits at hfit
  split at hfit <;> first | (simp at hfit; done) | skip
  all_goals (cases hv <;> simp only [Op.equalIn, Sem.run_bind, run_underlying hu, Result.andThen_ok, Sem.run_pure, isNil, Option.getD_some, Option.isNone_none, Option.isNone_some])
theorem run_guard_nil {op : BinOp} {u u' cv : Value} {s : Inj} (hop : op = .eql ∨ op = .neq) (hfit : nilFits d u cv = true) (hv : VR s u u') (w : World) :
    (eqGuard op xt x (.const cv) u' cv).run P w = .ok () w := by
  unfold nilFits at hfit
  split at hfit <;> first | (simp at hfit; done) | skip
  all_goals (rcases hop with rfl | rfl <;> cases hv <;> simp [eqGuard])
theorem binOp_nil {op : BinOp} {u u' cv : Value} {s : Inj} (hop : op = .eql ∨ op = .neq) (hfit : nilFits d u cv = true) (hv : VR s u u') :
    binOp op xt u' cv = (do let b ← Op.equal xt u' cv; pure (.bool (if op = .eql then b else !b)) : Sem Value) := by
  unfold nilFits at hfit
  split at hfit <;> first | (simp at hfit; done) | skip
  all_goals (rcases hop with rfl | rfl <;> cases hv <;> rfl)
theorem opv_eqNil {u cv : Value} (hop : o.op = .binOp .eql xt x (.const cv) yt) (hx : okOpd P.globals.size x = true) (hu : P.underlying xt = some d) (h1 : ρ.eval x = u) (hfit : nilFits d u cv = true) :
    OpV P o ρ aw (.bool ((isNil u).getD false)) aw :=
  opv_pure fun s f w hf => by
    have e1 := hf x hx; rw [h1] at e1
    have e2 : f (.const cv) = cv := (hf (.const cv) (nilFits_plain hfit)).eq_of_plain (nilFits_plain hfit)
    refine ⟨_, ?_, .bool _⟩
    simp only [execOp, hop, Sem.run_bind, e2, run_guard_nil (.inl rfl) hfit e1, Result.andThen_ok, binOp_nil (.inl rfl) hfit e1, run_equal_nil hu hfit e1, if_true, Sem.run_pure]
theorem opv_neNil {u cv : Value} (hop : o.op = .binOp .neq xt x (.const cv) yt) (hx : okOpd P.globals.size x = true) (hu : P.underlying xt = some d) (h1 : ρ.eval x = u) (hfit : nilFits d u cv = true) :
    OpV P o ρ aw (.bool (!(isNil u).getD false)) aw :=
  opv_pure fun s f w hf => by
    have e1 := hf x hx; rw [h1] at e1
    have e2 : f (.const cv) = cv := (hf (.const cv) (nilFits_plain hfit)).eq_of_plain (nilFits_plain hfit)
    refine ⟨_, ?_, .bool _⟩
    simp only [execOp, hop, Sem.run_bind, e2, run_guard_nil (.inr rfl) hfit e1, Result.andThen_ok, binOp_nil (.inr rfl) hfit e1, run_equal_nil hu hfit e1, Sem.run_pure]
    rfl
def isIface (d : TypeDesc) : Bool := match d with | .interface _ => true | _ => false
theorem opv_assertYes {a : TypeId} {u : Value} {ok : Bool} (hop : o.op = .typeAssert x xt a ok) (hx : okOpd P.globals.size x = true) (hu : P.underlying a = some d) (hd : isIface d = false) (h1 : ρ.eval x = .iface a u) :
    OpV P o ρ aw (if ok then .tuple #[u, .bool true] else u) aw :=
  opv_pure fun s f w hf => by
    have e1 := hf x hx; rw [h1] at e1
    obtain ⟨u', h2, h3⟩ := e1.iface_inv
    refine ⟨if ok then .tuple #[u', .bool true] else u', ?_, ?_⟩
    · simp only [execOp, hop, h2, Instr.typeAssert, Sem.run_bind, run_underlying hu, Result.andThen_ok]
      cases d <;> simp_all [isIface]
    · cases ok
      · exact h3
      · exact .tuple (.cons h3 (.cons (.bool true) .nil))
theorem opv_assertNo {a q : TypeId} {u : Value} {zz : Value} (hop : o.op = .typeAssert x xt a true) (hx : okOpd P.globals.size x = true) (hu : P.underlying a = some d) (hd : isIface d = false) (hz : (P.info? a).bind (·.zero) = some zz) (hp : plain zz = true)
    (h1 : ρ.eval x = .iface q u) (hne : q ≠ a) : OpV P o ρ aw (.tuple #[zz, .bool false]) aw :=
  opv_pure fun s f w hf => by
    have e1 := hf x hx; rw [h1] at e1
    obtain ⟨u', h2, h3⟩ := e1.iface_inv
    have hzv := run_zeroValue' hz w
    refine ⟨.tuple #[zz, .bool false], ?_, .tuple (.cons (.ofPlain hp) (.cons (.bool false) .nil))⟩
    simp only [execOp, hop, h2, Instr.typeAssert, Sem.run_bind, run_underlying hu, Result.andThen_ok]
    cases d <;> simp_all [isIface]
theorem opv_assertNil {a : TypeId} {zz : Value} (hop : o.op = .typeAssert x xt a true) (hx : okOpd P.globals.size x = true) (hu : P.underlying a = some d) (hd : isIface d = false) (hz : (P.info? a).bind (·.zero) = some zz) (hp : plain zz = true)
    (h1 : ρ.eval x = .nilIface) : OpV P o ρ aw (.tuple #[zz, .bool false]) aw :=
  opv_pure fun s f w hf => by
    have e1 := hf x hx; rw [h1] at e1
    have hzv := run_zeroValue' hz w
    refine ⟨.tuple #[zz, .bool false], ?_, .tuple (.cons (.ofPlain hp) (.cons (.bool false) .nil))⟩
    simp only [execOp, hop, e1.nilIface_inv, Instr.typeAssert, Sem.run_bind, run_underlying hu, Result.andThen_ok]
    cases d <;> simp_all [isIface]
end
end Go.Am
set_option linter.unusedSimpArgs false
set_option linter.unusedVariables false
set_option linter.unusedSectionVars false
namespace Go.Am
open Go Go.RowKit
variable [SymE]
def dstOf (ops : Array Oper) (i : Nat) : Option Tmp := (ops[i]?).bind (fun (o : Oper) => o.dst)
def direct (ops : Array Oper) (j i : Nat) : Bool := ((ops[j]?).map fun (o : Oper) => o.after.any fun e => Region.binds .any e && e.on == i).getD false
def anc (ops : Array Oper) : Nat → Nat → Nat → Bool
  | 0, _, _ => false
  | n + 1, j, i => direct ops j i || ((ops[j]?).map fun (o : Oper) => o.after.any fun e => Region.binds .any e && anc ops n e.on i).getD false
def looks (ops : Array Oper) (o : Oper) : List Tmp :=
  (o.op.operands.toList.filterMap fun | .tmp t => some t | _ => none) ++ (match o.guard with | some (g, _) => (dstOf ops g).toList | none => [])
def drawOk (ops : Array Oper) (hs fl : List Nat) : Bool :=
  (hs.all fun i => decide (i < ops.size)) &&
  ((List.range ops.size).all fun j => ((ops[j]?).map fun (o : Oper) => o.after.all fun e => !Region.binds .any e || decide (e.on < j)).getD true) &&
  (hs.all fun i => (dstOf ops i).isSome && hs.all fun j => i == j || dstOf ops i != dstOf ops j) &&
  (hs.all fun i => ((ops[i]?).map fun (o : Oper) => (looks ops o).all fun t => hs.all fun j => dstOf ops j != some t || anc ops ops.size i j).getD true) &&
  ((List.range ops.size).all fun j => hs.contains j || (hs.all fun i => fl.contains i || anc ops ops.size j i)) &&
  (hs.all fun j => ((ops[j]?).map fun (o : Oper) => o.after.all fun e => !Region.binds .any e || hs.contains e.on).getD true)
def hEnv (ops : Array Oper) (val : Nat → Value) (ρ : Env) (hs : List Nat) (L : Nat → Bool) : Env := fun t =>
  match hs.find? fun i => L i && dstOf ops i == some t with
  | some i => val i
  | none => ρ t
def putAll (ops : Array Oper) (val : Nat → Value) : Env → List Nat → Env
  | ρ, [] => ρ
  | ρ, i :: hs => putAll ops val (ρ.put (dstOf ops i) (val i)) hs
def listedOf (l : Array Bool) (i : Nat) : Bool := l.getD i true
theorem closed_anc {ops : Array Oper} {l : Array Bool} (hc : ∀ j, listedOf l j = true → j < ops.size → ∀ o, ops[j]? = some o → ∀ e ∈ o.after, Region.binds .any e = true → l.getD e.on false = true) :
    ∀ (n : Nat) {j i : Nat}, (∀ o, ops[j]? = some o → ∀ e ∈ o.after, Region.binds .any e = true → l.getD e.on false = true) → anc ops n j i = true → l.getD i false = true
  | 0, j, i, _, h => by simp [anc] at h
  | n + 1, j, i, hj, h => by
    simp only [anc, Bool.or_eq_true] at h
    rcases h with h | h
    · unfold direct at h
      cases ho : ops[j]? with
      | none => simp [ho] at h
      | some o =>
        simp only [ho, Option.map_some, Option.getD_some, Array.any_eq_true, Bool.and_eq_true, beq_iff_eq] at h
        obtain ⟨k, hk, h1, h2⟩ := h
        have := hj o ho _ (Array.getElem_mem hk) h1
        rw [h2] at this; exact this
    · cases ho : ops[j]? with
      | none => simp [ho] at h
      | some o =>
        simp only [ho, Option.map_some, Option.getD_some, Array.any_eq_true, Bool.and_eq_true] at h
        obtain ⟨k, hk, h1, h2⟩ := h
        have hl := hj o ho _ (Array.getElem_mem hk) h1
        refine closed_anc hc n (j := o.after[k].on) ?_ h2
        intro o' ho' e he hb
        have hlt : o.after[k].on < ops.size := (Array.getElem?_eq_some_iff.1 ho').1
        refine hc _ ?_ hlt o' ho' e he hb
        unfold listedOf
        simp only [Array.getD_eq_getD_getElem?] at hl ⊢
        cases hq : l[o.after[k].on]? with
        | none => simp [hq] at hl
        | some b => simp [hq] at hl ⊢; exact hl
section
variable {P : Program} {N : Nat} {ops : Array Oper} {hs fl : List Nat} {k : List Item} {ρ : Env} {ds : List Deferred} {aw : AW}
  {Kn : Env → List Deferred → AW → Prop} {Kp : List PanicEntry → Env → List Deferred → AW → Prop} {val : Nat → Value}
def HeadOp (P : Program) (ops : Array Oper) (o : Oper) (ρm : Env) (aw : AW) (v : Value) : Prop :=
  ∀ ρ' : Env, (∀ t ∈ looks ops o, ρ' t = ρm t) →
    (wants ops o ρ' true ∧ OpV P o ρ' aw v aw) ∨ (wants ops o ρ' false ∧ v = undef) ∨
      (wants ops o ρ' true ∧ ∃ fid args, OpC P o ρ' fid args ∧ ACalls P fid args aw fun e aw' => e = .returned v ∧ aw' = aw)
theorem find_congr' {p q : Nat → Bool} : ∀ {l : List Nat}, (∀ j ∈ l, p j = q j) → l.find? p = l.find? q
  | [], _ => rfl
  | a :: l, h => by
    simp only [List.find?_cons]
    rw [h a (by simp), find_congr' (l := l) (fun j hj => h j (by simp [hj]))]
theorem hEnv_agree (hok : drawOk ops hs fl = true) {L : Nat → Bool} {i : Nat} {o : Oper} (hi : i ∈ hs) (ho : ops[i]? = some o) (hL : ∀ j, j ∈ hs → anc ops ops.size i j = true → L j = true) :
    ∀ t ∈ looks ops o, hEnv ops val ρ hs L t = hEnv ops val ρ hs (fun _ => true) t := by
  intro t ht
  simp only [drawOk, Bool.and_eq_true, List.all_eq_true, decide_eq_true_eq] at hok
  obtain ⟨⟨⟨⟨⟨h1, h2⟩, h3⟩, h4⟩, h5⟩, h6⟩ := hok
  have h4' := h4 i hi
  rw [ho] at h4'
  simp only [Option.map_some, Option.getD_some, List.all_eq_true, Bool.or_eq_true, bne_iff_ne, ne_eq] at h4'
  unfold hEnv
  rw [find_congr' (q := fun i => true && dstOf ops i == some t)]
  intro j hj
  rcases h4' t ht j hj with h | h
  · have : (dstOf ops j == some t) = false := by simpa using h
    simp [this]
  · rw [hL j hj h]
theorem find_unique (l : List Nat) (p : Nat → Bool) (i : Nat) (hi : i ∈ l) (hp : p i = true) (hu : ∀ j ∈ l, p j = true → j = i) : l.find? p = some i := by
  induction l with
  | nil => simp at hi
  | cons a l ih =>
    simp only [List.find?_cons]
    by_cases ha : p a = true
    · rw [ha, hu a (by simp) ha]
    · simp only [ha]
      have : i ∈ l := by
        rcases List.mem_cons.1 hi with rfl | h
        · exact absurd hp ha
        · exact h
      exact ih this (fun j hj => hu j (by simp [hj]))
theorem dst_unique (hok : drawOk ops hs fl = true) {i : Nat} (hi : i ∈ hs) : ∃ d, dstOf ops i = some d ∧ ∀ j, j ∈ hs → dstOf ops j = some d → j = i := by
  simp only [drawOk, Bool.and_eq_true, List.all_eq_true, decide_eq_true_eq] at hok
  obtain ⟨⟨⟨⟨⟨h1, h2⟩, h3⟩, h4⟩, h5⟩, h6⟩ := hok
  obtain ⟨h3a, h3b⟩ := h3 i hi
  obtain ⟨d, hd⟩ := Option.isSome_iff_exists.1 h3a
  refine ⟨d, hd, fun j hj hjd => ?_⟩
  have := h3b j hj
  simp only [Bool.or_eq_true, beq_iff_eq, bne_iff_ne, ne_eq] at this
  rcases this with h | h
  · exact h.symm
  · exact absurd (hd.trans hjd.symm) h
theorem hEnv_put (hok : drawOk ops hs fl = true) {L L' : Nat → Bool} {i : Nat} (hi : i ∈ hs) (hL : ∀ j, j ∈ hs → L' j = (L j || j == i)) :
    hEnv ops val ρ hs L' = (hEnv ops val ρ hs L).put (dstOf ops i) (val i) := by
  obtain ⟨d, hd, huniq⟩ := dst_unique hok hi
  funext t
  rw [hd]
  simp only [Env.put_some]
  by_cases htd : t = d
  · subst htd
    rw [if_pos rfl]
    unfold hEnv
    rw [find_unique hs _ i hi (by simp [hL i hi, hd]) (fun j hj hp => by
      simp only [Bool.and_eq_true, beq_iff_eq] at hp
      exact huniq j hj hp.2)]
  · rw [if_neg htd]
    unfold hEnv
    rw [find_congr' (q := fun i => L i && dstOf ops i == some t)]
    intro j hj
    rw [hL j hj]
    by_cases hji : j = i
    · subst hji
      have : (dstOf ops j == some t) = false := by simp [hd]; exact fun h => htd h.symm
      simp [this]
    · have hb : (j == i) = false := by simpa using hji
      rw [hb, Bool.or_false]
theorem hEnv_none (L : Nat → Bool) (h : ∀ j, j ∈ hs → L j = false) : hEnv ops val ρ hs L = ρ := by
  funext t
  unfold hEnv
  have : hs.find? (fun i => L i && dstOf ops i == some t) = none := by
    rw [List.find?_eq_none]
    intro j hj
    simp [h j hj]
  rw [this]
theorem hEnv_congr {L L' : Nat → Bool} (h : ∀ j, j ∈ hs → L j = L' j) : hEnv ops val ρ hs L = hEnv ops val ρ hs L' := by
  funext t
  unfold hEnv
  rw [find_congr' (q := fun i => L' i && dstOf ops i == some t)]
  intro j hj
  rw [h j hj]
theorem hEnv_all (hok : drawOk ops hs fl = true) (hnd : hs.Nodup) (L : Nat → Bool) : hEnv ops val ρ hs L = putAll ops val ρ (hs.filter L) := by
  have key : ∀ (l d : List Nat), hs = d ++ l → putAll ops val (hEnv ops val ρ hs (fun i => d.contains i && L i)) (l.filter L) = hEnv ops val ρ hs L := by
    intro l
    induction l with
    | nil =>
      intro d hd
      simp only [List.filter_nil, putAll]
      refine hEnv_congr fun j hj => ?_
      rw [hd, List.append_nil] at hj
      simp [hj]
    | cons i l ih =>
      intro d hd
      have hnd' := hnd
      rw [hd] at hnd'
      have hni : i ∉ d := fun hi => (List.nodup_append.1 hnd').2.2 i hi i (by simp) rfl
      by_cases hi : L i = true
      · rw [List.filter_cons_of_pos hi]
        simp only [putAll]
        rw [← hEnv_put (L' := fun j => (d ++ [i]).contains j && L j) hok (by rw [hd]; simp) (fun j _ => by
          by_cases hji : j = i
          · subst hji; simp [hi]
          · simp [hji])]
        exact ih (d ++ [i]) (by rw [hd]; simp)
      · rw [List.filter_cons_of_neg hi]
        have := ih (d ++ [i]) (by rw [hd]; simp)
        rw [← this]
        congr 1
        refine hEnv_congr fun j _ => ?_
        by_cases hji : j = i
        · subst hji; simp [hi, hni]
        · simp [hji]
  have h0 := key hs [] rfl
  rw [hEnv_none (fun i => ([] : List Nat).contains i && L i) (fun j _ => by simp)] at h0
  exact h0.symm
def left (l : Array Bool) : Nat := l.toList.countP (fun b => !b)
theorem left_set (l : Array Bool) (i : Nat) (h : l.getD i true = false) : left (l.setIfInBounds i true) + 1 = left l := by
  have hi : i < l.size := by
    rcases Nat.lt_or_ge i l.size with h' | h'
    · exact h'
    · simp [Array.getD, Nat.not_lt.2 h'] at h
  have hv : l.toList[i]? = some false := by
    simp only [Array.getD, hi, dif_pos] at h
    simp [hi]; simpa using h
  unfold left
  rw [Array.toList_setIfInBounds]
  generalize l.toList = xs at hv
  clear h hi
  induction xs generalizing i with
  | nil => simp at hv
  | cons a xs ih =>
    cases i with
    | zero => simp at hv; subst hv; simp [List.set_cons_zero]
    | succ i =>
      simp at hv
      have := ih i hv
      simp only [List.set_cons_succ, List.countP_cons]
      omega
theorem ready_spec {l : Array Bool} {i : Nat} (h : i ∈ Region.ready .any ops l) : i < ops.size ∧ l.getD i true = false ∧ ∀ o, ops[i]? = some o → ∀ e ∈ o.after, Region.binds .any e = true → l.getD e.on false = true := by
  simp only [Region.ready, List.mem_filter, List.mem_range, Bool.and_eq_true, Bool.not_eq_true'] at h
  obtain ⟨h1, h2, h3⟩ := h
  refine ⟨h1, h2, fun o ho e he hb => ?_⟩
  rw [ho] at h3
  simp only [Option.map_some, Option.getD_some, Array.all_eq_true] at h3
  obtain ⟨q, hq, rfl⟩ := Array.getElem_of_mem he
  have := h3 q hq
  simp only [hb, Bool.not_true, Bool.false_or] at this
  exact this
theorem ready_of {l : Array Bool} {i : Nat} (h1 : i < ops.size) (h2 : l.getD i true = false) (h3 : ∀ o, ops[i]? = some o → ∀ e ∈ o.after, Region.binds .any e = true → l.getD e.on false = true) : i ∈ Region.ready .any ops l := by
  simp only [Region.ready, List.mem_filter, List.mem_range, Bool.and_eq_true, Bool.not_eq_true']
  refine ⟨h1, h2, ?_⟩
  have ho : ops[i]? = some ops[i] := Array.getElem?_eq_getElem h1
  rw [ho]
  simp only [Option.map_some, Option.getD_some, Array.all_eq_true]
  intro q hq
  by_cases hb : Region.binds .any ops[i].after[q] = true
  · simp only [hb, Bool.not_true, Bool.false_or]
    exact h3 _ ho _ (Array.getElem_mem hq) hb
  · simp only [Bool.not_eq_true] at hb; simp [hb]
theorem getD_set (l : Array Bool) (i j : Nat) (b : Bool) : (l.setIfInBounds i true).getD j b = if i = j ∧ i < l.size then true else l.getD j b := by
  simp only [Array.getD_eq_getD_getElem?, Array.getElem?_setIfInBounds]
  by_cases hij : i = j
  · subst hij
    by_cases hi : i < l.size
    · simp [hi]
    · simp [hi]
  · simp [hij]
theorem wpOp_Q {Q Q' : Exit → Act → World → Prop} {i : Nat} {K : Act → World → Prop} (h : ∀ ch a w, Q (.panic ch) a w → Q' (.panic ch) a w) (hq : ∀ a w, ¬ Q .outgrown a w) {a : Act} {w : World}
    (hh : wpOp P ops Q i K a w) : wpOp P ops Q' i K a w := by
  unfold wpOp at hh ⊢
  cases ho : ops[i]? with
  | none => simp only [ho] at hh ⊢; exact hh
  | some o =>
    simp only [ho] at hh ⊢
    split
    · rename_i hw
      simp only [hw, if_true] at hh
      rcases hh with hh | ⟨_, a0, w0, hh⟩
      · left
        unfold Oper.wp at *
        generalize (execOp a.eval o).run P w = r at *
        cases r with
        | ok n w' =>
          cases n <;> simp only [Oper.upon] at hh ⊢ <;>
            first
              | exact hh
              | exact Calls.mono hh (fun e w'' he => by
                  cases e with
                  | returned v => exact he
                  | panicked ch => exact h _ _ _ he
                  | outgrown => exact absurd he (by rintro ⟨a, w, hx⟩; exact hq _ _ hx))
        | halt x w' => cases x <;> simp only [Oper.upon] at hh ⊢ <;> first | exact h _ _ _ hh | exact hh
      · exact absurd hh (hq _ _)
    · rename_i hw
      simp only [hw] at hh
      exact hh
theorem wpAny_mono' {Q Q' : Exit → Act → World → Prop} (h : ∀ e a w, Q e a w → Q' e a w) (hq : ∀ a w, ¬ Q .outgrown a w) : ∀ (n : Nat) (l : Array Bool) (a : Act) (w : World), wpAny P .any ops Q n l a w → wpAny P .any ops Q' n l a w
  | 0, l, a, w, hh => ⟨hh.1, h _ _ _ hh.2⟩
  | n + 1, l, a, w, hh => ⟨fun hr => h _ _ _ (hh.1 hr), fun i hi => wpOp_mono (fun a w hx => wpAny_mono' h hq n _ a w hx) (wpOp_Q (fun ch a w => h _ a w) hq (hh.2 i hi))⟩
def TailAny (P : Program) (N : Nat) (ops : Array Oper) (Kn : Env → List Deferred → AW → Prop) (Kp : List PanicEntry → Env → List Deferred → AW → Prop) : Nat → Array Bool → Env → List Deferred → AW → Prop
  | 0, l, ρ, ds, aw => Region.ready .any ops l = [] ∧ Kn ρ ds aw
  | n + 1, l, ρ, ds, aw => (Region.ready .any ops l = [] → Kn ρ ds aw) ∧
    ∀ i ∈ Region.ready .any ops l, AOps P N ops [i] ρ ds aw (fun ρ' ds' aw' => TailAny P N ops Kn Kp n (l.setIfInBounds i true) ρ' ds' aw') Kp
theorem tail_sound : ∀ (n : Nat) (l : Array Bool) (ρ : Env) (ds : List Deferred) (aw : AW), TailAny P N ops Kn Kp n l ρ ds aw →
    ∀ (base : Nat → Prop) (w0 : World) (s : Inj) (a : Act) (w : World), St P.globals.size base w0 s ρ N ds aw a w → wpAny P .any ops (QQ P.globals.size base w0 s N Kn Kp) n l a w
  | 0, l, ρ, ds, aw, h, base, w0, s, a, w, hst => ⟨h.1, s, ρ, ds, aw, Inj.le_refl s, hst, h.2⟩
  | n + 1, l, ρ, ds, aw, h, base, w0, s, a, w, hst => by
    refine ⟨fun hr => ⟨s, ρ, ds, aw, Inj.le_refl s, hst, h.1 hr⟩, fun i hi => ?_⟩
    have hw := h.2 i hi base w0 s a w hst
    rw [wpOps_cons] at hw
    have : ∀ (r : Act → World → Prop), (∀ a w, wpOps P ops (QQ P.globals.size base w0 s N (fun ρ' ds' aw' => TailAny P N ops Kn Kp n (l.setIfInBounds i true) ρ' ds' aw') Kp) [] a w → r a w) →
        wpOp P ops (QQ P.globals.size base w0 s N (fun ρ' ds' aw' => TailAny P N ops Kn Kp n (l.setIfInBounds i true) ρ' ds' aw') Kp) i r a w := fun r hr => wpOp_mono hr hw
    have hw2 := this (wpAny P .any ops (QQ P.globals.size base w0 s N Kn Kp) n (l.setIfInBounds i true)) (fun a' w' hh => by
      obtain ⟨s', ρ', ds', aw', h1, h2, h3⟩ := hh
      exact wpAny_mono' (fun e a w => QQ.mono h1) (fun a w => QQ.not_outgrown a w) n _ _ _ (tail_sound n _ ρ' ds' aw' h3 base w0 s' a' w' h2))
    exact wpOp_Q (fun ch a w hx => hx) (fun a w => QQ.not_outgrown a w) hw2
def subs : List Nat → List (List Nat)
  | [] => [[]]
  | a :: l => subs l ++ (subs l).map (a :: ·)
theorem filter_subs (p : Nat → Bool) : ∀ l : List Nat, l.filter p ∈ subs l
  | [] => by simp [subs]
  | a :: l => by
    have := filter_subs p l
    by_cases h : p a = true
    · rw [List.filter_cons_of_pos h]; simp only [subs, List.mem_append, List.mem_map]; exact .inr ⟨_, this, rfl⟩
    · rw [List.filter_cons_of_neg h]; simp only [subs, List.mem_append]; exact .inl this
def maskOf (n : Nat) (hs F : List Nat) : Array Bool := (Array.range n).map fun i => hs.contains i && !F.contains i
def TailAll (P : Program) (N : Nat) (ops : Array Oper) (hs : List Nat) (val : Nat → Value) (ρ : Env) (ds : List Deferred) (aw : AW) (Kn : Env → List Deferred → AW → Prop) (Kp : List PanicEntry → Env → List Deferred → AW → Prop) : List (List Nat) → Prop
  | [] => True
  | F :: r => TailAny P N ops Kn Kp (left (maskOf ops.size hs F)) (maskOf ops.size hs F) (putAll ops val ρ (hs.filter fun i => !F.contains i)) ds aw ∧ TailAll P N ops hs val ρ ds aw Kn Kp r
theorem tailAll_get : ∀ {l : List (List Nat)}, TailAll P N ops hs val ρ ds aw Kn Kp l → ∀ F ∈ l, TailAny P N ops Kn Kp (left (maskOf ops.size hs F)) (maskOf ops.size hs F) (putAll ops val ρ (hs.filter fun i => !F.contains i)) ds aw
  | [], _, F, hF => by simp at hF
  | G :: r, h, F, hF => by
    rcases List.mem_cons.1 hF with rfl | hF
    · exact h.1
    · exact tailAll_get h.2 F hF
theorem ago_draw {id : Nat} {R : ADone → Env → List Deferred → AW → Prop} (hm : P.follows .mixedOrders = true) (hN : dstsOk N ops = true) (hok : drawOk ops hs fl = true) (hnd : hs.Nodup)
    (hop : ∀ i o, i ∈ hs → ops[i]? = some o → HeadOp P ops o (putAll ops val ρ hs) aw (val i))
    (hk : TailAll P N ops hs val ρ ds aw (fun ρ' ds' aw' => AGo P N k ρ' ds' aw' R) (fun ch ρ' ds' aw' => R (.panic ch) ρ' ds' aw') (subs fl)) :
    AGo P N (.code (.region id ops true) :: k) ρ ds aw R := by
  refine ago_of_wp fun base w0 s a w hst => wp_region_any hm ?_
  have hok' := hok
  simp only [drawOk, Bool.and_eq_true, List.all_eq_true, List.mem_range, decide_eq_true_eq] at hok'
  obtain ⟨⟨⟨⟨⟨h1, h2⟩, h3⟩, h4⟩, h5⟩, h6⟩ := hok'
  have hpre : ∀ j o, ops[j]? = some o → ∀ e ∈ o.after, Region.binds .any e = true → e.on < j := by
    intro j o ho e he hb
    have hlt : j < ops.size := (Array.getElem?_eq_some_iff.1 ho).1
    have := h2 j hlt
    rw [ho] at this
    simp only [Option.map_some, Option.getD_some, Array.all_eq_true] at this
    obtain ⟨q, hq, rfl⟩ := Array.getElem_of_mem he
    have := this q hq
    simp only [hb, Bool.not_true, Bool.false_or, decide_eq_true_eq] at this
    exact this
  have hpre2 : ∀ j, j ∈ hs → ∀ o, ops[j]? = some o → ∀ e ∈ o.after, Region.binds .any e = true → e.on ∈ hs := by
    intro j hj o ho e he hb
    have := h6 j hj
    rw [ho] at this
    simp only [Option.map_some, Option.getD_some, Array.all_eq_true] at this
    obtain ⟨q, hq, rfl⟩ := Array.getElem_of_mem he
    have := this q hq
    simp only [hb, Bool.not_true, Bool.false_or] at this
    simpa using this
  have hall' : putAll ops val ρ hs = hEnv ops val ρ hs (fun _ => true) := by
    have e : hs.filter (fun _ => true) = hs := by simp
    rw [hEnv_all hok hnd, e]
  have fin : ∀ (fuel : Nat) (l : Array Bool) (a : Act) (w : World), l.size = ops.size → left l = fuel → (∀ j, j ∉ hs → j < ops.size → l.getD j true = false) → (∀ j, j ∈ hs → fl.contains j = false → l.getD j true = true) →
      ∀ s1 : Inj, s.le s1 → St P.globals.size base w0 s1 (hEnv ops val ρ hs (fun i => l.getD i false)) N ds aw a w →
      wpAny P .any ops (QQ P.globals.size base w0 s N (fun ρ' ds' aw' => AGo P N k ρ' ds' aw' R) (fun ch ρ' ds' aw' => R (.panic ch) ρ' ds' aw')) fuel l a w := by
    intro fuel l a w hl hf hin hall s1 hs1 hst'
    have hmem : fl.filter (fun i => !l.getD i true) ∈ subs fl := filter_subs _ fl
    have hF := tailAll_get hk _ hmem
    have hb : ∀ j, j ∈ hs → (!(fl.filter (fun i => !l.getD i true)).contains j) = l.getD j true := by
      intro j hj
      cases hx : l.getD j true with
      | true =>
        simp only [Bool.not_eq_true', List.contains_eq_mem, decide_eq_false_iff_not, List.mem_filter, not_and]
        intro _; simp [hx]
      | false =>
        simp only [Bool.not_eq_false', List.contains_eq_mem, decide_eq_true_eq, List.mem_filter]
        refine ⟨?_, by simp [hx]⟩
        have := hall j hj
        cases hc : fl.contains j with
        | true => simpa using hc
        | false => rw [this hc] at hx; simp at hx
    have hmask : l = maskOf ops.size hs (fl.filter (fun i => !l.getD i true)) := by
      apply Array.ext
      · simp [hl, maskOf]
      · intro j hj1 hj2
        have hj : j < ops.size := by omega
        have e1 : l[j] = l.getD j true := by simp [Array.getD, hj1]
        have e2 : (maskOf ops.size hs (fl.filter (fun i => !l.getD i true)))[j] = (hs.contains j && !(fl.filter (fun i => !l.getD i true)).contains j) := by simp only [maskOf, Array.getElem_map, Array.getElem_range]
        rw [e1, e2]
        by_cases hjh : j ∈ hs
        · rw [hb j hjh]; simp [hjh]
        · rw [hin j hjh hj]; simp [hjh]
    have he : hEnv ops val ρ hs (fun i => l.getD i false) = putAll ops val ρ (hs.filter fun i => !(fl.filter (fun i => !l.getD i true)).contains i) := by
      rw [hEnv_all hok hnd]
      congr 1
      refine List.filter_congr fun j hj => ?_
      rw [hb j hj]
      have := h1 j hj
      simp [Array.getD, hl, this]
    rw [he] at hst'
    rw [← hmask, hf] at hF
    exact wpAny_mono' (fun e a w => QQ.mono hs1) QQ.not_outgrown _ _ _ _ (tail_sound _ _ _ _ _ hF base w0 s1 a w hst')
  have head : ∀ (fuel : Nat) (l : Array Bool) (a : Act) (w : World), l.size = ops.size → left l = fuel → (∀ j, j ∉ hs → j < ops.size → l.getD j true = false) →
      (∀ j, listedOf l j = true → j < ops.size → ∀ o, ops[j]? = some o → ∀ e ∈ o.after, Region.binds .any e = true → l.getD e.on false = true) →
      ∀ s1 : Inj, s.le s1 → St P.globals.size base w0 s1 (hEnv ops val ρ hs (fun i => l.getD i false)) N ds aw a w →
      wpAny P .any ops (QQ P.globals.size base w0 s N (fun ρ' ds' aw' => AGo P N k ρ' ds' aw' R) (fun ch ρ' ds' aw' => R (.panic ch) ρ' ds' aw')) fuel l a w := by
    intro fuel
    induction fuel with
    | zero =>
      intro l a w hl hf hin hcl s1 hs1 hst'
      have hall : ∀ j, j < ops.size → l.getD j true = true := by
        intro j hj
        unfold left at hf
        rw [List.countP_eq_zero] at hf
        have := hf l[j] (by simp)
        simp only [Array.getD, hl, hj, dif_pos]
        simpa using this
      exact fin 0 l a w hl hf hin (fun j hj _ => hall j (h1 j hj)) s1 hs1 hst'
    | succ fuel ih =>
      intro l a w hl hf hin hcl s1 hs1 hst'
      by_cases hall : ∀ j, j ∈ hs → fl.contains j = false → l.getD j true = true
      · exact fin (fuel + 1) l a w hl hf hin hall s1 hs1 hst'
      · -- one of the head is still to come: the first is ready, and none of the tail is
        have hnot' : ∃ j, j ∈ hs ∧ fl.contains j = false ∧ l.getD j true = false := by
          apply Classical.byContradiction
          intro h
          apply hall
          intro j hj hjf
          cases hx : l.getD j true with
          | true => rfl
          | false => exact absurd ⟨j, hj, hjf, hx⟩ h
        have hnot : ∃ j, j ∈ hs ∧ l.getD j true = false := let ⟨j, a, _, b⟩ := hnot'; ⟨j, a, b⟩
        have hfirst : ∃ j, j ∈ hs ∧ l.getD j true = false ∧ ∀ i, i < j → i ∈ hs → l.getD i true = true := by
          obtain ⟨j, hj, hx⟩ := hnot
          induction j using Nat.strongRecOn with
          | _ j ihj =>
            by_cases h : ∀ i, i < j → i ∈ hs → l.getD i true = true
            · exact ⟨j, hj, hx, h⟩
            · have : ∃ i, i < j ∧ i ∈ hs ∧ l.getD i true = false := by
                apply Classical.byContradiction
                intro h'
                apply h
                intro i hi hih
                cases hy : l.getD i true with
                | true => rfl
                | false => exact absurd ⟨i, hi, hih, hy⟩ h'
              obtain ⟨i, hi, hih, hy⟩ := this
              exact ihj i hi hih hy
        obtain ⟨j, hj, hx, hmin⟩ := hfirst
        have hready : j ∈ Region.ready .any ops l := ready_of (h1 j hj) hx (fun o ho e he hb => by
          have hlt := hpre j o ho e he hb
          have hmem := hpre2 j hj o ho e he hb
          have := hmin _ hlt hmem
          simp only [Array.getD, hl, h1 _ hmem, dif_pos] at this ⊢
          exact this)
        refine ⟨fun h => by rw [h] at hready; simp at hready, fun i hi => ?_⟩
        obtain ⟨g1, g2, g3⟩ := ready_spec hi
        have him : i ∈ hs := by
          apply Classical.byContradiction
          intro him
          have := h5 i g1
          simp only [Bool.or_eq_true, List.all_eq_true] at this
          obtain ⟨j, hj, hjf, hx⟩ := hnot'
          rcases this with h' | h'
          · exact him (by simpa using h')
          · rcases h' j hj with h' | h'
            · rw [hjf] at h'; simp at h'
            · have hc := closed_anc hcl ops.size (j := i) (i := j) g3 h'
              simp only [Array.getD, hl, h1 j hj, dif_pos] at hc hx
              rw [hx] at hc; simp at hc
        have ho : ops[i]? = some ops[i] := Array.getElem?_eq_getElem g1
        have hhead := hop i _ him ho (hEnv ops val ρ hs (fun i => l.getD i false)) (fun t ht => by
          rw [hall']
          exact hEnv_agree hok him ho (fun j' hj' hanc => closed_anc hcl ops.size g3 hanc) t ht)
        have henv : hEnv ops val ρ hs (fun q => (l.setIfInBounds i true).getD q false) = (hEnv ops val ρ hs (fun i => l.getD i false)).put ops[i].dst (val i) := by
          have := hEnv_put (val := val) (ρ := ρ) hok (L := fun q => l.getD q false) (L' := fun q => (l.setIfInBounds i true).getD q false) him (fun q hq => by
            simp only [getD_set]
            by_cases hiq : i = q
            · subst hiq; simp [hl, g1]
            · simp [hiq, show ¬ q = i from fun h => hiq h.symm])
          rw [this]
          simp [dstOf, ho]
        have hnext : ∀ (s2 : Inj) (a' : Act) (w' : World), s1.le s2 → St P.globals.size base w0 s2 ((hEnv ops val ρ hs (fun i => l.getD i false)).put ops[i].dst (val i)) N ds aw a' w' →
            wpAny P .any ops (QQ P.globals.size base w0 s N (fun ρ' ds' aw' => AGo P N k ρ' ds' aw' R) (fun ch ρ' ds' aw' => R (.panic ch) ρ' ds' aw')) fuel (l.setIfInBounds i true) a' w' := by
          intro s2 a' w' hs2 hst2
          refine ih _ a' w' (by simpa using hl) (by have := left_set l i g2; omega) ?_ ?_ s2 (Inj.le_trans hs1 hs2) (by rw [henv]; exact hst2)
          · intro q hq1 hq2
            rw [getD_set, hin q hq1 hq2]
            rw [if_neg (by rintro ⟨rfl, _⟩; exact hq1 him)]
          · intro q hq hqs o' ho' e he hb
            rw [getD_set]
            split
            · rfl
            · unfold listedOf at hq
              rw [getD_set] at hq
              by_cases hiq : i = q
              · subst hiq
                rw [ho] at ho'; obtain rfl := Option.some.inj ho'
                exact g3 _ ho e he hb
              · rw [if_neg (by rintro ⟨h, _⟩; exact hiq h)] at hq
                exact hcl q hq hqs o' ho' e he hb
        have hd : ∀ d, ops[i].dst = some d → d < N := fun d hd => dstsOk_get hN (j := i) (by simp [ho, hd])
        have hsz : ∀ (j t : Nat), (ops[j]?).bind (fun (o : Oper) => o.dst) = some t → t < a.tmps.size := fun j t hj => by rw [hst'.size]; exact dstsOk_get hN hj
        simp only [wpOp, ho]
        rcases hhead with ⟨hg, hv⟩ | ⟨hg, hv⟩ | ⟨hg, fid, args, hc, hcall⟩
        · have hw := wants_spec hst'.env hg hsz
          rw [if_pos hw]
          left
          obtain ⟨n, v', w', s', k1, k2, k3, k4, k5⟩ := hv base w s1 a.eval w hst'.rel.re (fun x hx => hst'.eval hx)
          have := hnext s' (a.put ops[i].dst v') w' k3 (hst'.put k3 k4 hd k5)
          unfold Oper.wp
          rw [k1]
          rcases k2 with rfl | ⟨rfl, rfl⟩
          · exact this
          · exact this
        · have hw := wants_spec hst'.env hg hsz
          rw [if_neg (by rw [hw]; simp)]
          have hst2 := hst'.put (Inj.le_refl s1) hst'.rel.re hd (VR.undef (s := s1))
          rw [← hv] at hst2
          rw [← hv]
          exact hnext s1 _ w (Inj.le_refl s1) hst2
        · have hw := wants_spec hst'.env hg hsz
          rw [if_pos hw]
          left
          obtain ⟨args', k1, k2⟩ := hc s1 a.eval w (fun x hx => hst'.eval hx)
          unfold Oper.wp
          rw [k1]
          refine (hcall base w s1 args' w hst'.rel.re k2).mono ?_
          rintro e w' ⟨s', ae, aw2, hle, hrel, her, rfl, rfl⟩
          cases her with
          | returned hvv => exact hnext s' _ w' hle (hst'.put hle hrel hd hvv)
  have h0 : left (Array.replicate ops.size false) = ops.size := by
    unfold left
    rw [Array.toList_replicate, List.countP_replicate]
    simp
  have := head ops.size (Array.replicate ops.size false) a w.drew (by simp) h0 (fun j _ hj => by simp [Array.getD, hj]) (fun j hj hjs => by simp [listedOf, Array.getD, hjs] at hj) s (Inj.le_refl s)
    (by rw [hEnv_none _ (fun j hj => by simp [Array.getD])]; exact ⟨hst.rel.drew, hst.env, hst.size, hst.dfr, hst.mrk, hst.nd⟩)
  exact this
end
end Go.Am
set_option linter.unusedSimpArgs false
set_option linter.unusedVariables false
set_option linter.unusedSectionVars false
namespace Go.Am
open Go Go.RowKit
variable [SymE]
def ldI (k : IntKind) (aw : AW) (p : Value) (K : Int → Prop) : Prop := ∃ b i n, p = .pointer (some ⟨b, i, none⟩) ∧ aw.get b i = some (.int k n) ∧ K n
def ldV (aw : AW) (p : Value) (K : Value → Prop) : Prop := ∃ b i n, p = .pointer (some ⟨b, i, none⟩) ∧ aw.get b i = some n ∧ K n
def st (aw : AW) (p : Value) (cs : List Value) (K : AW → Prop) : Prop := ∃ b i aw', p = .pointer (some ⟨b, i, none⟩) ∧ aw.wr b i cs.length ∧ cs.all one = true ∧ aw' = aw.setN b i cs ∧ K aw'
def alc (aw : AW) (cs : List Value) (t esz : Nat) (K : Value → AW → Prop) : Prop := ∃ p aw', p = .pointer (some ⟨aw.next, 0, none⟩) ∧ aw' = aw.alloc cs t esz ∧ K p aw'
def alcS (aw : AW) (cs : List Value) (t esz n : Nat) (K : Value → AW → Prop) : Prop := ∃ p aw', p = .slice (some ⟨aw.next, 0, none⟩) n n ∧ aw' = aw.alloc cs t esz ∧ K p aw'
def ixS (v : Value) (j : Int) (size : Nat) (K : Value → Prop) : Prop := ∃ b i l c p, v = .slice (some ⟨b, i, none⟩) l c ∧ 0 ≤ j ∧ j < l ∧ p = .pointer (some ⟨b, i + j.toNat * size, none⟩) ∧ K p
def fldA (v : Value) (off : Nat) (K : Value → Prop) : Prop := ∃ b i p, v = .pointer (some ⟨b, i, none⟩) ∧ p = .pointer (some ⟨b, i + off, none⟩) ∧ K p
inductive Cut (aw : AW) (size : Nat) : Value → Int → Int → Value → Prop
  | nil : Cut aw size (.slice none 0 0) 0 0 (.slice none 0 0)
  | some {b i l c lo hi : Nat} (h1 : lo ≤ hi) (h2 : hi ≤ if c < UNK then c else l) (h3 : UNK ≤ c → ∃ B, aw.m b = some B ∧ B.esz = size) :
      Cut aw size (.slice (some ⟨b, i, none⟩) l c) lo hi (.slice (some ⟨b, i + lo * size, none⟩) (hi - lo) (capOf c lo))
def slen (v : Value) (K : Int → Prop) : Prop := ∃ q l c n, v = .slice q l c ∧ n = (l : Int) ∧ K n
inductive App (aw : AW) (el size bytes : Nat) : Value → Value → Value → AW → Prop
  | none {q : Option Addr} {l c : Nat} {xv : Value} {cs : List Value} (h : Src aw size xv 0 cs) : App aw el size bytes (.slice q l c) xv (.slice q l c) aw
  | fits {b i l c n : Nat} {xv : Value} {cs : List Value} (h : Src aw size xv n cs) (h0 : 0 < n) (hc : c < UNK) (hf : l + n ≤ c) (ho : cs.all one = true) (hw : aw.wr b (i + l * size) cs.length) :
      App aw el size bytes (.slice (some ⟨b, i, none⟩) l c) xv (.slice (some ⟨b, i, none⟩) (l + n) c) (aw.setN b (i + l * size) cs)
  | grows {q : Option Addr} {l c n : Nat} {xv : Value} {os cs : List Value} (h0 : Src aw size (.slice q l c) l os) (h : Src aw size xv n cs) (hc : c < UNK) (hf : c < l + n) (hb : (2 * (l + n) + 768) * bytes ≤ 2 ^ 48) :
      App aw el size bytes (.slice q l c) xv (.slice (some ⟨aw.next, 0, none⟩) (l + n) UNK) (aw.alloc (os ++ cs) el size)
  | moves {b l c n : Nat} {xv : Value} {os cs : List Value} {B : Blk} (h0 : aw.getN b 0 (l * size) = some os) (h : Src aw size xv n cs) (hc : UNK ≤ c) (hB : aw.m b = some B) (hrw : B.rw = true) (hfz : B.fz = 0)
      (he : B.elem = el) (hs : B.esz = size) (ho : cs.all one = true) (hb : (2 * (l + n) + 768) * bytes ≤ 2 ^ 48) :
      App aw el size bytes (.slice (some ⟨b, 0, none⟩) l c) xv (.slice (some ⟨aw.next, 0, none⟩) (l + n) UNK) ((aw.kill b).alloc (os ++ cs) el size)
def app (aw : AW) (el size bytes : Nat) (sv xv : Value) (K : Value → AW → Prop) : Prop := ∃ v aw', App aw el size bytes sv xv v aw' ∧ K v aw'
def mk (aw : AW) (el size bytes : Nat) (z : List Value) (m c : Int) (K : Value → AW → Prop) : Prop :=
  ∃ p aw', 0 ≤ m ∧ m ≤ c ∧ bytes * c.toNat ≤ 2 ^ 47 ∧ c < 2 ^ 60 ∧ p = .slice (some ⟨aw.next, 0, none⟩) m.toNat c.toNat ∧ aw' = aw.alloc (zeros z c.toNat) el size ∧ K p aw'
def cnd (b : Bool) (A B : Prop) : Prop := (b = true → A) ∧ (b = false → B)
theorem cnd_t {b : Bool} {A B : Prop} (h : cnd b A B) (hb : b = true) : A := h.1 hb
theorem cnd_f {b : Bool} {A B : Prop} (h : cnd b A B) (hb : b = false) : B := h.2 hb
def Ends {α : Type} (sh : α → Value) (K : α → AW → Prop) (E : List PanicEntry → AW → Prop) : AEnd → AW → Prop
  | .returned v, aw => ∃ r, v = sh r ∧ K r aw
  | .panicked ch, aw => E ch aw
def CallP {α : Type} (P : Program) (f : FuncId) (args : List Value) (aw : AW) (sh : α → Value) (K : α → AW → Prop) (E : List PanicEntry → AW → Prop) : Prop := ACalls P f args aw (Ends sh K E)
theorem CallP.mono {α : Type} {P : Program} {f : FuncId} {args : List Value} {aw : AW} {sh : α → Value} {K K' : α → AW → Prop} {E E' : List PanicEntry → AW → Prop} (h : CallP P f args aw sh K E)
    (hk : ∀ r aw, K r aw → K' r aw) (he : ∀ ch aw, E ch aw → E' ch aw) : CallP P f args aw sh K' E' :=
  ACalls.mono h fun e aw h => match e, h with
    | .returned _, ⟨r, h1, h2⟩ => ⟨r, h1, hk _ _ h2⟩
    | .panicked _, h => he _ _ h
def IsFn (P : Program) (g : FuncId) : Prop := ∃ fn c, P.funcs[g]? = some fn ∧ (fn.name == "runtime.NumGoroutine") = false ∧ fn.body = some c
section
variable {P : Program} {N : Nat} {ops : Array Oper} {i : Nat} {rest : List Nat} {ρ : Env} {ds : List Deferred} {aw aw' : AW}
  {Kn : Env → List Deferred → AW → Prop} {Kp : List PanicEntry → Env → List Deferred → AW → Prop} {o : Oper}
  {x y z : Operand} {t el sT xT xt yt : TypeId} {d dx : TypeDesc} {v xv p : Value} {k : IntKind} {at' : Array TypeId} {size bytes : Nat}
theorem lk {dt : Option Tmp} (hN : dstsOk N ops = true) (ho : ops[i]? = some o) (hd : o.dst = dt) (hg : wants ops o ρ true) (hv : OpV P o ρ aw v aw')
    (hk : AOps P N ops rest (ρ.put dt v) ds aw' Kn Kp) : AOps P N ops (i :: rest) ρ ds aw Kn Kp := aops_val hN ho hg hv (hd ▸ hk)
theorem lk_skip {dt : Option Tmp} (hN : dstsOk N ops = true) (ho : ops[i]? = some o) (hd : o.dst = dt) (hg : wants ops o ρ false)
    (hk : AOps P N ops rest (ρ.put dt undef) ds aw Kn Kp) : AOps P N ops (i :: rest) ρ ds aw Kn Kp := aops_skip hN ho hg (hd ▸ hk)
theorem ov_ldI {b j : Nat} {n : Int} (hop : o.op = .load t x) (hu : P.underlying t = some (.int k)) (hx : okOpd P.globals.size x = true) (h1 : ρ.eval x = p) (hp : p = .pointer (some ⟨b, j, none⟩)) (hg : aw.get b j = some (.int k n)) :
    OpV P o ρ aw (.int k n) aw := opv_load1 hop hu rfl hx (h1.trans hp) hg
theorem ov_ldV {b j : Nat} (hop : o.op = .load t x) (hu : P.underlying t = some d) (ha : aggT d = false) (hx : okOpd P.globals.size x = true) (h1 : ρ.eval x = p) (hp : p = .pointer (some ⟨b, j, none⟩)) (hg : aw.get b j = some v) :
    OpV P o ρ aw v aw := opv_load1 hop hu ha hx (h1.trans hp) hg
theorem ov_ldN {b j n : Nat} {cs : List Value} (hop : o.op = .load t x) (hu : P.underlying t = some d) (ha : aggT d = true) (hn : (P.info? t).map (·.size) = some n) (hx : okOpd P.globals.size x = true) (h1 : ρ.eval x = p) (hp : p = .pointer (some ⟨b, j, none⟩)) (hg : aw.getN b j n = some cs) : OpV P o ρ aw (.agg cs.toArray) aw := opv_loadN hop hu ha hn hx (h1.trans hp) hg
theorem ov_st {b j : Nat} {cs : List Value} (hop : o.op = .store t x y) (hx : okOpd P.globals.size x = true) (hy : okOpd P.globals.size y = true) (h1 : ρ.eval x = p) (h2 : ρ.eval y = xv) (hcs : xv.cells.toList = cs) (hn : (P.info? t).map (·.size) = some cs.length) (hp : p = .pointer (some ⟨b, j, none⟩)) (hw : aw.wr b j cs.length) (ho : cs.all one = true) (ha : aw' = aw.setN b j cs) : OpV P o ρ aw undef aw' := by
  subst ha; subst hcs; exact opv_store hop hx hy (h1.trans hp) h2 hn ho hw
theorem ov_ixS {b i' l c : Nat} {j : Int} (hop : o.op = .indexAddr t x y) (hx : okOpd P.globals.size x = true) (hy : okOpd P.globals.size y = true) (hu : P.underlying t = some (.slice el)) (hsz : (P.info? el).map (·.size) = some size) (h1 : ρ.eval x = p) (h2 : ρ.eval y = .int k j) (hp : p = .slice (some ⟨b, i', none⟩) l c) (h0 : 0 ≤ j) (hj : j < l) (hv : v = .pointer (some ⟨b, i' + j.toNat * size, none⟩)) : OpV P o ρ aw v aw :=
  hv ▸ opv_indexAddr hop hx hy hu hsz (h1.trans hp) h2 h0 hj
theorem ov_fldA {b i' n : Nat} {fs : Array Field} {fd : Field} {off : Nat} (hop : o.op = .fieldAddr t x n) (hx : okOpd P.globals.size x = true) (hu : P.underlying t = some (.struct fs)) (hf : fs[n]? = some fd) (hsz : (P.info? fd.type).map (·.size) = some size) (h0 : 0 < size) (h1 : ρ.eval x = p) (hp : p = .pointer (some ⟨b, i', none⟩)) (hoff : fd.offset = off) (hv : v = .pointer (some ⟨b, i' + off, none⟩)) : OpV P o ρ aw v aw := by
  subst hv; subst hoff; exact opv_fieldAddr hop hx hu hf hsz h0 (h1.trans hp)
theorem ov_len {q : Option Addr} {l c : Nat} {T : TypeId} {n : Int} (hop : o.op = .call { callee := .builtin .len, args := #[x], argTypes := at' }) (hat : at'[0]? = some T) (hx : okOpd P.globals.size x = true) (hu : P.underlying T = some (.slice el)) (h1 : ρ.eval x = v) (hv : v = .slice q l c) (hn : n = (l : Int)) : OpV P o ρ aw (.int .i64 n) aw := hn ▸ opv_len hop hat hx hu (h1.trans hv)
theorem ov_alloc {zz : Value} {zl : List Value} (hop : o.op = .alloc t) (hz : (P.info? t).bind (·.zero) = some zz) (hp : plains zz.cells.toList = true) (hzl : zz.cells.toList = zl) (hv : v = .pointer (some ⟨aw.next, 0, none⟩)) (ha : aw' = aw.alloc zl t 0) :
    OpV P o ρ aw v aw' := by subst hzl; subst hv; subst ha; exact opv_alloc hop hz hp
theorem ov_pickT {c : Operand} {b : Bool} (hop : o.op = .pick c x y) (hc : okOpd P.globals.size c = true) (hx : okOpd P.globals.size x = true) (hy : okOpd P.globals.size y = true) (h : ρ.eval c = .bool b) (hb : b = true) (hv : ρ.eval x = v) : OpV P o ρ aw v aw := by
  subst hb; exact opv_pick hop hc hx hy h (by simpa using hv)
theorem ov_pickF {c : Operand} {b : Bool} (hop : o.op = .pick c x y) (hc : okOpd P.globals.size c = true) (hx : okOpd P.globals.size x = true) (hy : okOpd P.globals.size y = true) (h : ρ.eval c = .bool b) (hb : b = false) (hv : ρ.eval y = v) : OpV P o ρ aw v aw := by
  subst hb; exact opv_pick hop hc hx hy h (by simpa using hv)
theorem lk_call {α : Type} {sh : α → Value} {K : α → AW → Prop} {E : List PanicEntry → AW → Prop} {fid : FuncId} {args : List Value} {dt : Option Tmp} (hN : dstsOk N ops = true) (ho : ops[i]? = some o) (hd : o.dst = dt) (hg : wants ops o ρ true) (hc : OpC P o ρ fid args)
    (H : CallP P fid args aw sh K E) (hE : ∀ ch aw, E ch aw → Kp ch ρ ds aw) (hk : ∀ r aw, K r aw → AOps P N ops rest (ρ.put dt (sh r)) ds aw Kn Kp) : AOps P N ops (i :: rest) ρ ds aw Kn Kp :=
  aops_call hN ho hg hc (ACalls.mono H fun e aw h => match e, h with
    | .returned _, ⟨r, h1, h2⟩ => by subst h1; subst hd; exact hk r aw h2
    | .panicked _, h => hE _ _ h)
theorem opc_of {g : FuncId} {xs : Array Operand} {args : List Value} (hop : o.op = .call { callee := .value (.func g), args := xs, argTypes := at' })
    (hok : xs.toList.all (okOpd P.globals.size) = true) (hf : IsFn P g) (ha : xs.toList.map ρ.eval = args) : OpC P o ρ g args := by
  obtain ⟨fn, c, h1, h2, h3⟩ := hf
  exact opc_static hop hok h1 h2 h3 ha
def resOne (tmps : Array Value) : ResultVar → Sem Value
  | .tmp t => pure (tmps.getD t undef)
  | .cell a t => do loadVar t (← asAddr (tmps.getD a undef))
def OneR (P : Program) (ρ : Env) (aw : AW) (r : ResultVar) (v : Value) : Prop := ∀ (base : Nat → Prop) (w0 : World) (s : Inj) (tmps : Array Value) (w : World), Rel P.globals.size base w0 s aw w →
  (∀ t, VR s (ρ t) (tmps.getD t undef)) → ∃ v', (resOne tmps r).run P w = .ok v' w ∧ VR s v v'
theorem oneT {t1 : Nat} (h : ρ t1 = v) : OneR P ρ aw (.tmp t1) v := fun _ _ _ tmps _ _ he => ⟨tmps.getD t1 undef, rfl, h ▸ he t1⟩
theorem one1 {t1 b j : Nat} (h1 : ρ t1 = p) (hp : p = .pointer (some ⟨b, j, none⟩)) (hu : P.underlying t = some d) (ha : aggT d = false) (hg : aw.get b j = some v) : OneR P ρ aw (.cell t1 t) v := by
  intro base w0 s tmps w hr he
  have e1 := he t1; rw [h1, hp] at e1
  obtain ⟨e, he', h2⟩ := e1.ptr_inv
  obtain ⟨e', v', k1, k2, k3⟩ := hr.cell hg
  rw [he'] at k1; obtain rfl := Option.some.inj k1
  refine ⟨v', ?_, k3⟩
  simp only [resOne, asAddr, h2, loadVar, Sem.run_bind, Sem.run_pure, Result.andThen_ok, run_isAgg hu]
  cases d <;> simp_all [aggT]
theorem oneN {t1 b j n : Nat} {cs : List Value} (h1 : ρ t1 = p) (hp : p = .pointer (some ⟨b, j, none⟩)) (hu : P.underlying t = some d) (ha : aggT d = true) (hn : (P.info? t).map (·.size) = some n) (hg : aw.getN b j n = some cs) :
    OneR P ρ aw (.cell t1 t) (.agg cs.toArray) := by
  intro base w0 s tmps w hr he
  have e1 := he t1; rw [h1, hp] at e1
  obtain ⟨e, he', h2⟩ := e1.ptr_inv
  obtain ⟨cs', k1, k2⟩ := hr.cellsN he' hg
  have hl : cs'.length = n := by rw [← k1.length]; exact AW.getN_length hg
  have hld := run_loadN P hl k2
  have hsz := run_sizeOf' hn w
  refine ⟨.agg cs'.toArray, ?_, .agg (by simpa using k1)⟩
  simp only [resOne, asAddr, h2, loadVar, Sem.run_bind, Sem.run_pure, Result.andThen_ok, run_isAgg hu]
  cases d <;> simp_all [aggT]
theorem results_eq (fn : Func) (tmps : Array Value) : results fn tmps = (do let vs ← fn.results.mapM (resOne tmps); pure (if h : vs.size = 1 then vs[0] else .tuple vs)) := by
  unfold results
  congr 1
theorem ares_0 {fn : Func} (h : fn.results = #[]) : ARes P fn N ρ aw (.tuple #[]) := by
  intro base w0 s tmps w hr he hs
  refine ⟨.tuple #[], ?_, .tuple .nil⟩
  simp [results_eq, h]
theorem ares_1 {fn : Func} {r1 : ResultVar} (h : fn.results = #[r1]) (h1 : OneR P ρ aw r1 v) : ARes P fn N ρ aw v := by
  intro base w0 s tmps w hr he hs
  obtain ⟨u1, k1, j1⟩ := h1 base w0 s tmps w hr he
  refine ⟨u1, ?_, j1⟩
  simp [results_eq, h, k1, Sem.run_bind]
theorem ares_2 {fn : Func} {r1 r2 : ResultVar} {v1 v2 : Value} (h : fn.results = #[r1, r2]) (h1 : OneR P ρ aw r1 v1) (h2 : OneR P ρ aw r2 v2) : ARes P fn N ρ aw (.tuple #[v1, v2]) := by
  intro base w0 s tmps w hr he hs
  obtain ⟨u1, k1, j1⟩ := h1 base w0 s tmps w hr he
  obtain ⟨u2, k2, j2⟩ := h2 base w0 s tmps w hr he
  refine ⟨.tuple #[u1, u2], ?_, .tuple (.cons j1 (.cons j2 .nil))⟩
  simp [results_eq, h, k1, k2, Sem.run_bind]
theorem ares_3 {fn : Func} {r1 r2 r3 : ResultVar} {v1 v2 v3 : Value} (h : fn.results = #[r1, r2, r3]) (h1 : OneR P ρ aw r1 v1) (h2 : OneR P ρ aw r2 v2) (h3 : OneR P ρ aw r3 v3) : ARes P fn N ρ aw (.tuple #[v1, v2, v3]) := by
  intro base w0 s tmps w hr he hs
  obtain ⟨u1, k1, j1⟩ := h1 base w0 s tmps w hr he
  obtain ⟨u2, k2, j2⟩ := h2 base w0 s tmps w hr he
  obtain ⟨u3, k3, j3⟩ := h3 base w0 s tmps w hr he
  refine ⟨.tuple #[u1, u2, u3], ?_, .tuple (.cons j1 (.cons j2 (.cons j3 .nil)))⟩
  simp [results_eq, h, k1, k2, k3, Sem.run_bind]
theorem ares_4 {fn : Func} {r1 r2 r3 r4 : ResultVar} {v1 v2 v3 v4 : Value} (h : fn.results = #[r1, r2, r3, r4]) (h1 : OneR P ρ aw r1 v1) (h2 : OneR P ρ aw r2 v2) (h3 : OneR P ρ aw r3 v3) (h4 : OneR P ρ aw r4 v4) :
    ARes P fn N ρ aw (.tuple #[v1, v2, v3, v4]) := by
  intro base w0 s tmps w hr he hs
  obtain ⟨u1, k1, j1⟩ := h1 base w0 s tmps w hr he
  obtain ⟨u2, k2, j2⟩ := h2 base w0 s tmps w hr he
  obtain ⟨u3, k3, j3⟩ := h3 base w0 s tmps w hr he
  obtain ⟨u4, k4, j4⟩ := h4 base w0 s tmps w hr he
  refine ⟨.tuple #[u1, u2, u3, u4], ?_, .tuple (.cons j1 (.cons j2 (.cons j3 (.cons j4 .nil))))⟩
  simp [results_eq, h, k1, k2, k3, k4, Sem.run_bind]
theorem gq {u c w b : Bool} (h : u = c) (hb : b = (c == w)) : b = (u == w) := by subst h; exact hb
theorem mp_cons {i : Nat} {l : List (Nat × Operand)} {m : List (Nat × Value)} (h : ρ.eval x = v) (t : l.map (fun p => (p.1, ρ.eval p.2)) = m) : ((i, x) :: l).map (fun p => (p.1, ρ.eval p.2)) = (i, v) :: m := by
  simp [h, t]
theorem ma_cons {l : List Operand} {m : List Value} (h : ρ.eval x = v) (t : l.map ρ.eval = m) : (x :: l).map ρ.eval = v :: m := by simp [h, t]
def putL (cs : List Value) (off : Nat) : List Value → List Value
  | [] => cs
  | x :: xs => putL (cs.set off x) (off + 1) xs
theorem foldl_putL : ∀ (xs : List Value) (cs : List Value) (off k : Nat), ((xs.zipIdx k).foldl (fun (q : Array Value) (p : Value × Nat) => q.setIfInBounds (off + p.2) p.1) cs.toArray) = (putL cs (off + k) xs).toArray
  | [], cs, off, k => by simp [putL]
  | x :: xs, cs, off, k => by
    simp only [List.zipIdx_cons, List.foldl_cons, putL]
    have := foldl_putL xs (cs.set (off + k) x) off (k + 1)
    simpa [Nat.add_assoc] using this
theorem fillP {place : Nat → Option (Nat × Nat)} {i off n : Nat} {xs cs : List Value} {l : List (Nat × Value)} {r : Array Value} (hc : v.cells.toList = xs) (hn : xs.length = n) (hp : place i = some (off, n)) (hb : Nat.ble (off + n) cs.length = true)
    (t : Instr.fill place (putL cs off xs).toArray l = some r) : Instr.fill place cs.toArray ((i, v) :: l) = some r := by
  have hb := Nat.le_of_ble_eq_true hb
  have hs : v.cells.size = n := by rw [← hn, ← hc]; simp
  simp only [Instr.fill, hp, hs]
  rw [if_neg (by simp; omega), ← Array.foldl_toList, Array.toList_zipIdx, hc, foldl_putL]
  exact t
theorem fillN {place : Nat → Option (Nat × Nat)} {cs : List Value} {r : List Value} (h : cs = r) : Instr.fill place cs.toArray [] = some r.toArray := by subst h; rfl
theorem range_zeros {z : Array Value} {size : Nat} (hz : z.size = size) (h0 : 0 < size) (n : Nat) : (Array.range (n * size)).map (z[· % size]!) = (zeros z.toList n).toArray := by
  apply Array.ext
  · simp [zeros_length, hz]
  · intro j h1 h2
    have hj : j < n * size := by simpa using h1
    have hm : j % size < z.size := by rw [hz]; exact Nat.mod_lt _ h0
    have := zeros_get z.toList (by simp; omega) n j (by simpa [hz] using hj)
    simp only [Array.length_toList, hz] at this
    have h3 : (zeros z.toList n)[j]? = some z[j % size] := by rw [this]; simp [hm]
    simp only [Array.getElem_map, Array.getElem_range, List.getElem_toArray]
    rw [List.getElem?_eq_some_iff] at h3
    obtain ⟨_, h3⟩ := h3
    rw [h3, getElem!_pos z _ hm]
theorem ov_bs {n : Nat} {ps : Array (Nat × Operand)} {qs : List (Nat × Value)} {zz : Value} {zl : List Value} {r : List Value} (hop : o.op = .buildSlice t n ps) (hok : (ps.toList.all fun p => okOpd P.globals.size p.2) = true) (hu : P.underlying t = some (.slice el)) (hsz : (P.info? el).map (·.size) = some size) (hz : (P.info? el).bind (·.zero) = some zz) (hp : plains zz.cells.toList = true) (hzl : zz.cells = zl.toArray) (hn : Nat.ble (n * size) (2 ^ 24) = true) (h0 : Nat.blt 0 (n * size) = true) (hzs : zl.length = size) (hq : ps.toList.map (fun p => (p.1, ρ.eval p.2)) = qs) (hr : Instr.fill (fun i => some (i * size, size)) (zeros zl n).toArray qs = some r.toArray) (hv : v = .slice (some ⟨aw.next, 0, none⟩) n n) (ha : aw' = aw.alloc r el size) : OpV P o ρ aw v aw' := by
  subst hv; subst ha
  have hs : zz.cells.size = size := by rw [hzl]; simpa using hzs
  have h0' : 0 < n * size := by simpa using h0
  have hs0 : 0 < size := Nat.pos_of_ne_zero fun h => by subst h; simp at h0'
  have := opv_buildSlice (ρ := ρ) (aw := aw) hop hok hu hsz hz hp (Nat.le_of_ble_eq_true hn) h0' hs (r := r.toArray) (by
    rw [range_zeros hs hs0, hzl, hq]; exact hr)
  simpa using this
inductive FillCells (size : Nat) : List Value → List Value → Prop
  | nil : FillCells size [] []
  | one {v : Value} {vs r : List Value} (hc : v.cells.toList = [v]) (t : FillCells size vs r) (h : 1 = size := by rfl) : FillCells size (v :: vs) (v :: r)
  | cons {v : Value} {vs r xs : List Value} (hc : v.cells.toList = xs) (hn : xs.length = size) (t : FillCells size vs r) : FillCells size (v :: vs) (xs ++ r)
def enumV : Nat → List Value → List (Nat × Value)
  | _, [] => []
  | k, v :: vs => (k, v) :: enumV (k + 1) vs
theorem putL_app : ∀ (xs a b c : List Value) (off : Nat), off = a.length → xs.length = b.length → putL (a ++ (b ++ c)) off xs = a ++ (xs ++ c)
  | [], a, b, c, off, ha, hb => by
    have : b = [] := List.length_eq_zero_iff.1 (by simpa using hb.symm)
    subst this; simp [putL]
  | x :: xs, a, [], c, off, ha, hb => by simp at hb
  | x :: xs, a, y :: b, c, off, ha, hb => by
    subst ha
    simp only [putL, List.cons_append]
    have h1 : (a ++ (y :: (b ++ c))).set a.length x = (a ++ [x]) ++ (b ++ c) := by simp
    rw [h1]
    have := putL_app xs (a ++ [x]) b c (a.length + 1) (by simp) (by simpa using hb)
    rw [this]; simp
theorem fill_cells {size : Nat} : ∀ {vs r : List Value}, FillCells size vs r → ∀ (a b : List Value) (k : Nat), a.length = k * size → b.length = vs.length * size →
    Instr.fill (fun i => some (i * size, size)) (a ++ b).toArray (enumV k vs) = some (a ++ r).toArray
  | _, _, .nil, a, b, k, ha, hb => by
    have : b = [] := List.length_eq_zero_iff.1 (by simpa using hb)
    subst this; rfl
  | _, _, .one (v := v) (vs := vs) (r := r) hc t h, a, b, k, ha, hb => by
    subst h
    cases b with
    | nil => simp at hb
    | cons y b =>
      refine fillP (xs := [v]) (n := 1) hc rfl rfl (Nat.ble_eq_true_of_le (by simp [ha])) ?_
      have h1 : putL (a ++ y :: b) (k * 1) [v] = (a ++ [v]) ++ b := by
        have := putL_app [v] a [y] b (k * 1) (by omega) rfl
        simpa using this
      rw [h1, fill_cells t (a ++ [v]) b (k + 1) (by simp [ha]) (by simpa using hb)]
      simp
  | _, _, .cons (v := v) (vs := vs) (r := r) (xs := xs) hc hn t, a, b, k, ha, hb => by
    have hlen : size ≤ b.length := by rw [hb]; simp [Nat.add_mul]
    obtain ⟨b1, b2, rfl, hb1⟩ : ∃ b1 b2, b = b1 ++ b2 ∧ b1.length = size := ⟨b.take size, b.drop size, by simp, by simp; omega⟩
    refine fillP (xs := xs) (n := size) hc hn rfl (Nat.ble_eq_true_of_le (by simp [ha]; omega)) ?_
    rw [putL_app xs a b1 b2 (k * size) ha.symm (by omega), ← List.append_assoc,
      fill_cells t (a ++ xs) b2 (k + 1) (by simp [ha, hn, Nat.add_mul]) (by simp [hb1, Nat.add_mul] at hb; omega)]
    simp
theorem ov_bsA {n : Nat} {ps : Array (Nat × Operand)} {vs : List Value} {zz : Value} {zl : List Value} {r : List Value} (hop : o.op = .buildSlice t n ps) (hok : (ps.toList.all fun p => okOpd P.globals.size p.2) = true)
    (hu : P.underlying t = some (.slice el)) (hsz : (P.info? el).map (·.size) = some size) (hz : (P.info? el).bind (·.zero) = some zz) (hp : plains zz.cells.toList = true) (hzl : zz.cells = zl.toArray)
    (hn : Nat.ble (n * size) (2 ^ 24) = true) (h0 : Nat.blt 0 (n * size) = true) (hzs : zl.length = size) (hq : ps.toList.map (fun p => (p.1, ρ.eval p.2)) = enumV 0 vs)
    (hr : FillCells size vs r) (hv : v = .slice (some ⟨aw.next, 0, none⟩) n n) (ha : aw' = aw.alloc r el size) (hl : vs.length = n := by rfl) : OpV P o ρ aw v aw' :=
  ov_bs hop hok hu hsz hz hp hzl hn h0 hzs hq (by
    have := fill_cells hr [] (zeros zl n) 0 (by simp) (by rw [zeros_length, hzs, hl])
    simpa using this) hv ha
def RR {α : Type} (P : Program) (fn : Func) (N : Nat) (sh : α → Value) (Q : α → AW → Prop) (E : List PanicEntry → AW → Prop) : ADone → Env → List Deferred → AW → Prop := fun d ρ ds aw =>
  ds = [] ∧ match d with
    | .ret => ∃ v, ARes P fn N ρ aw v ∧ Ends sh Q E (.returned v) aw
    | .panic ch => Ends sh Q E (.panicked ch) aw
theorem ago_retR {α : Type} {fn : Func} {sh : α → Value} {Q : α → AW → Prop} {E : List PanicEntry → AW → Prop} {r : α} {k : List Item} (hr : ARes P fn N ρ aw v) (hv : v = sh r) (H : Q r aw) :
    AGo P N (.code .ret :: k) ρ [] aw (RR P fn N sh Q E) := ago_ret ⟨rfl, v, hr, r, hv, H⟩
theorem callP_of {α : Type} {f : FuncId} {fn : Func} {c : Code} {args : List Value} {sh : α → Value} {Q : α → AW → Prop} {E : List PanicEntry → AW → Prop} (hf : P.funcs[f]? = some fn) (hb : fn.body = some c) (hn : fn.ntmps = N) (hN : args.length ≤ N)
    (h : AGo P N [.code c] (Env.init args) [] aw (RR P fn N sh Q E)) : CallP P f args aw sh Q E := by
  refine acalls_of_ago hf hb hn hN ?_
  intro base w0 s a w b cs hst
  obtain ⟨m, t', a', w', h1, s', d, ρ', ds', aw', h2, h3, h4, h5⟩ := h base w0 s a w b cs hst
  refine ⟨m, t', a', w', h1, s', d, ρ', ds', aw', h2, h3, h4, h5.1, ?_⟩
  cases d with
  | ret => exact h5.2
  | panic ch => exact h5.2
theorem ago_reg {k : List Item} {R : ADone → Env → List Deferred → AW → Prop} {id : Nat} {l : List Nat} (hl : List.range ops.size = l)
    (h : AOps P N ops l ρ ds aw (fun ρ' ds' aw' => AGo P N k ρ' ds' aw' R) (fun ch ρ' ds' aw' => R (.panic ch) ρ' ds' aw')) : AGo P N (.code (.region id ops false) :: k) ρ ds aw R :=
  ago_region (n := ops.size) rfl (by rw [hl]; exact h)
theorem getN_nil {b i : Nat} : aw.getN b i 0 = some [] := rfl
theorem getN_cons {b i n : Nat} {l : List Value} (h : aw.get b i = some v) (t : aw.getN b (i + 1) n = some l) : aw.getN b i (n + 1) = some (v :: l) := by
  simp [AW.getN, h, t]
end
end Go.Am
set_option linter.unusedSimpArgs false
set_option linter.unusedVariables false
set_option linter.unusedSectionVars false
namespace Go.Am
open Go Go.RowKit
variable [SymE]
theorem isFn_of {P : Program} {g : FuncId} {fn : Func} (h : P.funcs[g]? = some fn) (h2 : (fn.name == "runtime.NumGoroutine") = false) (h3 : fn.body.isSome = true) : IsFn P g := by
  obtain ⟨c, hc⟩ := Option.isSome_iff_exists.1 h3
  exact ⟨fn, c, h, h2, hc⟩
theorem tf {p : Prop} (h : true = false) : p := absurd h (by decide)
def cl : Code → Code
  | .seq a _ => a
  | .cond _ a _ => a
  | .block _ c => c
  | .loop c => c
  | .scope c => c
  | c => c
def cr : Code → Code
  | .seq _ b => b
  | .cond _ _ b => b
  | c => c
def regOps : Code → Array Oper
  | .region _ ops _ => ops
  | _ => #[]
def bodyOf (fn : Func) : Code := fn.body.getD .skip
section
variable {P : Program} {N : Nat} {k : List Item} {ρ : Env} {ds : List Deferred} {aw : AW} {R : ADone → Env → List Deferred → AW → Prop} {c x y : Code}
theorem ago_seqE (e : c = .seq x y) (h : AGo P N (.code x :: .code y :: k) ρ ds aw R) : AGo P N (.code c :: k) ρ ds aw R := e ▸ ago_seq h
theorem ago_skipE (e : c = .skip) (h : AGo P N k ρ ds aw R) : AGo P N (.code c :: k) ρ ds aw R := e ▸ ago_skip h
theorem ago_blockE {id : Nat} (e : c = .block id x) (h : AGo P N (.code x :: .inBlock id :: k) ρ ds aw R) : AGo P N (.code c :: k) ρ ds aw R := e ▸ ago_block h
theorem ago_loopE (e : c = .loop x) (h : AGo P N (.code x :: .inLoop x :: k) ρ ds aw R) : AGo P N (.code c :: k) ρ ds aw R := e ▸ ago_loop h
theorem ago_exitE {id : Nat} {k' : List Item} (e : c = .exit id) (hk : exitTo id k = some k') (h : AGo P N k' ρ ds aw R) : AGo P N (.code c :: k) ρ ds aw R := e ▸ ago_exit hk h
theorem ago_condE {z : Operand} {t : Bool} (e : c = .cond z x y) (hok : okOpd P.globals.size z = true) (hc : ρ.eval z = .bool t)
    (hx : t = true → AGo P N (.code x :: k) ρ ds aw R) (hy : t = false → AGo P N (.code y :: k) ρ ds aw R) : AGo P N (.code c :: k) ρ ds aw R := e ▸ ago_cond hok hc hx hy
theorem ago_regE {id : Nat} {ops : Array Oper} {l : List Nat} (e : c = .region id ops false) (hl : List.range ops.size = l)
    (h : AOps P N ops l ρ ds aw (fun ρ' ds' aw' => AGo P N k ρ' ds' aw' R) (fun ch ρ' ds' aw' => R (.panic ch) ρ' ds' aw')) : AGo P N (.code c :: k) ρ ds aw R := e ▸ ago_reg hl h
section
variable {ops : Array Oper} {o : Oper} {i : Nat} {ρm : Env} {v : Value}
end
section
variable {ops : Array Oper} {hs : List Nat} {val : Nat → Value} {ρ1 : Env} {Kn : Env → List Deferred → AW → Prop} {Kp : List PanicEntry → Env → List Deferred → AW → Prop} {l : Array Bool}
end
theorem ago_cut (F : Env → Prop) (hF : F ρ) (h : ∀ ρ, F ρ → AGo P N k ρ ds aw R) : AGo P N k ρ ds aw R := h ρ hF
theorem ago_retE {α : Type} {fn : Func} {sh : α → Value} {Q : α → AW → Prop} {E : List PanicEntry → AW → Prop} {r : α} {v : Value} (e : c = .ret) (hr : ARes P fn N ρ aw v) (hv : v = sh r) (H : Q r aw) :
    AGo P N (.code c :: k) ρ [] aw (RR P fn N sh Q E) := e ▸ ago_retR hr hv H
end
inductive EqFs (P : Program) (xs ys : Array Value) : List Field → Bool → Prop
  | nil : EqFs P xs ys [] true
  | int {f : Field} {fs : List Field} {k : IntKind} {a c : Int} {b : Bool} (hn : (f.name == "_") = false) (hu : P.underlying f.type = some (.int k)) (hx : xs[f.offset]? = some (.int k a)) (hy : ys[f.offset]? = some (.int k c))
      (t : EqFs P xs ys fs b) : EqFs P xs ys (f :: fs) (decide (a = c) && b)
  | str {f : Field} {fs : List Field} {a c : ByteArray} {b : Bool} (hn : (f.name == "_") = false) (hu : P.underlying f.type = some .string) (hx : xs[f.offset]? = some (.string a)) (hy : ys[f.offset]? = some (.string c))
      (t : EqFs P xs ys fs b) : EqFs P xs ys (f :: fs) (decide (a = c) && b)
  | bool {f : Field} {fs : List Field} {a c : Bool} {b : Bool} (hn : (f.name == "_") = false) (hu : P.underlying f.type = some .bool) (hx : xs[f.offset]? = some (.bool a)) (hy : ys[f.offset]? = some (.bool c))
      (t : EqFs P xs ys fs b) : EqFs P xs ys (f :: fs) (decide (a = c) && b)
theorem run_part1 {P : Program} {e : TypeId} {d : TypeDesc} (hu : P.underlying e = some d) (ha : aggT d = false) {xs : Array Value} {off : Nat} {v : Value} (hx : xs[off]? = some v) (w : World) : (part e xs off).run P w = .ok v w := by
  cases d <;> simp_all [aggT, part, isAgg, run_underlying hu]
theorem beq_ba (a c : ByteArray) : (a == c) = decide (a = c) := by
  rw [beq_toListBytes, ByteArray.toList_eq, ByteArray.toList_eq]
  obtain ⟨⟨x⟩⟩ := a
  obtain ⟨⟨y⟩⟩ := c
  by_cases h : x = y
  · subst h; simp
  · have h2 : ¬ (ByteArray.mk ⟨x⟩ = ByteArray.mk ⟨y⟩) := by
      intro e; apply h; injection e with e; injection e
    rw [decide_eq_false h2]
    simpa using h
theorem EqFs.run {P : Program} {xs ys : Array Value} (w : World) (d : Nat) : ∀ {fs : List Field} {b : Bool}, EqFs P xs ys fs b → (Op.eqFields (d + 1) xs ys fs).run P w = .ok b w
  | _, _, .nil => by simp [Op.eqFields]
  | _, _, .int (a := a) (c := c) hn hu hx hy t => by
    have hn' := hn; rw [beq_eq_false_iff_ne] at hn'
    simp only [Op.eqFields, if_pos hn', Sem.run_bind, run_part1 hu rfl hx, run_part1 hu rfl hy, Result.andThen_ok, run_equalIn_int w d _ _ _ a c hu]
    by_cases h : a = c
    · simp [h, EqFs.run w d t]
    · simp [h]
  | _, _, .str (a := a) (c := c) hn hu hx hy t => by
    have hn' := hn; rw [beq_eq_false_iff_ne] at hn'
    simp only [Op.eqFields, if_pos hn', Sem.run_bind, run_part1 hu rfl hx, run_part1 hu rfl hy, Result.andThen_ok, run_equalIn_string w d _ a c hu, ← beq_toListBytes, beq_ba]
    by_cases h : a = c
    · simp [h, EqFs.run w d t]
    · simp [h]
  | _, _, .bool (a := a) (c := c) hn hu hx hy t => by
    have hn' := hn; rw [beq_eq_false_iff_ne] at hn'
    simp only [Op.eqFields, if_pos hn', Sem.run_bind, run_part1 hu rfl hx, run_part1 hu rfl hy, Result.andThen_ok, run_equalIn_bool' w d _ a c hu]
    by_cases h : a = c
    · simp [h, EqFs.run w d t]
    · simp [h]
theorem stEq {P : Program} {t : TypeId} {fs : Array Field} {xs ys : Array Value} {b : Bool} (hu : P.underlying t = some (.struct fs)) (hp : P.stoodInHeld t = false) (hm : P.eqGuardType P.depth t = false) (h : EqFs P xs ys fs.toList b) (x y : Operand) (w : World) :
    (do eqGuard .eql t x y (.agg xs) (.agg ys); binOp .eql t (.agg xs) (.agg ys) : Sem Value).run P w = .ok (.bool b) w := by
  have hf : P.fieldsOf t = fs := by simp [Program.fieldsOf, hu]
  simp only [Sem.run_bind, run_eqGuard_agg w _ _ _ _ _ _ hm, Result.andThen_ok, run_eql_struct, run_equalIn_struct w 9999 t xs ys (by rw [hf]; exact hu) hp, hf, h.run w 9998]
theorem stNe {P : Program} {t : TypeId} {fs : Array Field} {xs ys : Array Value} {b : Bool} (hu : P.underlying t = some (.struct fs)) (hp : P.stoodInHeld t = false) (hm : P.eqGuardType P.depth t = false) (h : EqFs P xs ys fs.toList b) (x y : Operand) (w : World) :
    (do eqGuard .neq t x y (.agg xs) (.agg ys); binOp .neq t (.agg xs) (.agg ys) : Sem Value).run P w = .ok (.bool (!b)) w := by
  have hf : P.fieldsOf t = fs := by simp [Program.fieldsOf, hu]
  simp only [Sem.run_bind, run_eqGuard_agg w _ _ _ _ _ _ hm, Result.andThen_ok, run_neq_struct, run_equalIn_struct w 9999 t xs ys (by rw [hf]; exact hu) hp, hf, h.run w 9998]
end Go.Am
set_option linter.unusedSimpArgs false
set_option linter.unusedVariables false
set_option linter.unusedSectionVars false
namespace Go.Am
open Go Go.RowKit
variable [SymE]
theorem AW.getN_get {aw : AW} {b : Nat} : ∀ {n i : Nat} {cs : List Value}, aw.getN b i n = some cs → ∀ {j : Nat} {u : Value}, cs[j]? = some u → aw.get b (i + j) = some u
  | 0, i, cs, h, j, u, hj => by simp [AW.getN] at h; subst h; simp at hj
  | n + 1, i, cs, h, j, u, hj => by
    simp only [AW.getN] at h
    cases hg : aw.get b i with
    | none => simp [hg] at h
    | some v =>
      simp only [hg] at h
      cases hl : aw.getN b (i + 1) n with
      | none => simp [hl] at h
      | some l =>
        simp [hl] at h; subst h
        cases j with
        | zero => simp at hj; subst hj; exact hg
        | succ j =>
          simp at hj
          have := AW.getN_get hl hj
          rw [show i + (j + 1) = i + 1 + j by omega]; exact this
theorem AW.getN_of {aw : AW} {b : Nat} : ∀ {cs : List Value} {i : Nat}, (∀ (j : Nat) (u : Value), cs[j]? = some u → aw.get b (i + j) = some u) → aw.getN b i cs.length = some cs
  | [], i, h => rfl
  | c :: cs, i, h => by
    have h0 := h 0 c rfl
    have ht := AW.getN_of (cs := cs) (i := i + 1) (fun j u hj => by
      have := h (j + 1) u (by simpa using hj)
      rw [show i + 1 + j = i + (j + 1) by omega]; exact this)
    simp only [Nat.add_zero] at h0
    simp [AW.getN, h0, ht]
def IsExt (P : Program) (g : FuncId) (e : Array Value → Sem Value) : Prop :=
  ∃ fn, P.funcs[g]? = some fn ∧ (fn.name == "runtime.NumGoroutine") = false ∧ fn.body.isNone = true ∧ Extern.findNext fn = none ∧ Extern.find fn = some e
section
variable {P : Program} {ρ : Env} {aw aw' : AW} {o : Oper} {x y : Operand} {v p : Value} {t el : TypeId}
theorem ov_ext {g : FuncId} {e : Array Value → Sem Value} {xs : Array Operand} {at' : Array TypeId} {args : List Value} (hop : o.op = .call { callee := .value (.func g), args := xs, argTypes := at' })
    (hok : xs.toList.all (okOpd P.globals.size) = true) (hf : IsExt P g e) (ha : xs.toList.map ρ.eval = args)
    (h : ∀ (s : Inj) (args' : List Value) (w : World), VRs s args args' → ∃ v', (e args'.toArray).run P w = .ok v' w ∧ VR s v v') : OpV P o ρ aw v aw := by
  intro base w0 s f w hr hff
  obtain ⟨fn, h1, h2, h3, h4, h5⟩ := hf
  have hv : VRs s args (xs.map f).toList := by
    have := evals hff xs.toList hok
    rw [ha] at this
    simpa using this
  obtain ⟨v', k1, k2⟩ := h s (xs.map f).toList w hv
  refine ⟨.value v', v', w, s, ?_, .inl rfl, Inj.le_refl s, hr, k2⟩
  have e0 : f (.func g) = .func (.func g) #[] #[] := by
    have := hff (.func g) rfl
    simp only [Env.eval] at this
    obtain ⟨a', c', h2, h3, h4⟩ := this.func_inv
    have r1 : a' = #[] := by apply Array.toList_inj.1; generalize a'.toList = q at h3; cases h3; rfl
    have r2 : c' = #[] := by apply Array.toList_inj.1; generalize c'.toList = q at h4; cases h4; rfl
    rw [h2, r1, r2]
  have hcf := run_callFunc_extern h1 h2 h3 h4 h5 (xs.map f) w
  have e3 : (xs.map f).toList.toArray = xs.map f := rfl
  rw [e3] at k1
  rw [k1] at hcf
  simp only [Result.andThen] at hcf
  have e4 : (#[] : Array Value) ++ xs.map f ++ #[] = xs.map f := by apply Array.toList_inj.1; simp
  simp only [execOp, hop, resolve, e0, Deferred.ofValue, Sem.run_bind, Sem.run_pure, Result.andThen_ok, invoke]
  first
    | exact hcf
    | (rw [e4]; exact hcf)
theorem ov_idx {g : FuncId} {xs : Array Operand} {at' : Array TypeId} {a : ByteArray} {c : Int} (hop : o.op = .call { callee := .value (.func g), args := xs, argTypes := at' })
    (hok : xs.toList.all (okOpd P.globals.size) = true) (hf : IsExt P g Extern.BytealgIndexByte.indexByte) (ha : xs.toList.map ρ.eval = [.string a, .int .u8 c]) : OpV P o ρ aw (.int .i64 (firstIdx a c.toNat.toUInt8)) aw :=
  ov_ext hop hok hf ha fun s args' w hv => by
    cases hv with
    | cons h1 t => cases t with
      | cons h2 t => cases t with
        | nil =>
          cases h1; cases h2
          exact ⟨_, run_indexByte_string a c w, .int _ _⟩
theorem ov_noEsc {g : FuncId} {xs : Array Operand} {at' : Array TypeId} (hop : o.op = .call { callee := .value (.func g), args := xs, argTypes := at' })
    (hok : xs.toList.all (okOpd P.globals.size) = true) (hf : IsExt P g Extern.AbiNoEscape.same) (ha : xs.toList.map ρ.eval = [v]) : OpV P o ρ aw v aw :=
  ov_ext hop hok hf ha fun s args' w hv => by
    cases hv with
    | cons h1 t => cases t with
      | nil => exact ⟨_, Lib.run_noEscape w _, h1⟩
inductive IfEq (P : Program) : Value → Value → Bool → Prop
  | ni {t : TypeId} {v : Value} : IfEq P .nilIface (.iface t v) false
  | inn {t : TypeId} {v : Value} : IfEq P (.iface t v) .nilIface false
  | ne {t t' : TypeId} {v v' : Value} (h : t ≠ t') : IfEq P (.iface t v) (.iface t' v') false
  | int {t : TypeId} {k : IntKind} {a b : Int} (hu : P.underlying t = some (.int k)) (hc : (P.info? t).map (·.comparable) = some true) : IfEq P (.iface t (.int k a)) (.iface t (.int k b)) (decide (a = b))
theorem IfEq.run {P : Program} {xt : TypeId} {ms : Array (String × TypeId)} {u1 u2 v1 v2 : Value} {r : Bool} {s : Inj} (hu : P.underlying xt = some (.interface ms)) (h : IfEq P u1 u2 r) (e1 : VR s u1 v1) (e2 : VR s u2 v2) (w : World) : (Op.equal xt v1 v2).run P w = .ok r w := by
  have hk : ∃ k, (9999 : Nat) = k + 1 := ⟨9998, rfl⟩
  rw [equal_succ]; generalize (9999 : Nat) = n at hk ⊢
  obtain ⟨d, rfl⟩ := hk
  cases h with
  | ni => cases e1; cases e2; simp only [Op.equalIn, Sem.run_bind, run_underlying hu, Result.andThen_ok, Sem.run_pure]
  | inn => cases e1; cases e2; simp only [Op.equalIn, Sem.run_bind, run_underlying hu, Result.andThen_ok, Sem.run_pure]
  | ne h => cases e1; cases e2; simp only [Op.equalIn, Sem.run_bind, run_underlying hu, Result.andThen_ok, Sem.run_pure, if_pos h]
  | int hu' hc =>
    cases e1 with | iface _ f1 => cases e2 with | iface _ f2 =>
      cases f1; cases f2
      obtain ⟨j, hj, hjc⟩ := Option.map_eq_some_iff.1 hc
      rename_i t k a b
      simp [Op.equalIn, Sem.run_bind, run_underlying hu, run_underlying hu', run_typeInfo w hj, hjc]
      rfl
theorem IfEq.guard {P : Program} {op : BinOp} {xt : TypeId} {u1 u2 v1 v2 : Value} {r : Bool} {s : Inj} (h : IfEq P u1 u2 r) (e1 : VR s u1 v1) (e2 : VR s u2 v2) (w : World) : (eqGuard op xt x y v1 v2).run P w = .ok () w := by
  cases h <;> cases e1 <;> cases e2 <;> cases op <;> simp [eqGuard]
def usdV : Value → Value
  | .slice (some a) _ _ => .pointer (some a)
  | _ => .pointer none
theorem ov_usd {at' : Array TypeId} (hop : o.op = .call { callee := .builtin .unsafeSliceData, args := #[x], argTypes := at' }) (hx : okOpd P.globals.size x = true) (h1 : ρ.eval x = v)
    (hv : (∃ b i l c, v = .slice (some ⟨b, i, none⟩) l c ∧ 0 < l) ∨ v = .slice none 0 0) (hp : p = usdV v) : OpV P o ρ aw p aw := by
  intro base w0 s f w hr hf
  subst hp
  have e1 := hf x hx; rw [h1] at e1
  rcases hv with ⟨b, i, l, c, rfl, hl⟩ | rfl
  · obtain ⟨a', c', q1, q2, q3, q4⟩ := e1.slice_inv
    obtain ⟨e, q5, q6, q7⟩ := q4 (by omega)
    have := Lib.run_unsafeSliceData_row (P := P) w at' o.type a' l c' (by omega)
    refine ⟨_, .pointer (some a'), w, s, ?_, .inl rfl, Inj.le_refl s, hr, by rw [q6]; exact .ptr q5⟩
    simp only [execOp, hop, resolve, Sem.run_bind, Sem.run_pure, Result.andThen_ok, invoke, builtin, List.map_toArray, List.map_cons, List.map_nil, q1]
    rw [this]; rfl
  · have q1 : f x = .slice none 0 0 := by generalize f x = q at e1; cases e1; rfl
    have := Lib.run_unsafeSliceData_nil (P := P) w at' o.type 0 0
    refine ⟨_, .pointer none, w, s, ?_, .inl rfl, Inj.le_refl s, hr, .nilptr⟩
    simp only [execOp, hop, resolve, Sem.run_bind, Sem.run_pure, Result.andThen_ok, invoke, builtin, List.map_toArray, List.map_cons, List.map_nil, q1]
    rw [this]; rfl
theorem Rel.freeze {G : Nat} {base : Nat → Prop} {w0 : World} {s : Inj} {w : World} (hr : Rel G base w0 s aw w) {b : Nat} {B : Blk} {e : Ent} (hB : aw.m b = some B) (hrw : B.rw = true) (he : s b = some e) (k n : Nat) :
    Rel G base w0 s (aw.kill b) (w.freeze ⟨e.cb, k, none⟩ n) := by
  have hk := hr.kill b
  obtain ⟨e', cs, fz, g1, g2, g3, g4, g5, g6, g7⟩ := hr.blk b B hB
  rw [he] at g1; obtain rfl := Option.some.inj g1
  obtain ⟨g8, _⟩ := g7 hrw
  have hheap : ∀ j, j ≠ e.cb → (w.freeze ⟨e.cb, k, none⟩ n).heap[j]? = w.heap[j]? := by
    intro j hj
    unfold World.freeze
    split
    · rfl
    · simp only [Array.getElem?_modify]
      rw [if_neg (fun h => hj h.symm)]
  have hsz : (w.freeze ⟨e.cb, k, none⟩ n).heap.size = w.heap.size := by
    unfold World.freeze
    split
    · rfl
    · simp
  refine ⟨hk.fresh, hk.mfresh, ?_, hk.sep, by rw [hsz]; exact hk.hbase, hk.glob, hk.below.trans ?_, hk.maps.to rfl (Nat.le_refl _) fun j xs ck hj => by
    rw [hheap j (fun e' => by subst e'; rw [g3] at hj; cases hj)]
    exact hj⟩
  rotate_left
  · refine ⟨?_, ?_, ?_, by rw [hsz]; exact Nat.le_refl _, fun k hk => hheap k (fun e => g8 (e ▸ hk)), fun k o ho hn => ?_⟩
    · unfold World.freeze; split <;> rfl
    · unfold World.freeze; split <;> rfl
    · unfold World.freeze; split <;> rfl
    · rw [hheap k (fun e => ?_)]
      · exact ho
      · subst e
        rw [g3] at ho
        obtain rfl := Option.some.inj ho
        cases hn
  intro c C hC
  have hC' : aw.m c = some C ∧ c ≠ b := by
    simp only [AW.kill] at hC
    split at hC
    · simp at hC
    · rename_i h; exact ⟨hC, h⟩
  obtain ⟨e2, cs2, fz2, k1, k2, k3, k4, k5, k6, k7⟩ := hk.blk c C hC
  have hne : e.cb ≠ e2.cb := hr.sep b c B C e e2 (fun h => hC'.2 h.symm) hB hC'.1 he k1 hrw
  exact ⟨e2, cs2, fz2, k1, k2, by rw [hheap _ (fun h => hne h.symm)]; exact k3, k4, k5, k6, k7⟩
theorem bytesV_inv {s : Inj} : ∀ {l : List UInt8} {cs : List Value}, VRs s (bytesV l) cs → cs = bytesV l
  | [], _, .nil => rfl
  | a :: l, _, .cons h t => by
    have := bytesV_inv (l := l) t
    cases h; subst this; rfl
theorem ov_ustr {E pt it : TypeId} {s : ByteArray} {n : Int} (hop : o.op = .call { callee := .builtin .unsafeString, args := #[x, y], argTypes := #[pt, it] }) (hx : okOpd P.globals.size x = true) (hy : okOpd P.globals.size y = true)
    (hu : P.underlying pt = some (.pointer E)) (hc1 : P.cellsOf E = 1) (h1 : ρ.eval x = p) (h2 : ρ.eval y = .int .i64 n)
    (h : (n = 0 ∧ (∃ q, p = .pointer q) ∧ s = ByteArray.empty ∧ aw' = aw) ∨
    (∃ (l : List UInt8) (b : Nat) (B : Blk), l ≠ [] ∧ n = (l.length : Int) ∧ l.length < 2 ^ 62 ∧ p = .pointer (some ⟨b, 0, none⟩) ∧ aw.getN b 0 l.length = some (bytesV l) ∧ aw.m b = some B ∧ B.rw = true ∧ B.elem = E ∧ s = ⟨l.toArray⟩ ∧ aw' = aw.kill b)) :
    OpV P o ρ aw (.string s) aw' := by
  intro base w0 σ f w hr hf
  have e1 := hf x hx; rw [h1] at e1
  have e2 := hf y hy; rw [h2] at e2
  have q2 := e2.int_inv
  rcases h with ⟨rfl, ⟨q, rfl⟩, rfl, rfl⟩ | ⟨l, b, B, hl, rfl, hl2, rfl, hg, hB, hrw, hE, rfl, rfl⟩
  · obtain ⟨q', q1⟩ : ∃ q', f x = .pointer q' := by generalize f x = z at e1; cases e1 <;> exact ⟨_, rfl⟩
    have := Lib.run_unsafeString_none (P := P) w pt it o.type q'
    refine ⟨_, .string ByteArray.empty, w, σ, ?_, .inl rfl, Inj.le_refl σ, hr, .string _⟩
    simp only [execOp, hop, resolve, Sem.run_bind, Sem.run_pure, Result.andThen_ok, invoke, builtin, List.map_toArray, List.map_cons, List.map_nil, q1, q2]
    rw [this]; rfl
  · obtain ⟨e, he, q1⟩ := e1.ptr_inv
    obtain ⟨e', cs, fz, g1, g2, g3, g4, g5, g6, g7⟩ := hr.blk b B hB
    rw [he] at g1; obtain rfl := Option.some.inj g1
    have ho := g2.2.1 hrw
    obtain ⟨cs', k1, k2⟩ := hr.cellsN he hg
    have k3 := bytesV_inv k1
    have hll : B.cells.length ≥ l.length := by
      have hlast : aw.get b (l.length - 1) ≠ none := by
        intro hn
        obtain ⟨u, hu1⟩ : ∃ u, (bytesV l)[l.length - 1]? = some u := by
          have : l.length - 1 < (bytesV l).length := by
            have := List.length_pos_iff.2 hl
            simp [bytesV]; omega
          exact ⟨_, List.getElem?_eq_getElem this⟩
        have h9 := AW.getN_get hg hu1
        simp only [Nat.zero_add] at h9
        rw [hn] at h9; simp at h9
      simp only [AW.get, hB, Option.bind_some, ne_eq] at hlast
      have hlt : l.length - 1 < B.cells.length := by
        rcases Nat.lt_or_ge (l.length - 1) B.cells.length with h' | h'
        · exact h'
        · exact absurd (List.getElem?_eq_none h') hlast
      have := List.length_pos_iff.2 hl
      omega
    have hrun := Lib.run_unsafeString_row (P := P) w pt it o.type E hu hc1 e.cb cs.size (by simp [World.shape?, g3, hE]) l hl (by omega) (by omega) (fun j z hz => by
      have := k2 j (.int .u8 z.toNat) (by rw [k3]; simp [bytesV, hz])
      rw [Addr.add_lit]
      simpa [ho] using this)
    refine ⟨_, .string ⟨l.toArray⟩, _, σ, ?_, .inl rfl, Inj.le_refl σ, hr.freeze hB hrw he 0 l.length, .string _⟩
    simp only [execOp, hop, resolve, Sem.run_bind, Sem.run_pure, Result.andThen_ok, invoke, builtin, List.map_toArray, List.map_cons, List.map_nil, q1, q2, ho, Nat.add_zero]
    rw [hrun]; rfl
end
end Go.Am
