/- Rules for shallow code: how a word is met; memory that only grows. -/
import Derived.Test.YtfoceofohlpafaaDoorAm13
set_option linter.unusedSimpArgs false
set_option linter.unusedVariables false
set_option linter.unusedSectionVars false
namespace Go.Am
open Go Go.RowKit
variable [SymE]

/-! ## texts as lists of bytes -/
def mkB (l : List UInt8) : ByteArray := ⟨l.toArray⟩
def bl (a : ByteArray) : List UInt8 := a.data.toList
theorem mkB_bl (a : ByteArray) : mkB (bl a) = a := by
  obtain ⟨⟨x⟩⟩ := a; rfl
theorem bl_mkB (l : List UInt8) : bl (mkB l) = l := rfl
@[simp] theorem mkB_size (l : List UInt8) : (mkB l).size = l.length := rfl
@[simp] theorem mkB_inj {a b : List UInt8} : mkB a = mkB b ↔ a = b := ⟨fun h => by have := congrArg bl h; simpa [bl_mkB] using this, fun h => by rw [h]⟩
theorem mkB_append (a b : List UInt8) : mkB a ++ mkB b = mkB (a ++ b) := by
  apply ByteArray.ext
  apply Array.toList_inj.1
  simp [mkB]
theorem mkB_extract (l : List UInt8) (lo hi : Nat) : (mkB l).extract lo hi = mkB ((l.drop lo).take (hi - lo)) := by
  apply ByteArray.ext
  apply Array.toList_inj.1
  simp [mkB, ByteArray.data_extract]
/-- a byte's number -/
abbrev bn (b : UInt8) : Int := (b.toNat : Int)
theorem bt_mkB {l : List UInt8} {j : Nat} {b : UInt8} (h : l[j]? = some b) : bt (mkB l) (j : Int) = bn b := by
  simp [bt, mkB, bn, List.getD, h]
theorem bn_eq (a b : UInt8) : bn a = bn b ↔ a = b := by
  constructor
  · intro h
    have h : a.toNat = b.toNat := Int.ofNat.inj h
    exact UInt8.toNat_inj.1 h
  · rintro rfl; rfl

/-! ## memory that grows -/
structure Ext (aw aw' : AW) : Prop where
  next : aw.next ≤ aw'.next
  m : ∀ b, b < aw.next → aw'.m b = aw.m b
theorem Ext.refl (aw : AW) : Ext aw aw := ⟨Nat.le_refl _, fun _ _ => rfl⟩
theorem Ext.trans {a b c : AW} (h : Ext a b) (k : Ext b c) : Ext a c := ⟨Nat.le_trans h.next k.next, fun x hx => by rw [k.m x (Nat.lt_of_lt_of_le hx h.next), h.m x hx]⟩
theorem Ext.get {aw aw' : AW} (h : Ext aw aw') {b : Nat} {B : Blk} (hb : b < aw.next) (hB : aw.m b = some B) : aw'.m b = some B := by rw [h.m b hb, hB]
@[simp] theorem AW.alloc_next (aw : AW) (cs : List Value) (t e : Nat) : (aw.alloc cs t e).next = aw.next + 1 := rfl
@[simp] theorem AW.lay_next (aw : AW) (b : Nat) (B : Blk) : (aw.lay b B).next = aw.next := rfl
@[simp] theorem AW.kill_next (aw : AW) (b : Nat) : (aw.kill b).next = aw.next := rfl
@[simp] theorem AW.alloc_new (aw : AW) (cs : List Value) (t e : Nat) : (aw.alloc cs t e).m aw.next = some ⟨cs, t, e, true, 0⟩ := by simp [AW.alloc]
theorem AW.alloc_old (aw : AW) (cs : List Value) (t e : Nat) {b : Nat} (h : b ≠ aw.next) : (aw.alloc cs t e).m b = aw.m b := by simp [AW.alloc, h]
@[simp] theorem AW.lay_same (aw : AW) (b : Nat) (B : Blk) : (aw.lay b B).m b = some B := by simp [AW.lay]
theorem AW.lay_old (aw : AW) {b c : Nat} (B : Blk) (h : c ≠ b) : (aw.lay b B).m c = aw.m c := by simp [AW.lay, h]
theorem AW.kill_old (aw : AW) {b c : Nat} (h : c ≠ b) : (aw.kill b).m c = aw.m c := by simp [AW.kill, h]
theorem Ext.alloc {aw0 aw : AW} (h : Ext aw0 aw) (cs : List Value) (t e : Nat) : Ext aw0 (aw.alloc cs t e) :=
  ⟨Nat.le_succ_of_le h.next, fun b hb => by rw [AW.alloc_old _ _ _ _ (by have := h.next; omega), h.m b hb]⟩
theorem Ext.lay {aw0 aw : AW} (h : Ext aw0 aw) {b : Nat} (B : Blk) (hb : aw0.next ≤ b) : Ext aw0 (aw.lay b B) :=
  ⟨h.next, fun c hc => by rw [AW.lay_old _ _ (by omega), h.m c hc]⟩
theorem Ext.kill {aw0 aw : AW} (h : Ext aw0 aw) {b : Nat} (hb : aw0.next ≤ b) : Ext aw0 (aw.kill b) :=
  ⟨h.next, fun c hc => by rw [AW.kill_old _ (by omega), h.m c hc]⟩
theorem AW.ext' {a b : AW} (h1 : a.m = b.m) (h2 : a.next = b.next) : a = b := by cases a; cases b; simp_all
theorem setN_lay {b : Nat} : ∀ (cs : List Value) {aw : AW} {i : Nat} {B : Blk}, aw.m b = some B → aw.setN b i cs = aw.lay b { B with cells := putL B.cells i cs }
  | [], aw, i, B, h => by
    refine AW.ext' ?_ rfl
    funext c
    simp only [AW.setN, AW.lay, putL]
    by_cases hc : c = b
    · subst hc; simp [h]
    · simp [hc]
  | v :: vs, aw, i, B, h => by
    have h1 : (aw.set b i v).m b = some { B with cells := B.cells.set i v } := by simp [AW.set, h]
    have := setN_lay vs (i := i + 1) h1
    simp only [AW.setN, putL]
    rw [this]
    refine AW.ext' ?_ rfl
    funext c
    simp only [AW.lay, AW.set]
    by_cases hc : c = b
    · simp [hc]
    · simp [hc]

/-! ## how words are met -/
section
variable {aw : AW} {p v : Value} {cs : List Value} {b i j l c : Nat} {B : Blk}
theorem cnd_i {q : Bool} {A C : Prop} (h1 : q = true → A) (h2 : q = false → C) : cnd q A C := ⟨h1, h2⟩
theorem cnd_true {q : Bool} {A C : Prop} (hq : q = true) (h : A) : cnd q A C := ⟨fun _ => h, fun h' => by rw [hq] at h'; simp at h'⟩
theorem cnd_false {q : Bool} {A C : Prop} (hq : q = false) (h : C) : cnd q A C := ⟨fun h' => by (rw [hq] at h'; simp at h'), fun _ => h⟩
theorem alc_i {t e : Nat} {K : Value → AW → Prop} (h : K (.pointer (some ⟨aw.next, 0, none⟩)) (aw.alloc cs t e)) : alc aw cs t e K := ⟨_, _, rfl, rfl, h⟩
theorem alcS_i {t e n : Nat} {K : Value → AW → Prop} (h : K (.slice (some ⟨aw.next, 0, none⟩) n n) (aw.alloc cs t e)) : alcS aw cs t e n K := ⟨_, _, rfl, rfl, h⟩
theorem st_i {K : AW → Prop} (hB : aw.m b = some B) (hrw : B.rw = true) (hl : i + cs.length ≤ B.cells.length) (hf : B.fz ≤ i) (ho : cs.all one = true) (h : K (aw.lay b { B with cells := putL B.cells i cs })) : st aw (.pointer (some ⟨b, i, none⟩)) cs K :=
  ⟨b, i, _, rfl, ⟨B, hB, hrw, hl, hf⟩, ho, rfl, by rw [setN_lay cs hB]; exact h⟩
theorem get_of (hB : aw.m b = some B) : aw.get b i = B.cells[i]? := by simp [AW.get, hB]
theorem ldI_i {k : IntKind} {n : Int} {K : Int → Prop} (h1 : aw.get b i = some (.int k n)) (h : K n) : ldI k aw (.pointer (some ⟨b, i, none⟩)) K := ⟨b, i, n, rfl, h1, h⟩
theorem ldS_i {n : ByteArray} {K : ByteArray → Prop} (h1 : aw.get b i = some (.string n)) (h : K n) : ldS aw (.pointer (some ⟨b, i, none⟩)) K := ⟨b, i, n, rfl, h1, h⟩
theorem ldB_i {n : Bool} {K : Bool → Prop} (h1 : aw.get b i = some (.bool n)) (h : K n) : ldB aw (.pointer (some ⟨b, i, none⟩)) K := ⟨b, i, n, rfl, h1, h⟩
theorem ldV_i {K : Value → Prop} (h1 : aw.get b i = some v) (h : K v) : ldV aw (.pointer (some ⟨b, i, none⟩)) K := ⟨b, i, v, rfl, h1, h⟩
theorem nck_i {K : Prop} (h : K) : nck (.pointer (some ⟨b, i, none⟩)) K := ⟨⟨b, i, rfl⟩, h⟩
theorem fldA_i {off : Nat} {K : Value → Prop} (h : K (.pointer (some ⟨b, i + off, none⟩))) : fldA (.pointer (some ⟨b, i, none⟩)) off K := ⟨b, i, _, rfl, rfl, h⟩
theorem ixS_i {size : Nat} {n : Int} {K : Value → Prop} (hn : n = (j : Int)) (hj : j < l) (h : K (.pointer (some ⟨b, i + j * size, none⟩))) : ixS (.slice (some ⟨b, i, none⟩) l c) n size K :=
  ⟨b, i, l, c, _, rfl, by omega, by omega, by subst hn; rfl, h⟩
theorem slen_i {q : Option Addr} {K : Int → Prop} (h : K (l : Int)) : slen (.slice q l c) K := ⟨q, l, c, _, rfl, rfl, h⟩
theorem chr_i {s : List UInt8} {n : Int} {x : UInt8} {K : Int → Prop} (hn : n = (j : Int)) (hx : s[j]? = some x) (h : K (bn x)) : chr (mkB s) n K := by
  subst hn
  have hj : j < s.length := (List.getElem?_eq_some_iff.1 hx).1
  exact ⟨_, by omega, by simp; omega, (bt_mkB hx).symm, h⟩
theorem cutS_i {s : List UInt8} {lo hi : Int} {a d : Nat} {K : ByteArray → Prop} (hlo : lo = (a : Int)) (hhi : hi = (d : Int)) (h1 : a ≤ d) (h2 : d ≤ s.length) (h : K (mkB ((s.drop a).take (d - a)))) : cutS (mkB s) lo hi K := by
  subst hlo; subst hhi
  exact ⟨_, by omega, by omega, by simp; omega, (mkB_extract s a d).symm, h⟩
end
theorem i64_in {n : Int} (h1 : -9223372036854775808 ≤ n) (h2 : n ≤ 9223372036854775807) : IntKind.i64.wrap n = n := IntWalk.i64_in n (by omega)
end Go.Am
