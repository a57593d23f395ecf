/- The start: a world that a call finds, as abstract memory: what is there is read only. -/
import Derived.Test.YtfoceofohlpafaaDoorAm12
import Derived.OpenShut
import Derived.ChangeArms
import Derived.ChangeSlices
set_option linter.unusedSimpArgs false
set_option linter.unusedVariables false
set_option linter.unusedSectionVars false
namespace Go.Am
open Go Go.RowKit
variable [SymE]

def csz (W : World) (g : Nat) : Nat := match W.heap[g]? with
  | some (.cells cs _ _) => cs.size
  | _ => 0
def inj0 (G : Nat) (W : World) (ents : List Ent) : Inj := fun b => if b < G then some ⟨b, 0, csz W b, 0⟩ else ents[b - G]?
theorem rel_start (G : Nat) (W : World) (ents : List Ent) : Rel G W.heap.size W (inj0 G W ents) ⟨fun _ => none, G + ents.length⟩ W where
  fresh b h := by
    have h' : G + ents.length ≤ b := h
    simp only [inj0, if_neg (show ¬ b < G by omega)]
    exact List.getElem?_eq_none (by omega)
  mfresh b h := rfl
  blk b B h := by simp at h
  sep b1 b2 B1 B2 e1 e2 hne h1 := by simp at h1
  hbase := Nat.le_refl _
  glob g h := ⟨⟨g, 0, csz W g, 0⟩, by simp [inj0, h], rfl, rfl⟩
  below := Below.refl _ _

def AW.lay (aw : AW) (b : Nat) (B : Blk) : AW := { aw with m := fun c => if c = b then some B else aw.m c }
def AW.ro (aw : AW) : Prop := ∀ c C, aw.m c = some C → C.rw = false
theorem AW.lay_ro {aw : AW} (h : aw.ro) {b : Nat} {B : Blk} (hB : B.rw = false) : (aw.lay b B).ro := by
  intro c C hc
  simp only [AW.lay] at hc
  split at hc
  · obtain rfl := Option.some.inj hc; exact hB
  · exact h c C hc
theorem AW.ro.lay_ro' {aw : AW} (h : aw.ro) {b : Nat} {B : Blk} (hB : B.rw = false) : (aw.lay b B).ro := AW.lay_ro h hB
theorem Rel.lay {G base : Nat} {w0 w : World} {s : Inj} {aw : AW} (h : Rel G base w0 s aw w) (hro : aw.ro) {b : Nat} {e : Ent} (he : s b = some e) {cells : List Value} {elem esz : Nat} {cs : Array Value} {fz : Nat × Nat}
    (hh : w.heap[e.cb]? = some (.cells cs elem fz)) (hs : cs.size = e.csize) (hl : e.off + cells.length ≤ e.csize) (hes : e.esz = esz) (h0 : esz = 0 → e.off = 0 ∧ e.csize = cells.length)
    (hv : ∀ (i : Nat) (v : Value), cells[i]? = some v → ∃ v', cs[e.off + i]? = some v' ∧ VR s v v') : Rel G base w0 s (aw.lay b ⟨cells, elem, esz, false, 0⟩) w := by
  have hb : b < aw.next := by
    rcases Nat.lt_or_ge b aw.next with h' | h'
    · exact h'
    · rw [h.fresh b h'] at he; simp at he
  refine ⟨h.fresh, ?_, ?_, ?_, h.hbase, h.glob, h.below⟩
  · intro c hc
    have hc' : aw.next ≤ c := hc
    simp only [AW.lay, if_neg (show ¬ c = b by omega)]
    exact h.mfresh c hc'
  · intro c C hc
    simp only [AW.lay] at hc
    split at hc
    · rename_i hcb; subst hcb
      obtain rfl := Option.some.inj hc
      exact ⟨e, cs, fz, he, ⟨hes, fun h => by simp at h, h0⟩, hh, hs, hl, hv, fun h => by simp at h⟩
    · exact h.blk c C hc
  · intro b1 b2 B1 B2 e1 e2 hne hb1 hb2 he1 he2 hrw
    simp only [AW.lay] at hb1
    split at hb1
    · obtain rfl := Option.some.inj hb1; simp at hrw
    · have := hro b1 B1 hb1
      rw [this] at hrw; simp at hrw

/-! what the laid variables hold -/
theorem laid_get {P : Program} {w : World} : ∀ {l : List (String × DataW Unit)} {ps : List MemPlace}, DataW.LaidVars P w l ps → ∀ n d, (n, d) ∈ l →
    ∃ g t cs fuel p, P.globalNamed n = some g ∧ (P.globals[g]?).map (·.type) = some t ∧ w.var? P n = some cs ∧ DataW.trod (fun _ => ()) P w 0 (fun _ => true) false fuel t cs.toList = some (d, p)
  | [], _, _, n, d, hm => by simp at hm
  | (n', d') :: r, _, ⟨g, t, cs, fuel, p, q, h1, h2, h3, h4, h5, _⟩, n, d, hm => by
    rcases List.mem_cons.1 hm with he | hm
    · injection he with e1 e2; subst e1; subst e2; exact ⟨g, t, cs, fuel, p, h1, h2, h3, h4⟩
    · exact laid_get h5 n d hm
theorem var_heap {P : Program} {w : World} {n : String} {g : Nat} {cs : Array Value} (hg : P.globalNamed n = some g) (hv : w.var? P n = some cs) : ∃ t fz, w.heap[g]? = some (.cells cs t fz) := by
  simp only [World.var?, hg, Option.bind_some] at hv
  split at hv
  · rename_i c t fz h
    obtain rfl := Option.some.inj hv
    exact ⟨t, fz, h⟩
  · simp at hv
def strs {H : Type} (l : List (List UInt8)) : DataW H := .agg (l.map fun s => .lit (.string s))
def strV (l : List (List UInt8)) : List Value := l.map fun s => .string ⟨s.toArray⟩
theorem strV_plain {l : List (List UInt8)} {i : Nat} {v : Value} (h : (strV l)[i]? = some v) : plain v = true := by
  simp only [strV, List.getElem?_map, Option.map_eq_some_iff] at h
  obtain ⟨s, _, rfl⟩ := h
  rfl
theorem trod_strs {H : Type} {enc : TypeId × Value → H} {P : Program} {w : World} {base : Nat} {spare : Nat → Bool} {held : Bool} {fuel : Nat} {t e n : Nat} {cs : List Value} {l : List (List UInt8)} {p : List MemPlace}
    (ht : P.underlying t = some (.array n e)) (he : P.underlying e = some .string) (hc : P.cellsOf e = 1) (hct : P.cellsOf t = n)
    (h : DataW.trod enc P w base spare held fuel t cs = some (strs l, p)) : cs = strV l := by
  obtain ⟨xs, m, _, hx, hlen, hn, hel⟩ := DataW.trod_array ht h
  simp only [Prod.mk.injEq, strs, DataW.agg.injEq] at hx
  have hl : l.length = n := by
    have := congrArg List.length hx.1
    simp at this; omega
  apply List.ext_getElem?
  intro i
  rcases Nat.lt_or_ge i n with hi | hi
  · have h1 := hel i hi
    rw [hc, Nat.mul_one] at h1
    have hi' : i < cs.length := by omega
    have h2 : (cs.drop i).take 1 = [cs[i]] := by
      rw [List.drop_eq_getElem_cons hi']; rfl
    rw [h2] at h1
    have hxi : i < xs.length := by omega
    rw [List.getElem?_eq_getElem hxi] at h1
    obtain ⟨s, e1, e2, _⟩ := DataW.trod_string he h1
    have h3 : (xs.map (·.1))[i]? = (l.map fun s => (DataW.lit (.string s) : DataW H))[i]? := by rw [hx.1]
    have hli : i < l.length := by omega
    simp only [List.getElem?_map, List.getElem?_eq_getElem hxi, List.getElem?_eq_getElem hli, Option.map_some, Option.some.injEq, e2, DataW.lit.injEq, Lit.string.injEq] at h3
    simp only [strV, List.getElem?_map, List.getElem?_eq_getElem hli, Option.map_some, List.getElem?_eq_getElem hi']
    simp only [List.cons.injEq, and_true] at e1
    rw [e1, ← h3]
  · rw [List.getElem?_eq_none (by omega), List.getElem?_eq_none (by simp [strV]; omega)]

/-- a call that answers a bool -/
theorem calls_true {P : Program} {f : FuncId} {args args' : List Value} {aw : AW} {base : Nat} {w0 w : World} {s : Inj} {sh : Bool → Value} (hsh : ∀ b, sh b = .bool b) (H : CallP P f args aw sh (fun r _ => r = true) (fun _ _ => False))
    (hr : Rel P.globals.size base w0 s aw w) (hv : VRs s args args') : Calls P f args'.toArray w (fun e w' => e = .returned (.bool true) ∧ Below base w0 w') := by
  refine (H base w0 s args' w hr hv).mono ?_
  rintro e w' ⟨s', ae, aw', _, hr', her, hq⟩
  cases her with
  | returned h =>
    obtain ⟨r, h1, rfl⟩ := hq
    subst h1
    rw [hsh] at h
    cases h
    exact ⟨rfl, hr'.below⟩
  | panicked _ => exact hq.elim
/-- bytes that came in -/
def BytesIn (aw : AW) (v : Value) (l : List UInt8) : Prop := (v = .slice none 0 0 ∧ l = []) ∨ ∃ b, v = .slice (some ⟨b, 0, none⟩) l.length UNK ∧ b < aw.next ∧ aw.getN b 0 l.length = some (bytesV l)
/-- numbers that came in as bytes -/
def IsRow (k : IntKind) (w : World) (a : Option Addr) (len cap : Nat) (zs : List Int) : Prop :=
  (a = none ∧ len = 0 ∧ cap = 0 ∧ zs = []) ∨
  ∃ x, a = some x ∧ len ≤ cap ∧ cap ≤ maxLen ∧ zs.length = cap ∧ (∀ i, i < zs.length → w.cell? (x.add i) = some (.int k (zs.getD i 0))) ∧ ∀ n ∈ zs, (Lit.int k n).wf = true
theorem cell_some {w : World} {a : Addr} {v : Value} (h : w.cell? a = some v) : a.spot = none ∧ ∃ cs t fz, w.heap[a.block]? = some (.cells cs t fz) ∧ cs[a.off]? = some v := by
  unfold World.cell? at h
  split at h
  · rename_i c t fz hh
    split at h
    · simp at h
    · rename_i hs; exact ⟨by simpa using hs, c, t, fz, hh, h⟩
  · simp at h
def bytesOf (zs : List Int) : List UInt8 := zs.map fun n => n.toNat.toUInt8
/-- the block of a slice of bytes -/
def entOf (W : World) : Option Addr → Ent
  | some a => ⟨a.block, a.off, csz W a.block, 1⟩
  | none => ⟨0, 0, 0, 1⟩
theorem add_lit' (x : Addr) (i : Nat) : (x.add i).block = x.block ∧ (x.add i).off = x.off + i := by
  unfold Addr.add
  by_cases h : i = 0
  · subst h; simp
  · simp [h]
theorem relBytes {G : Nat} {W : World} {s : Inj} {aw : AW} (hr : Rel G W.heap.size W s aw W) (hro : aw.ro) {a : Option Addr} {len cap : Nat} {zs : List Int} (hi : IsRow .u8 W a len cap zs) {b : Nat} (hb : s b = some (entOf W a)) (hbn : b < aw.next) :
    ∃ aw' v l, Rel G W.heap.size W s aw' W ∧ (∀ c, c ≠ b → aw'.m c = aw.m c) ∧ aw'.next = aw.next ∧ BytesIn aw' v l ∧ VR s v (.slice a len cap) := by
  rcases hi with ⟨rfl, rfl, rfl, rfl⟩ | ⟨x, rfl, hl, hm, hz, hc, hw⟩
  · exact ⟨aw, .slice none 0 0, [], hr, fun _ _ => rfl, rfl, .inl ⟨rfl, rfl⟩, .nilslice⟩
  have hl' : (bytesOf (zs.take len)).length = len := by simp [bytesOf]; omega
  rcases Nat.eq_zero_or_pos cap with h0 | h0
  · subst h0
    have hz0 : zs = [] := List.length_eq_zero_iff.1 hz
    have hln : len = 0 := by omega
    subst hz0; subst hln
    refine ⟨aw, .slice (some ⟨b, 0, none⟩) 0 UNK, [], hr, fun _ _ => rfl, rfl, .inr ⟨b, rfl, hbn, rfl⟩, .slice (Nat.le_refl _) (fun h => absurd h (Nat.lt_irrefl _)) (fun h => absurd h (Nat.lt_irrefl _))⟩
  · obtain ⟨hsp, cs, t, fz, hh, h1⟩ := cell_some (hc 0 (by omega))
    obtain ⟨e1, e2⟩ := add_lit' x 0
    rw [e1] at hh
    have hx : x = ⟨x.block, x.off, none⟩ := by
      have : (x.add 0).spot = x.spot := by simp [Addr.add]
      rw [this] at hsp
      cases x; simp_all
    have hcsz : csz W x.block = cs.size := by simp [csz, hh]
    have hin : ∀ i, i < zs.length → cs[x.off + i]? = some (.int .u8 (zs.getD i 0)) := by
      intro i hi
      obtain ⟨_, cs2, t2, fz2, g1, g2⟩ := cell_some (hc i hi)
      obtain ⟨f1, f2⟩ := add_lit' x i
      rw [f1, hh] at g1
      injection g1 with g1; injection g1 with g1 _ _
      rw [f2, ← g1] at g2; exact g2
    have hcap : x.off + cap ≤ cs.size := by
      have := (Array.getElem?_eq_some_iff.1 (hin (cap - 1) (by omega))).1
      omega
    have hcell : ∀ (i : Nat) (v : Value), (bytesV (bytesOf (zs.take len)))[i]? = some v → cs[x.off + i]? = some v := by
      intro i v hi
      have hil : i < len := by
        have := (List.getElem?_eq_some_iff.1 hi).1
        simpa [bytesV, hl'] using this
      have hiz : i < zs.length := by omega
      have h2 := hin i hiz
      rw [h2]
      simp only [bytesV, bytesOf, List.getElem?_map, List.map_take, List.getElem?_take_of_lt hil, List.getElem?_eq_getElem hiz, Option.map_some, Option.some.injEq] at hi
      rw [← hi]
      have hwf := hw zs[i] (List.getElem_mem hiz)
      have hgd : zs.getD i 0 = zs[i] := by simp [List.getD, hiz]
      rw [hgd]
      have hb : 0 ≤ zs[i] ∧ zs[i] ≤ 255 := by
        have hwf' : IntKind.u8.min ≤ zs[i] ∧ zs[i] ≤ IntKind.u8.max := by simpa [Lit.wf] using hwf
        have m1 : IntKind.u8.min = 0 := rfl
        have m2 : IntKind.u8.max = 255 := rfl
        omega
      obtain ⟨hb0, hb1⟩ := hb
      congr 2
      have : zs[i].toNat.toUInt8.toNat = zs[i].toNat := by
        simp [Nat.toUInt8, UInt8.ofNat, UInt8.toNat]
        omega
      rw [this]; omega
    have r := hr.lay hro (b := b) (e := entOf W (some x)) hb (cells := bytesV (bytesOf (zs.take len))) (esz := 1) hh (by simp [entOf, hcsz]) (by simp [entOf, hcsz, bytesV, hl']; omega) rfl (fun h => by simp at h) (fun i v hi => ⟨v, hcell i v hi, .ofPlain (by
      simp only [bytesV, List.getElem?_map, Option.map_eq_some_iff] at hi
      obtain ⟨c, _, rfl⟩ := hi; rfl)⟩)
    refine ⟨_, .slice (some ⟨b, 0, none⟩) len UNK, bytesOf (zs.take len), r, fun c hc => by simp [AW.lay, hc], rfl, .inr ⟨b, by rw [hl'], hbn, ?_⟩, ?_⟩
    · have := AW.getN_of (aw := aw.lay b ⟨bytesV (bytesOf (zs.take len)), t, 1, false, 0⟩) (b := b) (cs := bytesV (bytesOf (zs.take len))) (i := 0) (fun j u hj => by simp [AW.get, AW.lay, hj])
      have e : (bytesV (bytesOf (zs.take len))).length = (bytesOf (zs.take len)).length := by simp [bytesV]
      rw [e] at this; exact this
    · rw [hx]
      exact .slice hl (fun h => absurd h (Nat.lt_irrefl _)) fun _ => ⟨_, hb, by simp [entOf], fun _ => by simp [entOf, hcsz]; omega⟩
end Go.Am
