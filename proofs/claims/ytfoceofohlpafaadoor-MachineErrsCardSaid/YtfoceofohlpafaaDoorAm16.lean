/- Arguments of any plain type: what a call is handed, as abstract memory that is read only. -/
import Derived.Test.YtfoceofohlpafaaDoorAm15
import Derived.ChangeOld
import Derived.Carry
import GoSem.ClaimJoined
set_option linter.unusedSimpArgs false
set_option linter.unusedVariables false
set_option linter.unusedSectionVars false
namespace Go.Am
open Go Go.RowKit
variable [SymE]

mutual
/-- cells that read as a value of the type: all that they lead to is read only -/
inductive Rd (P : Program) (aw : AW) : TypeId → List Value → Prop
  | bool {t : TypeId} (h : P.underlying t = some .bool) (b : Bool) : Rd P aw t [.bool b]
  | int {t : TypeId} {k : IntKind} {n : Int} (h : P.underlying t = some (.int k)) (hw : k.min ≤ n ∧ n ≤ k.max) : Rd P aw t [.int k n]
  | str {t : TypeId} (h : P.underlying t = some .string) (s : ByteArray) (hs : s.size ≤ reachBytes) : Rd P aw t [.string s]
  | nilptr {t e : TypeId} (h : P.underlying t = some (.pointer e)) : Rd P aw t [.pointer none]
  | ptr {t e el : TypeId} {b : Nat} {cells : List Value} (h : P.underlying t = some (.pointer e)) (hb : b < aw.next) (hm : aw.m b = some ⟨cells, el, P.cellsOf e, false, 0⟩) (hr : Rd P aw e cells) : Rd P aw t [.pointer (some ⟨b, 0, none⟩)]
  | nilslice {t e : TypeId} (h : P.underlying t = some (.slice e)) : Rd P aw t [.slice none 0 0]
  | empslice {t e : TypeId} {b : Nat} (h : P.underlying t = some (.slice e)) (hb : b < aw.next) : Rd P aw t [.slice (some ⟨b, 0, none⟩) 0 UNK]
  | slice {t e el : TypeId} {b len : Nat} {cells : List Value} (h : P.underlying t = some (.slice e)) (hb : b < aw.next) (hm : aw.m b = some ⟨cells, el, P.cellsOf e, false, 0⟩) (hn : cells.length = len * P.cellsOf e)
      (hl : len * P.bytesOf e ≤ reachBytes) (hr : RdL P aw (List.replicate len e) cells) : Rd P aw t [.slice (some ⟨b, 0, none⟩) len UNK]
  | struct {t : TypeId} {fs : Array Field} {cs : List Value} (h : P.underlying t = some (.struct fs)) (hr : RdL P aw (fs.toList.map (·.type)) cs) : Rd P aw t cs
  | array {t e : TypeId} {n : Nat} {cs : List Value} (h : P.underlying t = some (.array n e)) (hr : RdL P aw (List.replicate n e) cs) : Rd P aw t cs
inductive RdL (P : Program) (aw : AW) : List TypeId → List Value → Prop
  | nil : RdL P aw [] []
  | cons {t : TypeId} {ts : List TypeId} {c1 c2 : List Value} (h : Rd P aw t c1) (k : RdL P aw ts c2) : RdL P aw (t :: ts) (c1 ++ c2)
end
mutual
theorem Rd.ext {P : Program} {aw aw' : AW} (he : Ext aw aw') : ∀ {t : TypeId} {cs : List Value}, Rd P aw t cs → Rd P aw' t cs
  | _, _, .bool h b => .bool h b
  | _, _, .int h hw => .int h hw
  | _, _, .str h s hs => .str h s hs
  | _, _, .nilptr h => .nilptr h
  | _, _, .ptr h hb hm hr => .ptr h (Nat.lt_of_lt_of_le hb he.next) (he.get hb hm) (hr.ext he)
  | _, _, .nilslice h => .nilslice h
  | _, _, .empslice h hb => .empslice h (Nat.lt_of_lt_of_le hb he.next)
  | _, _, .slice h hb hm hn hl hr => .slice h (Nat.lt_of_lt_of_le hb he.next) (he.get hb hm) hn hl (hr.ext he)
  | _, _, .struct h hr => .struct h (hr.ext he)
  | _, _, .array h hr => .array h (hr.ext he)
theorem RdL.ext {P : Program} {aw aw' : AW} (he : Ext aw aw') : ∀ {ts : List TypeId} {cs : List Value}, RdL P aw ts cs → RdL P aw' ts cs
  | _, _, .nil => .nil
  | _, _, .cons h k => .cons (h.ext he) (k.ext he)
end

/-- one block more, that is read only -/
def AW.more (aw : AW) (B : Blk) : AW := ⟨fun c => if c = aw.next then some B else aw.m c, aw.next + 1⟩
theorem AW.more_ext (aw : AW) (B : Blk) : Ext aw (aw.more B) := ⟨Nat.le_succ _, fun b hb => by simp [AW.more, Nat.ne_of_lt hb]⟩
theorem AW.more_ro {aw : AW} {B : Blk} (h : aw.ro) (hB : B.rw = false) : (aw.more B).ro := by
  intro c C hc
  simp only [AW.more] at hc
  split at hc
  · obtain rfl := Option.some.inj hc; exact hB
  · exact h c C hc
theorem Rel.more {G base : Nat} {w0 w : World} {s : Inj} {aw : AW} (h : Rel G base w0 s aw w) (hro : aw.ro) {e : Ent} {cells : List Value} {elem : Nat} {cs : Array Value} {fz : Nat × Nat}
    (hh : w.heap[e.cb]? = some (.cells cs elem fz)) (hs : cs.size = e.csize) (hl : e.off + cells.length ≤ e.csize) (h0 : 0 < e.esz)
    (hv : ∀ (i : Nat) (v : Value), cells[i]? = some v → ∃ v', cs[e.off + i]? = some v' ∧ VR s v v') :
    ∃ s', s.le s' ∧ s' aw.next = some e ∧ Rel G base w0 s' (aw.more ⟨cells, elem, e.esz, false, 0⟩) w := by
  have hle : s.le (fun b => if b = aw.next then some e else s b) := by
    intro b e' hb
    have hne : b ≠ aw.next := by
      rintro rfl
      rw [h.fresh _ (Nat.le_refl _)] at hb; simp at hb
    simpa [hne] using hb
  have hlt : ∀ b B, aw.m b = some B → b < aw.next := by
    intro b B hb
    rcases Nat.lt_or_ge b aw.next with h' | h'
    · exact h'
    · rw [h.mfresh b h'] at hb; simp at hb
  have r : Rel G base w0 (fun b => if b = aw.next then some e else s b) { aw with next := aw.next + 1 } w := by
    refine ⟨?_, ?_, ?_, ?_, h.hbase, ?_, h.below⟩
    · intro b hb
      have hb' : aw.next + 1 ≤ b := hb
      simp only [if_neg (show ¬ b = aw.next by omega)]
      exact h.fresh b (by omega)
    · intro b hb
      have hb' : aw.next + 1 ≤ b := hb
      exact h.mfresh b (by omega)
    · intro b B hb
      have := hlt b B hb
      obtain ⟨e', cs', fz', h1, h2, h3, h4, h5, h6, h7⟩ := h.blk b B hb
      exact ⟨e', cs', fz', by simpa [Nat.ne_of_lt this] using h1, h2, h3, h4, h5, fun i v hi => by
        obtain ⟨v', k1, k2⟩ := h6 i v hi
        exact ⟨v', k1, k2.mono hle⟩, h7⟩
    · intro b1 b2 B1 B2 e1 e2 hne hb1 hb2 he1 he2 hrw
      have := hro b1 B1 hb1
      rw [this] at hrw; simp at hrw
    · intro g hg
      obtain ⟨e', h1, h2, h3⟩ := h.glob g hg
      exact ⟨e', hle _ _ h1, h2, h3⟩
  have r2 := r.lay hro (b := aw.next) (e := e) (by simp) (cells := cells) (elem := elem) (esz := e.esz) hh hs hl rfl (fun h => by omega) (fun i v hi => by
    obtain ⟨v', k1, k2⟩ := hv i v hi
    exact ⟨v', k1, k2.mono hle⟩)
  exact ⟨_, hle, by simp, r2⟩

/-- these cells can be opened, whatever stands beside them -/
def Opens (P : Program) (G : Nat) (W : World) (Rdx : AW → List Value → Prop) (cs : List Value) : Prop :=
  ∀ (s : Inj) (aw : AW), Rel G W.heap.size W s aw W → aw.ro → ∃ s' aw' cs', s.le s' ∧ Ext aw aw' ∧ Rel G W.heap.size W s' aw' W ∧ aw'.ro ∧ VRs s' cs' cs ∧ Rdx aw' cs'

def tileB (P : Program) : List Field → Nat → Nat → Bool
  | [], off, tot => off == tot
  | f :: fs, off, tot => f.offset == off && tileB P fs (off + P.cellsOf f.type) tot
/-- types that are plain: bools, whole numbers, texts, pointers, slices, structs, arrays of such -/
def okTypes (P : Program) (l : List TypeId) : Bool := l.all fun t => match P.underlying t with
  | some .bool => true
  | some (.int _) => true
  | some .string => true
  | some (.pointer e) => l.contains e && decide (0 < P.cellsOf e)
  | some (.slice e) => l.contains e && decide (0 < P.cellsOf e)
  | some (.struct fs) => (fs.toList.all fun f => l.contains f.type) && tileB P fs.toList 0 (P.cellsOf t)
  | some (.array n e) => l.contains e && n * P.cellsOf e == P.cellsOf t
  | _ => false

section
variable {H : Type} {enc : TypeId × Value → H} {P : Program} {G : Nat} {W : World} {l : List TypeId}

theorem opens_plain {Rdx : AW → List Value → Prop} {v : Value} (hp : plain v = true) (h : ∀ aw, Rdx aw [v]) : Opens P G W Rdx [v] :=
  fun s aw hr hro => ⟨s, aw, [v], Inj.le_refl s, Ext.refl aw, hr, hro, .cons (VR.ofPlain hp) .nil, h aw⟩
theorem opensL_nil : Opens P G W (fun aw cs => RdL P aw [] cs) [] :=
  fun s aw hr hro => ⟨s, aw, [], Inj.le_refl s, Ext.refl aw, hr, hro, .nil, .nil⟩
theorem opensL_cons {t : TypeId} {ts : List TypeId} {c1 c2 : List Value} (h : Opens P G W (fun aw cs => Rd P aw t cs) c1) (k : Opens P G W (fun aw cs => RdL P aw ts cs) c2) :
    Opens P G W (fun aw cs => RdL P aw (t :: ts) cs) (c1 ++ c2) := by
  intro s aw hr hro
  obtain ⟨s1, aw1, d1, a1, a2, a3, a4, a5, a6⟩ := h s aw hr hro
  obtain ⟨s2, aw2, d2, b1, b2, b3, b4, b5, b6⟩ := k s1 aw1 a3 a4
  exact ⟨s2, aw2, d1 ++ d2, Inj.le_trans a1 b1, a2.trans b2, b3, b4, (a5.mono b1).append b5, .cons (a6.ext b2) b6⟩

theorem cells_at {w : World} {base : Nat} {a : Addr} {n : Nat} {c : List Value} (h : w.cells? base a n = some c) (hn : 0 < n) :
    a.spot = none ∧ ∃ cs t fz, w.heap[a.block]? = some (.cells cs t fz) ∧ a.off + n ≤ cs.size ∧ c = (cs.toList.drop a.off).take n := by
  unfold World.cells? at h
  split at h
  · have hlen := mapM_some_length h
    have hg : ∀ i, i < n → w.cell? (a.add i) = c[i]? := fun i hi => mapM_some_get h i i (by simp [hi])
    have hcl : c.length = n := by simpa using hlen
    have h0 := hg 0 hn
    rw [List.getElem?_eq_getElem (by omega)] at h0
    obtain ⟨hsp, cs, t, fz, hh, hc⟩ := cell_some h0
    obtain ⟨e1, e2⟩ := add_lit' a 0
    rw [e1] at hh
    have hin : ∀ i, i < n → cs[a.off + i]? = c[i]? := by
      intro i hi
      have h1 := hg i hi
      rw [List.getElem?_eq_getElem (by omega)] at h1 ⊢
      obtain ⟨_, cs2, t2, fz2, g1, g2⟩ := cell_some h1
      obtain ⟨f1, f2⟩ := add_lit' a i
      rw [f1, hh] at g1
      injection g1 with g1; injection g1 with g1 _ _
      rw [f2, ← g1] at g2; exact g2
    have hsz : a.off + n ≤ cs.size := by
      have := hin (n - 1) (by omega)
      rw [List.getElem?_eq_getElem (by omega)] at this
      have := (Array.getElem?_eq_some_iff.1 this).1
      omega
    refine ⟨by simpa [Addr.add] using hsp, cs, t, fz, hh, hsz, ?_⟩
    apply List.ext_getElem?
    intro i
    rcases Nat.lt_or_ge i n with hi | hi
    · rw [List.getElem?_take_of_lt hi, List.getElem?_drop, ← hin i hi]; simp
    · rw [List.getElem?_eq_none (by omega), List.getElem?_eq_none (by simp; omega)]
  · simp at h

theorem VRs.cellsIn {s : Inj} {x : List Value} {cs : Array Value} {off n : Nat} (h : VRs s x ((cs.toList.drop off).take n)) : ∀ (i : Nat) (v : Value), x[i]? = some v → ∃ v', cs[off + i]? = some v' ∧ VR s v v' := by
  intro i v hi
  obtain ⟨v', h1, h2⟩ := h.get hi
  refine ⟨v', ?_, h2⟩
  have hlt : i < n := by
    have := (List.getElem?_eq_some_iff.1 h1).1
    simp at this; omega
  rw [List.getElem?_take_of_lt hlt, List.getElem?_drop] at h1
  simpa using h1

theorem mem_weights {t : TypeId} {ts : List TypeId} {d : DataW H} {ds : List (DataW H)} (h : (DataW.weightsEach P (t :: ts) (d :: ds)).all (· ≤ reachBytes) = true) :
    (d.weights P t).all (· ≤ reachBytes) = true ∧ (DataW.weightsEach P ts ds).all (· ≤ reachBytes) = true := by
  simp only [DataW.weightsEach, List.all_append, Bool.and_eq_true] at h
  exact h
theorem weightsAll_get {e : TypeId} : ∀ {ds : List (DataW H)} {i : Nat} {d : DataW H}, (DataW.weightsAll P e ds).all (· ≤ reachBytes) = true → ds[i]? = some d → (d.weights P e).all (· ≤ reachBytes) = true
  | [], i, d, _, hi => by simp at hi
  | x :: r, 0, d, h, hi => by
    simp at hi; subst hi
    simp only [DataW.weightsAll, List.all_append, Bool.and_eq_true] at h
    exact h.1
  | x :: r, i + 1, d, h, hi => by
    simp only [DataW.weightsAll, List.all_append, Bool.and_eq_true] at h
    exact weightsAll_get h.2 (by simpa using hi)
theorem weightsEach_get : ∀ {ts : List TypeId} {ds : List (DataW H)} {i : Nat} {t : TypeId} {d : DataW H}, (DataW.weightsEach P ts ds).all (· ≤ reachBytes) = true → ts[i]? = some t → ds[i]? = some d → (d.weights P t).all (· ≤ reachBytes) = true
  | [], _, i, t, d, _, hi, _ => by simp at hi
  | _ :: _, [], i, t, d, _, _, hi => by simp at hi
  | u :: ts, x :: r, 0, t, d, h, h1, h2 => by
    simp at h1 h2; subst h1; subst h2
    exact (mem_weights h).1
  | u :: ts, x :: r, i + 1, t, d, h, h1, h2 => weightsEach_get (mem_weights h).2 (by simpa using h1) (by simpa using h2)

/-- a type's bytes -/
def bytesPos (P : Program) (l : List TypeId) : Bool := l.all fun t => decide (0 < P.bytesOf t)

theorem open_rd (hl : okTypes P l = true) : ∀ (n : Nat) (t : TypeId) (cs : List Value) (x : DataW H × List MemPlace), l.contains t = true → DataW.trod enc P W 0 (fun _ => true) true n t cs = some x →
    (x.1.weights P t).all (· ≤ reachBytes) = true → Opens P G W (fun aw c => Rd P aw t c) cs := by
  intro n
  induction n with
  | zero => intro t cs x _ h; simp [DataW.trod] at h
  | succ n ih =>
    intro t cs x ht h hw
    have hok := hl
    simp only [okTypes, List.all_eq_true] at hok
    have hok := hok t (by simpa using ht)
    split at hok
    · rename_i hu
      obtain ⟨b, rfl, rfl⟩ := DataW.trod_bool hu h
      exact opens_plain rfl fun aw => .bool hu b
    · rename_i k hu
      obtain ⟨m, rfl, rfl, hwf⟩ := DataW.trod_int hu h
      exact opens_plain rfl fun aw => .int hu (by simpa [Lit.wf] using hwf)
    · rename_i hu
      obtain ⟨s, rfl, rfl, hs⟩ := DataW.trod_string hu h
      simp only [DataW.weights, List.all_cons, List.all_nil, Bool.and_true, decide_eq_true_eq] at hw
      exact opens_plain rfl fun aw => .str hu s (by simpa using hw)
    · rename_i e hu
      simp only [Bool.and_eq_true, decide_eq_true_eq] at hok
      rcases DataW.trod_pointer hu h with ⟨rfl, rfl⟩ | ⟨a, cs', y, m, hm, rfl, rfl, hc, hy⟩
      · exact opens_plain rfl fun aw => .nilptr hu
      · obtain rfl : n = m := by omega
        simp only [DataW.weights, hu] at hw
        obtain ⟨hsp, cs, ty, fz, hh, hsz, rfl⟩ := cells_at hc hok.2
        intro s aw hr hro
        obtain ⟨s1, aw1, d1, a1, a2, a3, a4, a5, a6⟩ := ih e _ y hok.1 hy hw s aw hr hro
        have hlen := a5.length
        simp only [List.length_take, List.length_drop, Array.length_toList] at hlen
        obtain ⟨s2, b1, b2, b3⟩ := a3.more a4 (e := ⟨a.block, a.off, cs.size, P.cellsOf e⟩) (cells := d1) hh rfl (by simp only; omega) hok.2 (VRs.cellsIn a5)
        refine ⟨s2, _, _, Inj.le_trans a1 b1, a2.trans (AW.more_ext _ _), b3, AW.more_ro a4 rfl, .cons ?_ .nil, .ptr (b := aw1.next) (cells := d1) (el := ty) hu (Nat.lt_succ_self _) (by simp [AW.more]) (a6.ext (AW.more_ext _ _))⟩
        have := VR.ptr (s := s2) (b := aw1.next) (o := 0) b2
        have ha : a = ⟨a.block, a.off + 0, none⟩ := by cases a; simp_all
        rw [ha]; exact this
    · rename_i e hu
      simp only [Bool.and_eq_true, decide_eq_true_eq] at hok
      rcases DataW.trod_slice hu h with ⟨rfl, rfl⟩ | ⟨a, len, cap, elems, rest, m, hm, rfl, rfl, _, hlc, hcm, hel, hget, hrest, _⟩
      · exact opens_plain rfl fun aw => .nilslice hu
      · obtain rfl : n = m := by omega
        obtain ⟨hrl, hrest⟩ := hrest rfl
        simp only [DataW.weights, hu, List.all_cons, List.all_append, Bool.and_eq_true, decide_eq_true_eq, List.length_map] at hw
        obtain ⟨hw1, hw2, hw3⟩ := hw
        rcases Nat.eq_zero_or_pos cap with h0 | h0
        · subst h0
          obtain rfl : len = 0 := by omega
          intro s aw hr hro
          exact ⟨s, { aw with next := aw.next + 1 }, [.slice (some ⟨aw.next, 0, none⟩) 0 UNK], Inj.le_refl s, ⟨Nat.le_succ _, fun _ _ => rfl⟩, { hr with fresh := fun b hb => hr.fresh b (Nat.le_of_succ_le hb), mfresh := fun b hb => hr.mfresh b (Nat.le_of_succ_le hb) }, hro,
            .cons (.slice (Nat.le_refl _) (fun h => absurd h (Nat.lt_irrefl _)) (fun h => absurd h (Nat.lt_irrefl _))) .nil, .empslice hu (Nat.lt_succ_self _)⟩
        · -- every place is there
          have hpl : ∀ i, i < cap → ∃ c x, W.cells? 0 (a.add (i * P.cellsOf e)) (P.cellsOf e) = some c ∧ DataW.trod enc P W 0 (fun _ => true) true n e c = some x ∧ (i < len → elems[i]? = some x) := by
            intro i hi
            rcases Nat.lt_or_ge i len with h1 | h1
            · have := hget i h1
              rw [List.getElem?_eq_getElem (by omega)] at this
              simp only [Option.bind_eq_some_iff] at this
              obtain ⟨c, k1, k2⟩ := this
              exact ⟨c, _, k1, k2, fun _ => List.getElem?_eq_getElem (by omega)⟩
            · have := hrest (i - len) (by omega)
              rw [List.getElem?_eq_getElem (by omega), show len + (i - len) = i by omega] at this
              simp only [Option.bind_eq_some_iff] at this
              obtain ⟨c, k1, k2⟩ := this
              exact ⟨c, _, k1, k2, fun h => absurd h (by omega)⟩
          obtain ⟨c0, x0, k1, _, _⟩ := hpl 0 h0
          obtain ⟨hsp, cs, ty, fz, hh, hsz, _⟩ := cells_at k1 hok.2
          obtain ⟨e1, e2⟩ := add_lit' a (0 * P.cellsOf e)
          rw [e1] at hh
          have hsp : a.spot = none := by simpa [Addr.add] using hsp
          have hat : ∀ i, i < cap → ∃ x, DataW.trod enc P W 0 (fun _ => true) true n e ((cs.toList.drop (a.off + i * P.cellsOf e)).take (P.cellsOf e)) = some x ∧ (i < len → elems[i]? = some x) ∧ a.off + i * P.cellsOf e + P.cellsOf e ≤ cs.size := by
            intro i hi
            obtain ⟨c, x, g1, g2, g3⟩ := hpl i hi
            obtain ⟨_, cs2, ty2, fz2, hh2, hsz2, rfl⟩ := cells_at g1 hok.2
            obtain ⟨f1, f2⟩ := add_lit' a (i * P.cellsOf e)
            rw [f1, hh] at hh2
            injection hh2 with hh2; injection hh2 with hh2 _ _
            subst hh2
            rw [f2] at g2 hsz2
            exact ⟨x, g2, g3, hsz2⟩
          have hall : a.off + cap * P.cellsOf e ≤ cs.size := by
            obtain ⟨_, _, _, h3⟩ := hat (cap - 1) (by omega)
            have : cap * P.cellsOf e = (cap - 1) * P.cellsOf e + P.cellsOf e := by
              obtain ⟨q, rfl⟩ : ∃ q, cap = q + 1 := ⟨cap - 1, by omega⟩
              simp [Nat.add_mul]
            omega
          have hop : ∀ k i, i + k = len → Opens P G W (fun aw c => RdL P aw (List.replicate k e) c) ((cs.toList.drop (a.off + i * P.cellsOf e)).take (k * P.cellsOf e)) := by
            intro k
            induction k with
            | zero => intro i _; simp only [Nat.zero_mul, List.take_zero, List.replicate_zero]; exact opensL_nil
            | succ k ihk =>
              intro i hi
              obtain ⟨x, g1, g2, _⟩ := hat i (by omega)
              have hwx : (x.1.weights P e).all (· ≤ reachBytes) = true := weightsAll_get (i := i) hw2 (by rw [List.getElem?_map, g2 (by omega)]; rfl)
              have := opensL_cons (ih e _ x hok.1 g1 hwx) (ihk (i + 1) (by omega))
              rw [show (k + 1) * P.cellsOf e = P.cellsOf e + k * P.cellsOf e by rw [Nat.add_mul]; omega, List.take_add, List.drop_drop, show a.off + i * P.cellsOf e + P.cellsOf e = a.off + (i + 1) * P.cellsOf e by rw [Nat.add_mul]; omega]
              exact this
          intro s aw hr hro
          obtain ⟨s1, aw1, d1, a1, a2, a3, a4, a5, a6⟩ := hop len 0 (by omega) s aw hr hro
          rw [Nat.zero_mul, Nat.add_zero] at a5
          have hlen := a5.length
          have hlc' : len * P.cellsOf e ≤ cap * P.cellsOf e := Nat.mul_le_mul_right _ hlc
          simp only [List.length_take, List.length_drop, Array.length_toList] at hlen
          obtain ⟨s2, b1, b2, b3⟩ := a3.more a4 (e := ⟨a.block, a.off, cs.size, P.cellsOf e⟩) (cells := d1) hh rfl (by simp only; omega) hok.2 (VRs.cellsIn a5)
          refine ⟨s2, _, _, Inj.le_trans a1 b1, a2.trans (AW.more_ext _ _), b3, AW.more_ro a4 rfl, .cons ?_ .nil, .slice (b := aw1.next) (len := len) (cells := d1) (el := ty) hu (Nat.lt_succ_self _) (by simp [AW.more]) (by omega) (Nat.le_trans (Nat.mul_le_mul_right _ (by omega)) hw1) (a6.ext (AW.more_ext _ _))⟩
          have ha : a = ⟨a.block, a.off + 0, none⟩ := by cases a; simp_all
          rw [ha]
          exact .slice hlc (fun h => absurd h (Nat.lt_irrefl _)) fun _ => ⟨_, b2, rfl, fun _ => by simp only; omega⟩
    · rename_i fs hu
      simp only [Bool.and_eq_true, List.all_eq_true] at hok
      obtain ⟨hok1, hok2⟩ := hok
      obtain ⟨xs, m, hm, rfl, hlen, hxs, hget⟩ := DataW.trod_struct hu h
      obtain rfl : n = m := by omega
      simp only [DataW.weights, hu] at hw
      have hop : ∀ (k : List Field) (i off : Nat), fs.toList.drop i = k → tileB P k off (P.cellsOf t) = true → Opens P G W (fun aw c => RdL P aw (k.map (·.type)) c) (cs.drop off) := by
        intro k
        induction k with
        | nil =>
          intro i off _ htl
          simp only [tileB, beq_iff_eq] at htl
          rw [List.drop_eq_nil_of_le (by omega)]
          exact opensL_nil
        | cons f k ihk =>
          intro i off hd htl
          simp only [tileB, Bool.and_eq_true, beq_iff_eq] at htl
          have hi : i < fs.toList.length := by
            rcases Nat.lt_or_ge i fs.toList.length with h | h
            · exact h
            · rw [List.drop_eq_nil_of_le h] at hd; simp at hd
          rw [List.drop_eq_getElem_cons hi] at hd
          injection hd with hd1 hd2
          have hf : fs[i]? = some f := by
            rw [← hd1]
            have hi' : i < fs.size := by simpa using hi
            simp [hi']
          have hx := hget i f hf
          have hfi : i < fs.size := by simpa using hi
          rw [List.getElem?_eq_getElem (by omega)] at hx
          have hwx : ((xs[i]'(by omega)).1.weights P f.type).all (· ≤ reachBytes) = true := weightsEach_get (i := i) hw (by simp [hf]) (by rw [List.getElem?_map, List.getElem?_eq_getElem (by omega)]; rfl)
          rw [htl.1] at hx
          have hcon : l.contains f.type = true := hok1 f (by rw [← hd1]; exact List.getElem_mem hi)
          have := opensL_cons (ih f.type _ _ hcon hx hwx) (ihk (i + 1) (off + P.cellsOf f.type) hd2 htl.2)
          rw [← List.drop_drop, List.take_append_drop] at this
          exact this
      have := hop fs.toList 0 0 rfl hok2
      rw [List.drop_zero] at this
      intro s aw hr hro
      obtain ⟨s1, aw1, d1, a1, a2, a3, a4, a5, a6⟩ := this s aw hr hro
      exact ⟨s1, aw1, d1, a1, a2, a3, a4, a5, .struct hu a6⟩
    · rename_i k e hu
      simp only [Bool.and_eq_true, beq_iff_eq] at hok
      obtain ⟨xs, m, hm, rfl, hlen, hxs, hget⟩ := DataW.trod_array hu h
      obtain rfl : n = m := by omega
      simp only [DataW.weights, hu] at hw
      have hop : ∀ q i, i + q = k → Opens P G W (fun aw c => RdL P aw (List.replicate q e) c) ((cs.drop (i * P.cellsOf e)).take (q * P.cellsOf e)) := by
        intro q
        induction q with
        | zero => intro i _; simp only [Nat.zero_mul, List.take_zero, List.replicate_zero]; exact opensL_nil
        | succ q ihq =>
          intro i hi
          have hx := hget i (by omega)
          rw [List.getElem?_eq_getElem (by omega)] at hx
          have hwx : ((xs[i]'(by omega)).1.weights P e).all (· ≤ reachBytes) = true := weightsAll_get (i := i) hw (by rw [List.getElem?_map, List.getElem?_eq_getElem (by omega)]; rfl)
          have := opensL_cons (ih e _ _ hok.1 hx hwx) (ihq (i + 1) (by omega))
          rw [show (q + 1) * P.cellsOf e = P.cellsOf e + q * P.cellsOf e by rw [Nat.add_mul]; omega, List.take_add, List.drop_drop, show i * P.cellsOf e + P.cellsOf e = (i + 1) * P.cellsOf e by rw [Nat.add_mul]; omega]
          exact this
      have := hop k 0 (by omega)
      rw [Nat.zero_mul, List.drop_zero, hok.2, ← hlen, List.take_length] at this
      intro s aw hr hro
      obtain ⟨s1, aw1, d1, a1, a2, a3, a4, a5, a6⟩ := this s aw hr hro
      exact ⟨s1, aw1, d1, a1, a2, a3, a4, a5, .array hu a6⟩
    · simp at hok

/-- one argument -/
def isAggT (P : Program) (t : TypeId) : Bool := match P.underlying t with
  | some (.struct _) => true
  | some (.array _ _) => true
  | _ => false
inductive ArgIn (P : Program) (aw : AW) (t : TypeId) : Value → Prop
  | one {v : Value} (h : Rd P aw t [v]) (hn : isAggT P t = false) : ArgIn P aw t v
  | agg {cs : List Value} (h : Rd P aw t cs) (hn : isAggT P t = true) : ArgIn P aw t (.agg cs.toArray)
def ArgsIn (P : Program) (aw : AW) : List TypeId → List Value → Prop
  | [], [] => True
  | t :: ts, v :: vs => ArgIn P aw t v ∧ ArgsIn P aw ts vs
  | _, _ => False
theorem ArgIn.ext {aw aw' : AW} {t : TypeId} {v : Value} (h : ArgIn P aw t v) (he : Ext aw aw') : ArgIn P aw' t v := by
  cases h with
  | one h hn => exact .one (h.ext he) hn
  | agg h hn => exact .agg (h.ext he) hn
theorem ArgsIn.ext {aw aw' : AW} (he : Ext aw aw') : ∀ {ts : List TypeId} {vs : List Value}, ArgsIn P aw ts vs → ArgsIn P aw' ts vs
  | [], [], h => h
  | t :: ts, v :: vs, h => ⟨h.1.ext he, h.2.ext he⟩
  | [], _ :: _, h => h.elim
  | _ :: _, [], h => h.elim
theorem wide_agg {t : TypeId} {base : Nat} {v : Value} {k : Nat} (hl : okTypes P l = true) (ht : l.contains t = true) (h : Value.okWide P W .any base t v) : (isAggT P t = true ∧ ∃ cs, v = .agg cs) ∨ (isAggT P t = false ∧ v.cells = #[v]) := by
  have hok := hl
  simp only [okTypes, List.all_eq_true] at hok
  have hok := hok t (by simpa using ht)
  split at hok
  · rename_i hu; obtain ⟨b, rfl⟩ := WideShapes.okWide_bool hu h; exact .inr ⟨by simp [isAggT, hu], rfl⟩
  · rename_i k hu; obtain ⟨b, rfl⟩ := WideShapes.okWide_int hu h; exact .inr ⟨by simp [isAggT, hu], rfl⟩
  · rename_i hu; obtain ⟨b, rfl⟩ := WideShapes.okWide_string hu h; exact .inr ⟨by simp [isAggT, hu], rfl⟩
  · rename_i e hu; obtain ⟨b, rfl⟩ := WideShapes.okWide_pointer hu h; exact .inr ⟨by simp [isAggT, hu], rfl⟩
  · rename_i e hu; obtain ⟨a, b, c, rfl⟩ := WideShapes.okWide_slice hu h; exact .inr ⟨by simp [isAggT, hu], rfl⟩
  · rename_i fs hu; obtain ⟨cs, rfl, _⟩ := WideShapes.okWide_struct hu h; exact .inl ⟨by simp [isAggT, hu], _, rfl⟩
  · rename_i n e hu
    simp only [Value.okWide, hu] at h
    obtain ⟨cs, rfl, _⟩ := h; exact .inl ⟨by simp [isAggT, hu], _, rfl⟩
  · simp at hok
theorem open_args (hl : okTypes P l = true) : ∀ (ts : List TypeId) (vs : List Value) (ds : List (DataW H)) (ps : List MemPlace), (ts.all fun t => l.contains t) = true → DataW.TrodAll enc P W 0 (fun _ => true) true ts vs ds ps →
    (DataW.weightsEach P ts ds).all (· ≤ reachBytes) = true → (∀ (j : Nat) t v, ts[j]? = some t → vs[j]? = some v → ∃ base, Value.okWide P W .any base t v) → ∀ (s : Inj) (aw : AW), Rel G W.heap.size W s aw W → aw.ro →
    ∃ s' aw' vs', s.le s' ∧ Ext aw aw' ∧ Rel G W.heap.size W s' aw' W ∧ aw'.ro ∧ VRs s' vs' vs ∧ ArgsIn P aw' ts vs'
  | [], [], [], _, _, _, _, _, s, aw, hr, hro => ⟨s, aw, [], Inj.le_refl s, Ext.refl aw, hr, hro, .nil, trivial⟩
  | t :: ts, v :: vs, d :: ds, _, hc, ⟨p, q, ⟨m, hm⟩, hq, _⟩, hw, hv, s, aw, hr, hro => by
    simp only [List.all_cons, Bool.and_eq_true] at hc
    obtain ⟨hw1, hw2⟩ := mem_weights hw
    obtain ⟨s1, aw1, c1, a1, a2, a3, a4, a5, a6⟩ := open_rd hl m t _ _ hc.1 hm hw1 s aw hr hro
    obtain ⟨s2, aw2, vs', b1, b2, b3, b4, b5, b6⟩ := open_args hl ts vs ds q hc.2 hq hw2 (fun j t v h1 h2 => hv (j + 1) t v (by simpa using h1) (by simpa using h2)) s1 aw1 a3 a4
    obtain ⟨base, hbase⟩ := hv 0 t v rfl rfl
    rcases wide_agg (k := 0) hl hc.1 hbase with ⟨hn, cs, rfl⟩ | ⟨hn, hcl⟩
    · refine ⟨s2, aw2, .agg c1.toArray :: vs', Inj.le_trans a1 b1, a2.trans b2, b3, b4, .cons (.agg ?_) b5, ⟨.agg (a6.ext b2) hn, b6⟩⟩
      exact a5.mono b1
    · rw [hcl] at a5
      generalize hc1 : c1 = c1' at a5
      cases a5 with
      | cons h k =>
        rename_i x xs
        cases k
        subst hc1
        refine ⟨s2, aw2, x :: vs', Inj.le_trans a1 b1, a2.trans b2, b3, b4, .cons (h.mono b1) b5, ⟨.one (a6.ext b2) hn, b6⟩⟩
  | [], _ :: _, _, _, _, h, _, _, _, _, _, _ => by cases h
  | [], [], _ :: _, _, _, h, _, _, _, _, _, _ => by cases h
  | _ :: _, [], _, _, _, h, _, _, _, _, _, _ => by cases h
  | _ :: _, _ :: _, [], _, _, h, _, _, _, _, _, _ => by cases h

/-- what came in reads on, behind a call that wrote nothing that was there -/
theorem args_again (hl : laidOutB P = true) {W' : World} (hb : Below W.heap.size W W') : ∀ {ts : List TypeId} {vs : List Value} {ds : List (DataW H)} {ps : List MemPlace}, (∀ t ∈ ts, P.readableRec t = true ∧ t < P.types.size) →
    DataW.TrodAll enc P W 0 (fun _ => true) true ts vs ds ps → DataW.TrodAll enc P W' 0 (fun b => decide (b < W.heap.size)) true ts vs ds ps
  | [], [], [], _, _, h => h
  | t :: ts, v :: vs, d :: ds, _, hr, ⟨p, q, hm, hq, he⟩ => by
    refine ⟨p, q, Below.trod hl (hr t (by simp)).1 (hr t (by simp)).2 hm hb ?_, args_again hl hb (fun t ht => hr t (by simp [ht])) hq, he⟩
    obtain ⟨m, hm⟩ := hm
    exact DataW.trod_lt m _ _ _ hm
  | [], _ :: _, _, _, _, h => by cases h
  | [], [], _ :: _, _, _, h => by cases h
  | _ :: _, [], _, _, _, h => by cases h
  | _ :: _, _ :: _, [], _, _, h => by cases h
end

/-! what a reading says, by the type -/
section
variable {P : Program} {aw : AW} {t e : TypeId} {cs : List Value}
theorem Rd.inv_bool (hu : P.underlying t = some .bool) (h : Rd P aw t cs) : ∃ b, cs = [.bool b] := by
  cases h with
  | bool h b => exact ⟨_, rfl⟩
  | int h => rw [hu] at h; cases h
  | str h => rw [hu] at h; cases h
  | nilptr h => rw [hu] at h; cases h
  | ptr h => rw [hu] at h; cases h
  | struct h => rw [hu] at h; cases h
  | array h => rw [hu] at h; cases h
  | nilslice h => rw [hu] at h; cases h
  | empslice h => rw [hu] at h; cases h
  | slice h => rw [hu] at h; cases h
theorem Rd.inv_int {k : IntKind} (hu : P.underlying t = some (.int k)) (h : Rd P aw t cs) : ∃ n, cs = [.int k n] ∧ k.min ≤ n ∧ n ≤ k.max := by
  cases h with
  | int h hw => rw [hu] at h; cases h; exact ⟨_, rfl, hw⟩
  | bool h => rw [hu] at h; cases h
  | str h => rw [hu] at h; cases h
  | nilptr h => rw [hu] at h; cases h
  | ptr h => rw [hu] at h; cases h
  | struct h => rw [hu] at h; cases h
  | array h => rw [hu] at h; cases h
  | nilslice h => rw [hu] at h; cases h
  | empslice h => rw [hu] at h; cases h
  | slice h => rw [hu] at h; cases h
theorem Rd.inv_str (hu : P.underlying t = some .string) (h : Rd P aw t cs) : ∃ s : ByteArray, cs = [.string s] ∧ s.size ≤ reachBytes := by
  cases h with
  | str h s hs => exact ⟨_, rfl, hs⟩
  | bool h => rw [hu] at h; cases h
  | int h => rw [hu] at h; cases h
  | nilptr h => rw [hu] at h; cases h
  | ptr h => rw [hu] at h; cases h
  | struct h => rw [hu] at h; cases h
  | array h => rw [hu] at h; cases h
  | nilslice h => rw [hu] at h; cases h
  | empslice h => rw [hu] at h; cases h
  | slice h => rw [hu] at h; cases h
theorem Rd.inv_ptr (hu : P.underlying t = some (.pointer e)) (h : Rd P aw t cs) : cs = [.pointer none] ∨ ∃ b el cells, cs = [.pointer (some ⟨b, 0, none⟩)] ∧ b < aw.next ∧ aw.m b = some ⟨cells, el, P.cellsOf e, false, 0⟩ ∧ Rd P aw e cells := by
  cases h with
  | nilptr h => exact .inl rfl
  | ptr h hb hm hr => rw [hu] at h; cases h; exact .inr ⟨_, _, _, rfl, hb, hm, hr⟩
  | bool h => rw [hu] at h; cases h
  | int h => rw [hu] at h; cases h
  | str h => rw [hu] at h; cases h
  | struct h => rw [hu] at h; cases h
  | array h => rw [hu] at h; cases h
  | nilslice h => rw [hu] at h; cases h
  | empslice h => rw [hu] at h; cases h
  | slice h => rw [hu] at h; cases h
theorem Rd.inv_slice (hu : P.underlying t = some (.slice e)) (h : Rd P aw t cs) : cs = [.slice none 0 0] ∨ (∃ b, cs = [.slice (some ⟨b, 0, none⟩) 0 UNK] ∧ b < aw.next) ∨
    ∃ b len el cells, cs = [.slice (some ⟨b, 0, none⟩) len UNK] ∧ b < aw.next ∧ aw.m b = some ⟨cells, el, P.cellsOf e, false, 0⟩ ∧ cells.length = len * P.cellsOf e ∧ len * P.bytesOf e ≤ reachBytes ∧ RdL P aw (List.replicate len e) cells := by
  cases h with
  | nilslice h => exact .inl rfl
  | empslice h hb => exact .inr (.inl ⟨_, rfl, hb⟩)
  | slice h hb hm hn hl hr => rw [hu] at h; cases h; exact .inr (.inr ⟨_, _, _, _, rfl, hb, hm, hn, hl, hr⟩)
  | bool h => rw [hu] at h; cases h
  | int h => rw [hu] at h; cases h
  | str h => rw [hu] at h; cases h
  | nilptr h => rw [hu] at h; cases h
  | ptr h => rw [hu] at h; cases h
  | struct h => rw [hu] at h; cases h
  | array h => rw [hu] at h; cases h
theorem Rd.inv_struct {fs : Array Field} (hu : P.underlying t = some (.struct fs)) (h : Rd P aw t cs) : RdL P aw (fs.toList.map (·.type)) cs := by
  cases h with
  | struct h hr => rw [hu] at h; cases h; exact hr
  | bool h => rw [hu] at h; cases h
  | int h => rw [hu] at h; cases h
  | str h => rw [hu] at h; cases h
  | nilptr h => rw [hu] at h; cases h
  | ptr h => rw [hu] at h; cases h
  | array h => rw [hu] at h; cases h
  | nilslice h => rw [hu] at h; cases h
  | empslice h => rw [hu] at h; cases h
  | slice h => rw [hu] at h; cases h
theorem Rd.inv_array {n : Nat} (hu : P.underlying t = some (.array n e)) (h : Rd P aw t cs) : RdL P aw (List.replicate n e) cs := by
  cases h with
  | array h hr => rw [hu] at h; cases h; exact hr
  | bool h => rw [hu] at h; cases h
  | int h => rw [hu] at h; cases h
  | str h => rw [hu] at h; cases h
  | nilptr h => rw [hu] at h; cases h
  | ptr h => rw [hu] at h; cases h
  | struct h => rw [hu] at h; cases h
  | nilslice h => rw [hu] at h; cases h
  | empslice h => rw [hu] at h; cases h
  | slice h => rw [hu] at h; cases h
theorem RdL.inv_cons {ts : List TypeId} (h : RdL P aw (t :: ts) cs) : ∃ c1 c2, cs = c1 ++ c2 ∧ Rd P aw t c1 ∧ RdL P aw ts c2 := by
  cases h with
  | cons h k => exact ⟨_, _, rfl, h, k⟩
theorem RdL.inv_nil (h : RdL P aw [] cs) : cs = [] := by cases h; rfl
theorem rdl_bytes (hu : P.underlying e = some (.int .u8)) : ∀ {n : Nat} {cells : List Value}, RdL P aw (List.replicate n e) cells → ∃ l : List UInt8, cells = bytesV l ∧ l.length = n
  | 0, cells, h => ⟨[], by rw [h.inv_nil]; rfl, rfl⟩
  | n + 1, cells, h => by
    obtain ⟨c1, c2, rfl, h1, h2⟩ := RdL.inv_cons (t := e) (ts := List.replicate n e) h
    obtain ⟨l, rfl, hl⟩ := rdl_bytes hu h2
    obtain ⟨m, rfl, hm1, hm2⟩ := h1.inv_int hu
    have m1 : IntKind.u8.min = 0 := rfl
    have m2 : IntKind.u8.max = 255 := rfl
    refine ⟨m.toNat.toUInt8 :: l, ?_, by simp [hl]⟩
    have : (m.toNat.toUInt8.toNat : Int) = m := by
      simp [Nat.toUInt8, UInt8.ofNat, UInt8.toNat]
      omega
    simp only [bytesV, List.map_cons, List.cons_append, List.nil_append, this]
/-- bytes that came in: the block that holds them -/
inductive BytesAt (aw : AW) : Value → List UInt8 → Prop
  | nil : BytesAt aw (.slice none 0 0) []
  | emp {b : Nat} (hb : b < aw.next) : BytesAt aw (.slice (some ⟨b, 0, none⟩) 0 UNK) []
  | at {b el : Nat} {l : List UInt8} (hb : b < aw.next) (hm : aw.m b = some ⟨bytesV l, el, 1, false, 0⟩) : BytesAt aw (.slice (some ⟨b, 0, none⟩) l.length UNK) l
theorem BytesAt.in {v : Value} {l : List UInt8} (h : BytesAt aw v l) : BytesIn aw v l := by
  cases h with
  | nil => exact .inl ⟨rfl, rfl⟩
  | emp hb => exact .inr ⟨_, rfl, hb, rfl⟩
  | «at» hb hm =>
    refine .inr ⟨_, rfl, hb, ?_⟩
    have := getN_whole hm
    simpa [bytesV] using this
theorem BytesAt.ext {aw' : AW} {v : Value} {l : List UInt8} (h : BytesAt aw v l) (he : Ext aw aw') : BytesAt aw' v l := by
  cases h with
  | nil => exact .nil
  | emp hb => exact .emp (Nat.lt_of_lt_of_le hb he.next)
  | «at» hb hm => exact .at (Nat.lt_of_lt_of_le hb he.next) (he.get hb hm)
theorem BytesAt.src {v : Value} {l : List UInt8} (h : BytesAt aw v l) : Src aw 1 v l.length (bytesV l) := by
  cases h with
  | nil => exact .nil
  | emp hb => exact .slice rfl
  | «at» hb hm =>
    refine .slice ?_
    have := getN_whole hm
    simpa [bytesV] using this
theorem BytesAt.len {v : Value} {l : List UInt8} (h : BytesAt aw v l) : ∃ q c, v = .slice q l.length c := by
  cases h with
  | nil => exact ⟨_, _, rfl⟩
  | emp hb => exact ⟨_, _, rfl⟩
  | «at» hb hm => exact ⟨_, _, rfl⟩
theorem BytesAt.get {v : Value} {l : List UInt8} (h : BytesAt aw v l) {i : Nat} {x : UInt8} (hi : l[i]? = some x) : ∃ b, v = .slice (some ⟨b, 0, none⟩) l.length UNK ∧ (∃ B, aw.m b = some B ∧ B.esz = 1) ∧ aw.get b (0 + i * 1) = some (.int .u8 (bn x)) := by
  cases h with
  | nil => simp at hi
  | emp hb => simp at hi
  | «at» hb hm => exact ⟨_, rfl, ⟨_, hm, rfl⟩, by simp [AW.get, hm, bytesV, hi]⟩
theorem cutV_i {size b i l lo hi : Nat} {n m : Int} {K : Value → Prop} (hn : n = (lo : Int)) (hm : m = (hi : Int)) (h1 : lo ≤ hi) (h2 : hi ≤ l) (hB : ∃ B, aw.m b = some B ∧ B.esz = size) (h : K (.slice (some ⟨b, i + lo * size, none⟩) (hi - lo) UNK)) :
    cutV aw size (.slice (some ⟨b, i, none⟩) l UNK) n m K := by
  subst hn; subst hm
  exact ⟨_, .some h1 (by rw [if_neg (Nat.lt_irrefl _)]; exact h2) (fun _ => hB), h⟩
theorem toS_i {v : Value} {l : List UInt8} {n : Nat} {K : ByteArray → Prop} (h : Src aw 1 v n (bytesV l)) (hv : ∃ q m c, v = .slice q m c) (hK : K (mkB l)) : toS aw v K := ⟨l, n, _, h, hv, rfl, hK⟩
/-- one cell as a part -/
theorem src_one {b i c : Nat} {x : Value} (h : aw.get b i = some x) : Src aw 1 (.slice (some ⟨b, i, none⟩) 1 c) 1 [x] := .slice (by
  have := AW.getN_of (aw := aw) (b := b) (cs := [x]) (i := i) (fun j u hj => by
    cases j with
    | zero => simp at hj; subst hj; exact h
    | succ j => simp at hj)
  exact this)
theorem Rd.bytes (hu : P.underlying t = some (.slice e)) (he : P.underlying e = some (.int .u8)) (hc : P.cellsOf e = 1) (hb : P.bytesOf e = 1) (h : Rd P aw t cs) : ∃ v l, cs = [v] ∧ BytesAt aw v l ∧ l.length ≤ reachBytes := by
  rcases h.inv_slice hu with rfl | ⟨b, rfl, hlt⟩ | ⟨b, len, el, cells, rfl, hlt, hm, hn, hl, hr⟩
  · exact ⟨_, [], rfl, .nil, by decide⟩
  · exact ⟨_, [], rfl, .emp hlt, by decide⟩
  · obtain ⟨l, rfl, rfl⟩ := rdl_bytes he hr
    rw [hc] at hm
    exact ⟨_, l, rfl, .at hlt hm, by rw [hb] at hl; omega⟩
theorem ArgIn.rd1 {v : Value} (h : ArgIn P aw t v) (hn : isAggT P t = false) : Rd P aw t [v] := by
  cases h with
  | one h _ => exact h
  | agg h hn' => rw [hn] at hn'; cases hn'
theorem ArgIn.rdN {v : Value} (h : ArgIn P aw t v) (hn : isAggT P t = true) : ∃ cs, v = .agg cs.toArray ∧ Rd P aw t cs := by
  cases h with
  | one h hn' => rw [hn] at hn'; cases hn'
  | agg h _ => exact ⟨_, rfl, h⟩
theorem ArgIn.int {k : IntKind} {v : Value} (hu : P.underlying t = some (.int k)) (h : ArgIn P aw t v) : ∃ n, v = .int k n ∧ k.min ≤ n ∧ n ≤ k.max := by
  obtain ⟨n, h1, h2⟩ := (h.rd1 (by simp [isAggT, hu])).inv_int hu
  exact ⟨n, by simpa using h1, h2⟩
theorem ArgIn.bool {v : Value} (hu : P.underlying t = some .bool) (h : ArgIn P aw t v) : ∃ b, v = .bool b := by
  obtain ⟨n, h1⟩ := (h.rd1 (by simp [isAggT, hu])).inv_bool hu
  exact ⟨n, by simpa using h1⟩
theorem ArgIn.str {v : Value} (hu : P.underlying t = some .string) (h : ArgIn P aw t v) : ∃ l, v = .string (mkB l) ∧ l.length ≤ reachBytes := by
  obtain ⟨s, h1, h2⟩ := (h.rd1 (by simp [isAggT, hu])).inv_str hu
  exact ⟨bl s, by rw [mkB_bl]; simpa using h1, h2⟩
theorem ArgIn.byte {v : Value} (hu : P.underlying t = some (.int .u8)) (h : ArgIn P aw t v) : ∃ b : UInt8, v = .int .u8 (bn b) := by
  obtain ⟨m, rfl, hm1, hm2⟩ := h.int hu
  have m1 : IntKind.u8.min = 0 := rfl
  have m2 : IntKind.u8.max = 255 := rfl
  have : (m.toNat.toUInt8.toNat : Int) = m := by
    simp [Nat.toUInt8, UInt8.ofNat, UInt8.toNat]
    omega
  exact ⟨m.toNat.toUInt8, by rw [show bn m.toNat.toUInt8 = m from this]⟩
theorem ArgIn.bytes {v : Value} (hu : P.underlying t = some (.slice e)) (he : P.underlying e = some (.int .u8)) (hc : P.cellsOf e = 1) (hb : P.bytesOf e = 1) (h : ArgIn P aw t v) : ∃ l, BytesAt aw v l ∧ l.length ≤ reachBytes := by
  obtain ⟨u, l, h1, h2, h3⟩ := (h.rd1 (by simp [isAggT, hu])).bytes hu he hc hb
  obtain rfl : v = u := by simpa using h1
  exact ⟨l, h2, h3⟩
theorem ArgsIn.cons {ts : List TypeId} {vs : List Value} (h : ArgsIn P aw (t :: ts) vs) : ∃ v r, vs = v :: r ∧ ArgIn P aw t v ∧ ArgsIn P aw ts r := by
  cases vs with
  | nil => exact h.elim
  | cons v r => exact ⟨v, r, rfl, h.1, h.2⟩
theorem ArgsIn.nil {vs : List Value} (h : ArgsIn P aw [] vs) : vs = [] := by
  cases vs with
  | nil => rfl
  | cons v r => exact h.elim
end
end Go.Am
