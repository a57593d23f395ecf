/- The library of this claim, part 3: values alike, an abstract memory, operations, regions, an interpreter that the kernel runs. -/
import Derived.Test.YtacnonepegjooaaGreatDoorL2
import Derived.Maps.Keyed
import Derived.DeepKeys5
import Derived.RangeFuncIn
set_option linter.unusedSimpArgs false
set_option linter.unusedVariables false
set_option linter.unusedSectionVars false
namespace Go.Am
open Go Go.RowKit
variable [SymE]
def AW.newMap (aw : AW) : AW := { aw with next := aw.next + 1, mp := fun b => if b = aw.next then some [] else aw.mp b }
def AW.putMap (aw : AW) (b : Nat) (es : List (Value × Value)) : AW := { aw with mp := fun c => if c = b then some es else aw.mp c }
section
variable {G : Nat} {base : Nat → Prop} {w0 : World} {s : Inj} {aw : AW} {w : World}
theorem Rel.newMap (h : Rel G base w0 s aw w) : ∃ s', s.le s' ∧ s' aw.next = some ⟨w.heap.size, 0, 0, 0⟩ ∧ Rel G base w0 s' aw.newMap (w.alloc (.map #[] 0)) := by
  have hle : s.le (fun b => if b = aw.next then some ⟨w.heap.size, 0, 0, 0⟩ else s b) := by
    intro b e hb
    have hne : b ≠ aw.next := by
      rintro rfl
      rw [h.fresh _ (Nat.le_refl _)] at hb; simp at hb
    simpa [hne] using hb
  refine ⟨fun b => if b = aw.next then some ⟨w.heap.size, 0, 0, 0⟩ else s b, hle, by simp, ?_, ?_, ?_, ?_, ?_, ?_, h.below.alloc h.hbase _, ?_⟩
  · intro b hb
    have hb' : aw.next + 1 ≤ b := hb
    simp only [if_neg (show ¬ b = aw.next by omega)]
    exact h.fresh b (by omega)
  · intro b hb
    have hb' : aw.next + 1 ≤ b := hb
    exact h.mfresh b (by omega)
  · intro b B hb
    have hb : aw.m b = some B := hb
    have hbn : b ≠ aw.next := by rintro rfl; rw [h.mfresh _ (Nat.le_refl _)] at hb; cases hb
    obtain ⟨e, cs', fz', h1, h2, h3, h4, h5, h6, h7⟩ := h.blk b B hb
    refine ⟨e, cs', fz', by simpa [hbn] using h1, h2, ?_, h4, h5, fun i v hi => ?_, h7⟩
    · rw [Below.heap_alloc _ _ _ (Array.getElem?_eq_some_iff.1 h3).1]; exact h3
    · obtain ⟨v', k1, k2⟩ := h6 i v hi
      exact ⟨v', k1, k2.mono hle⟩
  · intro b1 b2 B1 B2 e1 e2 hne hb1 hb2 he1 he2 hrw
    have hb1 : aw.m b1 = some B1 := hb1
    have hb2 : aw.m b2 = some B2 := hb2
    have h1 : b1 ≠ aw.next := by rintro rfl; rw [h.mfresh _ (Nat.le_refl _)] at hb1; cases hb1
    have h2 : b2 ≠ aw.next := by rintro rfl; rw [h.mfresh _ (Nat.le_refl _)] at hb2; cases hb2
    simp only [if_neg h1] at he1
    simp only [if_neg h2] at he2
    exact h.sep b1 b2 B1 B2 e1 e2 hne hb1 hb2 he1 he2 hrw
  · intro k hk
    have := h.hbase k hk
    simp only [World.size_alloc]; omega
  · intro g hg
    obtain ⟨e, h1, h2, h3⟩ := h.glob g hg
    exact ⟨e, hle _ _ h1, h2, h3⟩
  · refine ⟨?_, ?_, ?_⟩
    · intro b hb
      have hb' : aw.next + 1 ≤ b := hb
      simp only [AW.newMap, if_neg (show ¬ b = aw.next by omega)]
      exact h.maps.fresh b (by omega)
    · intro b es hb
      simp only [AW.newMap] at hb
      by_cases hbn : b = aw.next
      · subst hbn
        simp only [if_true, Option.some.injEq] at hb
        subst hb
        refine ⟨⟨w.heap.size, 0, 0, 0⟩, #[], 0, by simp, ?_, fun hb => absurd (h.hbase _ hb) (Nat.lt_irrefl _), .nil⟩
        show (w.heap.push _)[w.heap.size]? = _
        simp
      · rw [if_neg hbn] at hb
        obtain ⟨e, xs, ck, h1, h2, h3, h4⟩ := h.maps.ent b es hb
        exact ⟨e, xs, ck, by simpa [hbn] using h1, map_alloc _ _ _ h2, h3, h4.mono hle⟩
    · intro b1 b2 es1 es2 e1 e2 hne hb1 hb2 he1 he2
      have lt : ∀ b es e, aw.mp b = some es → s b = some e → e.cb < w.heap.size := fun b es e hb he => by
        obtain ⟨e', xs, ck, h1, h2, _⟩ := h.maps.ent b es hb
        rw [he] at h1; obtain rfl := Option.some.inj h1
        exact (Array.getElem?_eq_some_iff.1 h2).1
      simp only [AW.newMap] at hb1 hb2
      by_cases h1 : b1 = aw.next
      · have h2 : ¬ b2 = aw.next := fun e => hne (h1.trans e.symm)
        rw [if_neg h2] at hb2
        simp only [if_neg h2] at he2
        simp only [if_pos h1, Option.some.injEq] at he1
        have := lt _ _ _ hb2 he2
        subst he1; simp only; omega
      · rw [if_neg h1] at hb1
        simp only [if_neg h1] at he1
        by_cases h2 : b2 = aw.next
        · simp only [if_pos h2, Option.some.injEq] at he2
          have := lt _ _ _ hb1 he1
          subst he2; simp only; omega
        · rw [if_neg h2] at hb2
          simp only [if_neg h2] at he2
          exact h.maps.sep b1 b2 es1 es2 e1 e2 hne hb1 hb2 he1 he2
theorem Rel.putMap (h : Rel G base w0 s aw w) {b : Nat} {e : Ent} {es es' : List (Value × Value)} {xs xs' : Array MapEntry} {ck ck' : Nat} (hb : aw.mp b = some es) (he : s b = some e) (hh : w.heap[e.cb]? = some (.map xs ck)) (hn : ¬ base e.cb) (hv : VRm s es' xs'.toList) :
    Rel G base w0 s (aw.putMap b es') { w with heap := w.heap.setIfInBounds e.cb (.map xs' ck') } := by
  have hlt := (Array.getElem?_eq_some_iff.1 hh).1
  have oth : ∀ k, k ≠ e.cb → (w.heap.setIfInBounds e.cb (.map xs' ck'))[k]? = w.heap[k]? := fun k hk => Array.getElem?_setIfInBounds_ne (fun x => hk x.symm)
  have hbn : b < aw.next := by
    rcases Nat.lt_or_ge b aw.next with h' | h'
    · exact h'
    · rw [h.maps.fresh b h'] at hb; cases hb
  refine ⟨h.fresh, h.mfresh, ?_, h.sep, fun k hk => by simpa using h.hbase k hk, h.glob, ⟨h.below.os, h.below.tape, h.below.output, by simpa using h.below.size, fun k hk => ?_, fun k o ho hc => ?_⟩, ?_⟩
  · intro c B hB
    obtain ⟨e2, cs, fz, h1, h2, h3, h4⟩ := h.blk c B hB
    refine ⟨e2, cs, fz, h1, h2, ?_, h4⟩
    show (w.heap.setIfInBounds e.cb (.map xs' ck'))[e2.cb]? = _
    rw [oth _ (fun x => by rw [x, hh] at h3; cases h3)]; exact h3
  · show (w.heap.setIfInBounds e.cb (.map xs' ck'))[k]? = _
    rw [oth k (fun x => hn (x ▸ hk))]; exact h.below.block k hk
  · have := h.below.other k o ho hc
    show (w.heap.setIfInBounds e.cb (.map xs' ck'))[k]? = _
    rw [oth k (fun x => by rw [x, hh] at this; obtain rfl := Option.some.inj this; cases hc)]; exact this
  · refine ⟨fun c hc => ?_, fun c es2 hc => ?_, fun b1 b2 es1 es2 e1 e2 hne h1 h2 k1 k2 => ?_⟩
    · have hc' : aw.next ≤ c := hc
      simp only [AW.putMap, if_neg (show ¬ c = b by omega)]
      exact h.maps.fresh c hc
    · simp only [AW.putMap] at hc
      by_cases hcb : c = b
      · subst hcb
        simp only [if_true, Option.some.injEq] at hc
        subst hc
        refine ⟨e, xs', ck', he, ?_, hn, hv⟩
        show (w.heap.setIfInBounds e.cb (.map xs' ck'))[e.cb]? = _
        rw [Array.getElem?_setIfInBounds_self_of_lt hlt]
      · rw [if_neg hcb] at hc
        obtain ⟨e2, ys, c2, h1, h2, h3, h4⟩ := h.maps.ent c es2 hc
        refine ⟨e2, ys, c2, h1, ?_, h3, h4⟩
        show (w.heap.setIfInBounds e.cb (.map xs' ck'))[e2.cb]? = _
        rw [oth _ (fun x => h.maps.sep c b es2 es e2 e hcb hc hb h1 he x)]; exact h2
    · have key : ∀ c es2, (aw.putMap b es').mp c = some es2 → ∃ es3, aw.mp c = some es3 := fun c es2 hc => by
        simp only [AW.putMap] at hc
        by_cases hcb : c = b
        · subst hcb; exact ⟨es, hb⟩
        · rw [if_neg hcb] at hc; exact ⟨es2, hc⟩
      obtain ⟨_, g1⟩ := key b1 es1 h1
      obtain ⟨_, g2⟩ := key b2 es2 h2
      exact h.maps.sep b1 b2 _ _ e1 e2 hne g1 g2 k1 k2
end
def kOf (P : Program) (k : TypeId) (v : Value) : Bool := plain v && (match keyOf P k v with | some _ => true | none => false)
theorem kOf_spec {P : Program} {k : TypeId} {v : Value} (h : kOf P k v = true) : plain v = true ∧ ∃ l, keyOf P k v = some l := by
  unfold kOf at h
  rw [Bool.and_eq_true] at h
  refine ⟨h.1, ?_⟩
  have := h.2
  split at this
  · exact ⟨_, by assumption⟩
  · cases this
def keq : Value → Value → Option Bool
  | .int j a, .int k b => some (decide (j = k) && decide (a = b))
  | .string a, .string b => some (decide (a.data.toList = b.data.toList))
  | .agg ⟨[.int j a, .int k b]⟩, .agg ⟨[.int j' a', .int k' b']⟩ => some (decide (j = j') && (decide (a = a') && (decide (k = k') && decide (b = b'))))
  | _, _ => none
theorem keq_spec {x y : Value} {b : Bool} (h : keq x y = some b) : (b = true) = (x = y) := by
  unfold keq at h
  split at h
  · simp only [Option.some.injEq] at h; subst h; simp
  · rename_i a b
    simp only [Option.some.injEq] at h; subst h
    simp only [decide_eq_true_eq, Value.string.injEq]
    apply propext
    constructor
    · intro h
      cases a; cases b
      simp only at h
      congr 1
      exact Array.ext' h
    · rintro rfl; rfl
  · simp only [Option.some.injEq] at h; subst h
    simp [and_assoc]
  · cases h
def kT (P : Program) (k : TypeId) : Bool := match P.underlying k with
  | some (.int _) => true
  | some .string => true
  | some (.array _ _) => laidOutB P && (Nat.ble (P.types.size + 2) 10000 && (Nat.blt k P.types.size && P.keyType k))
  | _ => false
theorem kT_spec {P : Program} {k : TypeId} (h : kT P k = true) : Maps.Keyed P k := by
  unfold kT at h
  split at h
  · rename_i hu; exact Maps.int_keyed hu
  · rename_i hu; exact Maps.string_keyed hu
  · rename_i hu
    simp only [Bool.and_eq_true, Nat.ble_eq, Nat.blt_eq] at h
    exact Maps.Keyed.of_law (deep_law_gate h.1 h.2.1 h.2.2.1 h.2.2.2 (by rw [hu]))
  · cases h
def fM (P : Program) (k : TypeId) (x : Value) : List (Value × Value) → Nat → Option (Option (Nat × Value))
  | [], _ => some none
  | (y, v) :: es, i => match kOf P k y, keq y x with
    | true, some false => fM P k x es (i + 1)
    | true, some true => (match fM P k x es (i + 1) with
      | some none => some (some (i, v))
      | _ => none)
    | _, _ => none
theorem fM_none {P : Program} {k : TypeId} {x : Value} : ∀ {es : List (Value × Value)} {i : Nat}, fM P k x es i = some none → ∀ p ∈ es, kOf P k p.1 = true ∧ p.1 ≠ x
  | [], _, _, p, hp => by cases hp
  | (y, v) :: es, i, h, p, hp => by
    rw [fM] at h
    split at h
    · rename_i h1 h2
      rcases List.mem_cons.1 hp with rfl | hp
      · exact ⟨h1, fun e => by have e : y = x := e; have := keq_spec h2; rw [e] at this; simp at this⟩
      · exact fM_none h p hp
    · split at h <;> cases h
    · cases h
theorem fM_some {P : Program} {k : TypeId} {x v : Value} {j : Nat} : ∀ {es : List (Value × Value)} {i : Nat}, fM P k x es i = some (some (j, v)) → i ≤ j ∧ es[j - i]? = some (x, v) ∧ (∀ p ∈ es, kOf P k p.1 = true) ∧ ∀ (n : Nat) (p : Value × Value), es[n]? = some p → p.1 = x → n = j - i
  | [], i, h => by cases h
  | (y, u) :: es, i, h => by
    rw [fM] at h
    split at h
    · rename_i h1 h2
      obtain ⟨k1, k2, k3, k4⟩ := fM_some h
      refine ⟨by omega, ?_, fun p hp => ?_, fun n p hn hp => ?_⟩
      · rw [show j - i = (j - (i + 1)) + 1 by omega]; simpa using k2
      · rcases List.mem_cons.1 hp with rfl | hp
        · exact h1
        · exact k3 p hp
      · cases n with
        | zero =>
          simp only [List.getElem?_cons_zero, Option.some.injEq] at hn
          subst hn
          have hp : y = x := hp
          have := keq_spec h2; rw [hp] at this; simp at this
        | succ n =>
          have := k4 n p (by simpa using hn) hp
          omega
    · rename_i h1 h2
      split at h
      · rename_i h3
        simp only [Option.some.injEq, Prod.mk.injEq] at h
        obtain ⟨rfl, rfl⟩ := h
        have hy : y = x := by have := keq_spec h2; simpa using this
        subst hy
        refine ⟨Nat.le_refl _, by simp, fun p hp => ?_, fun n p hn hp => ?_⟩
        · rcases List.mem_cons.1 hp with rfl | hp
          · exact h1
          · exact (fM_none h3 p hp).1
        · cases n with
          | zero => simp
          | succ n =>
            exact absurd hp (fM_none h3 p (List.mem_of_getElem? (by simpa using hn))).2
      · cases h
    · cases h
theorem VRm.len {s : Inj} {es : List (Value × Value)} {xs : List MapEntry} (h : VRm s es xs) : es.length = xs.length := by
  induction h with
  | nil => rfl
  | cons _ _ _ ih => simp [ih]
theorem VRm.get {s : Inj} {es : List (Value × Value)} {xs : List MapEntry} (h : VRm s es xs) : ∀ {i : Nat} {e : MapEntry}, xs[i]? = some e → ∃ p, es[i]? = some p ∧ VR s p.1 e.key ∧ VR s p.2 e.val := by
  induction h with
  | nil => intro i e h; cases h
  | cons hk hv _ ih =>
    intro i e h
    cases i with
    | zero =>
      simp only [List.getElem?_cons_zero, Option.some.injEq] at h
      subst h
      exact ⟨_, rfl, hk, hv⟩
    | succ i =>
      obtain ⟨p, h1, h2⟩ := ih (by simpa using h)
      exact ⟨p, by simpa using h1, h2⟩
theorem VRm.set {s : Inj} {es : List (Value × Value)} {xs : List MapEntry} (h : VRm s es xs) {k v : Value} {e : MapEntry} (hk : VR s k e.key) (hv : VR s v e.val) : ∀ (i : Nat), VRm s (es.set i (k, v)) (xs.set i e) := by
  induction h with
  | nil => intro i; exact .nil
  | cons h1 h2 h3 ih =>
    intro i
    cases i with
    | zero => exact .cons hk hv h3
    | succ i => exact .cons h1 h2 (ih i)
theorem VRm.push {s : Inj} {es : List (Value × Value)} {xs : List MapEntry} (h : VRm s es xs) {k v : Value} {e : MapEntry} (hk : VR s k e.key) (hv : VR s v e.val) : VRm s (es ++ [(k, v)]) (xs ++ [e]) := by
  induction h with
  | nil => exact .cons hk hv .nil
  | cons h1 h2 _ ih => exact .cons h1 h2 ih
theorem find_map {P : Program} {k : TypeId} (K : Maps.Keyed P k) {x : Value} (hx : kOf P k x = true) {es : List (Value × Value)} {r : Option (Nat × Value)} (h : fM P k x es 0 = some r) {s : Inj} {xs : List MapEntry} (hv : VRm s es xs) (w : World) :
    (r = none ∧ (Instr.findKey k x xs).run P w = .ok none w) ∨ ∃ j v e, r = some (j, v) ∧ (Instr.findKey k x xs).run P w = .ok (some (j, e.val)) w ∧ xs[j]? = some e ∧ e.key = x ∧ VR s v e.val := by
  obtain ⟨hp, lx, hlx⟩ := kOf_spec hx
  have hall : ∀ p ∈ es, kOf P k p.1 = true := by
    cases r with
    | none => exact fun p hp => (fM_none h p hp).1
    | some q => obtain ⟨j, v⟩ := q; exact (fM_some h).2.2.1
  have hkeys : ∀ (i : Nat) (e : MapEntry), xs[i]? = some e → ∃ p, es[i]? = some p ∧ e.key = p.1 ∧ VR s p.2 e.val := fun i e he => by
    obtain ⟨p, h1, h2, h3⟩ := hv.get he
    exact ⟨p, h1, VR.eq_of_plain h2 (kOf_spec (hall p (List.mem_of_getElem? h1))).1, h3⟩
  have hes : ∀ e ∈ xs, ∃ l, keyOf P k e.key = some l := fun e he => by
    obtain ⟨i, hi⟩ := List.mem_iff_getElem?.1 he
    obtain ⟨p, h1, h2, _⟩ := hkeys i e hi
    rw [h2]
    exact (kOf_spec (hall p (List.mem_of_getElem? h1))).2
  rcases K.find w hlx xs hes with ⟨h1, h2⟩ | ⟨j, e0, h1, h2, h3⟩
  · left
    refine ⟨?_, h1⟩
    cases r with
    | none => rfl
    | some q =>
      obtain ⟨j, v⟩ := q
      obtain ⟨_, k2, _⟩ := fM_some h
      have hl : j - 0 < xs.length := by rw [← hv.len]; exact (List.getElem?_eq_some_iff.1 k2).1
      obtain ⟨p, g1, g2, _⟩ := hkeys (j - 0) xs[j - 0] (List.getElem?_eq_getElem hl)
      rw [k2] at g1
      obtain rfl := Option.some.inj g1
      exact absurd g2 (h2 _ (List.getElem_mem hl))
  · right
    obtain ⟨p, g1, g2, g3⟩ := hkeys j e0 h2
    cases r with
    | none => exact absurd (g2.symm.trans h3) (fM_none h p (List.mem_of_getElem? g1)).2
    | some q =>
      obtain ⟨j', v⟩ := q
      obtain ⟨_, k2, _, k4⟩ := fM_some h
      have hj := k4 j p g1 (g2.symm.trans h3)
      rw [Nat.sub_zero] at hj k2
      subst hj
      rw [g1] at k2
      obtain rfl := Option.some.inj k2
      exact ⟨j, v, e0, rfl, h1, h2, h3, g3⟩
def lkR (c : Bool) (zv : Value) : Option (Nat × Value) → Value
  | some (_, v) => bif c then .tuple ⟨[v, .bool true]⟩ else v
  | none => bif c then .tuple ⟨[zv, .bool false]⟩ else zv
def upR (es : List (Value × Value)) (key xv : Value) : Option (Nat × Value) → List (Value × Value)
  | some (j, _) => es.set j (key, xv)
  | none => es ++ [(key, xv)]
section
variable {P : Program} {ρ : Env} {aw aw' : AW} {o : Oper} {v : Value} {t : TypeId} {x y z : Operand}
theorem VR.map_inv {s : Inj} {b : Nat} {v : Value} (h : VR s (.chan (some b)) v) : ∃ e, s b = some e ∧ v = .map (some e.cb) := by
  cases h with | mapp h => exact ⟨_, h, rfl⟩
theorem opv_makeMap (hop : o.op = .makeMap t none) : OpV P o ρ aw (.chan (some aw.next)) aw.newMap := by
  intro base w0 s f w hr hf
  obtain ⟨s', k1, k2, k3⟩ := hr.newMap
  refine ⟨_, .map (some w.heap.size), _, s', ?_, .inl rfl, k1, k3, ?_⟩
  · simp [execOp, hop, Instr.makeMap, newObj, Sem.run]
  · exact VR.mapp k2
theorem opv_lookup {k e : TypeId} {b : Nat} {es : List (Value × Value)} {key zv : Value} {r : Option (Nat × Value)} {c : Bool} (hop : o.op = .lookup t x y c) (hx : okOpd P.globals.size x = true) (hy : okOpd P.globals.size y = true) (hu : P.underlying t = some (.map k e)) (hK : kT P k = true)
    (h1 : ρ.eval x = .chan (some b)) (hb : aw.mp b = some es) (h2 : ρ.eval y = key) (hk : kOf P k key = true) (hf : fM P k key es 0 = some r) (hz : (P.info? e).bind (·.zero) = some zv) (hzp : plain zv = true) :
    OpV P o ρ aw (lkR c zv r) aw := by
  intro base w0 s f w hr hfx
  have e1 := hfx x hx; rw [h1] at e1
  obtain ⟨en, he, h3⟩ := e1.map_inv
  have e2 := hfx y hy; rw [h2] at e2
  have h4 := VR.eq_of_plain e2 (kOf_spec hk).1
  obtain ⟨en', xs, ck, g1, g2, g3, g4⟩ := hr.maps.ent b es hb
  rw [he] at g1; obtain rfl := Option.some.inj g1
  obtain ⟨lx, hlx⟩ := (kOf_spec hk).2
  have K := kT_spec hK
  rcases find_map K hk hf g4 w with ⟨rfl, q⟩ | ⟨j, v, e0, rfl, q, q2, q3, q4⟩
  · refine ⟨_, (if c then .tuple #[zv, .bool false] else zv), w, s, ?_, .inl rfl, Inj.le_refl s, hr, ?_⟩
    · simp [execOp, hop, h3, h4, Instr.lookup, run_underlying hu, MapKept.run_getObj_map g2, K.check w _ hlx, q, run_zeroValue' hz, Result.andThen]
    · cases c
      · exact VR.ofPlain hzp
      · exact .tuple (.cons (VR.ofPlain hzp) (.cons (.bool _) .nil))
  · refine ⟨_, (if c then .tuple #[e0.val, .bool true] else e0.val), w, s, ?_, .inl rfl, Inj.le_refl s, hr, ?_⟩
    · simp [execOp, hop, h3, h4, Instr.lookup, run_underlying hu, MapKept.run_getObj_map g2, K.check w _ hlx, q, Result.andThen]
    · cases c
      · exact q4
      · exact .tuple (.cons q4 (.cons (.bool _) .nil))
theorem opv_mapUpdate {k e : TypeId} {b : Nat} {es : List (Value × Value)} {key xv : Value} {r : Option (Nat × Value)} (hop : o.op = .mapUpdate t x y z) (hx : okOpd P.globals.size x = true) (hy : okOpd P.globals.size y = true) (hz : okOpd P.globals.size z = true) (hu : P.underlying t = some (.map k e)) (hK : kT P k = true)
    (h1 : ρ.eval x = .chan (some b)) (hb : aw.mp b = some es) (h2 : ρ.eval y = key) (hk : kOf P k key = true) (h3 : ρ.eval z = xv) (hf : fM P k key es 0 = some r) :
    OpV P o ρ aw undef (aw.putMap b (upR es key xv r)) := by
  intro base w0 s f w hr hfx
  have e1 := hfx x hx; rw [h1] at e1
  obtain ⟨en, he, hm⟩ := e1.map_inv
  have e2 := hfx y hy; rw [h2] at e2
  have h4 := VR.eq_of_plain e2 (kOf_spec hk).1
  have e3 := hfx z hz; rw [h3] at e3
  obtain ⟨en', xs, ck, g1, g2, g3, g4⟩ := hr.maps.ent b es hb
  rw [he] at g1; obtain rfl := Option.some.inj g1
  obtain ⟨lx, hlx⟩ := (kOf_spec hk).2
  have K := kT_spec hK
  rcases find_map K hk hf g4 w with ⟨rfl, q⟩ | ⟨j, v, e0, rfl, q, q2, q3, q4⟩
  · have R := hr.putMap (es' := es ++ [(key, xv)]) (xs' := xs.push ⟨key, f z, ck⟩) (ck' := ck + 1) hb he g2 g3 (by rw [Array.toList_push]; exact g4.push (VR.ofPlain (kOf_spec hk).1) e3)
    refine ⟨_, undef, _, s, ?_, .inr ⟨rfl, rfl⟩, Inj.le_refl s, R, VR.undef⟩
    simp [execOp, hop, hm, h4, Instr.mapUpdate, run_underlying hu, MapKept.run_getObj_map g2, K.check w false hlx, q, MapKept.run_setObj_map _ g2, Result.andThen]
  · have hj : xs[j]? = some e0 := by simpa using q2
    have R := hr.putMap (es' := es.set j (key, xv)) (xs' := xs.modify j fun e' => { e' with key := key, val := f z }) (ck' := ck) hb he g2 g3 (by
      rw [Array.toList_modify, show xs.toList.modify j (fun e' => ({ e' with key := key, val := f z } : MapEntry)) = xs.toList.set j { e0 with key := key, val := f z } from ChangeMaps.modify_eq_set _ _ _ _ q2]
      exact g4.set (e := { e0 with key := key, val := f z }) (VR.ofPlain (kOf_spec hk).1) e3 j)
    refine ⟨_, undef, _, s, ?_, .inr ⟨rfl, rfl⟩, Inj.le_refl s, R, VR.undef⟩
    simp [execOp, hop, hm, h4, Instr.mapUpdate, run_underlying hu, MapKept.run_getObj_map g2, K.check w false hlx, q, hj, q3, K.stays w hlx, MapKept.run_setObj_map _ g2, Result.andThen]
end
end Go.Am
set_option linter.unusedSimpArgs false
set_option linter.unusedVariables false
set_option linter.unusedSectionVars false
namespace Go.Ri
open Go Go.Am Go.RowKit
variable [SymE]
variable [FT] [FTok]
section
variable {P : Program} {ρ : Env} {M M' : Mem} {o : Oper} {v : Value} {xt yt t : TypeId} {x y z : Operand}
noncomputable def Mem.grow (M : Mem) (B : RB) (keep : Nat) (cs : List Value) (el esz : Nat) : Mem := T.dn (T.ofL cs keep B.cells) fun t => T.dn (T.set (some (⟨t, keep + cs.length, el, esz, true, 0⟩ : RB)) M.bl M.next) fun u => ⟨u, Nat.succ M.next, M.mp⟩
theorem Mem.grow_spec (M : Mem) (B : RB) {keep : Nat} (hk : keep ≤ B.len) (cs : List Value) (el esz : Nat) (hne : cs ≠ []) : (M.grow B keep cs el esz).abs = M.abs.alloc (B.abs.cells.take keep ++ cs) el esz := by
  unfold Mem.grow
  simp only [T.dn_eq]
  refine AW.ext' ?_ rfl
  funext k
  show Option.map RB.abs (Mem.at ⟨T.set (some (⟨T.ofL cs keep B.cells, keep + cs.length, el, esz, true, 0⟩ : RB)) M.bl M.next, M.next + 1, M.mp⟩ k) = if k = M.next then some ⟨_, el, esz, true, 0⟩ else Option.map RB.abs (M.at k)
  unfold Mem.at
  simp only [T.get_set]
  by_cases hc : k = M.next
  · subst hc
    simp only [if_true, Option.map_some, Option.some.injEq]
    simp only [RB.abs, Blk.mk.injEq, and_true]
    apply List.ext_getElem?
    intro j
    simp only [List.getElem?_map]
    rcases Nat.lt_or_ge j (keep + cs.length) with hj | hj
    · rw [List.getElem?_range hj]
      simp only [Option.map_some, T.get_ofL]
      rcases Nat.lt_or_ge j keep with h3 | h3
      · rw [if_neg (by omega), List.getElem?_append_left (by simp; omega), List.getElem?_take_of_lt h3, List.getElem?_map, List.getElem?_range (by omega)]; rfl
      · rw [if_pos ⟨h3, hj⟩, List.getElem?_append_right (by simp; omega)]
        have : ((List.range B.len).map fun i => (B.cells.get i).getD undef).length = B.len := by simp
        rw [List.length_take, this, Nat.min_eq_left hk, List.getElem?_eq_getElem (by omega)]; rfl
    · rw [List.getElem?_eq_none (by simp; omega), List.getElem?_eq_none (by simp; omega)]; rfl
  · simp only [if_neg hc]
theorem RB.take_spec {b : Nat} {B : RB} (hB : M.at b = some B) {keep : Nat} (hk : keep ≤ B.len) : M.abs.getN b 0 keep = some (B.abs.cells.take keep) := by
  have := AW.getN_of (aw := M.abs) (b := b) (cs := B.abs.cells.take keep) (i := 0) (fun j u hj => by
    rw [Nat.zero_add, AW.get, M.abs_m hB]
    show B.abs.cells[j]? = some u
    have hlt : j < keep := by
      have := (List.getElem?_eq_some_iff.1 hj).1
      rw [List.length_take] at this; omega
    rw [List.getElem?_take_of_lt hlt] at hj
    exact hj)
  rw [List.length_take, B.abs_len, Nat.min_eq_left hk] at this
  exact this
noncomputable def eAppend (P : Program) (ρ : Env) (M : Mem) (sT xT : TypeId) (x y : Operand) : OR := match okv P.globals.size ρ x with
  | some (.slice q l c) => (match okv P.globals.size ρ y with
    | none => none
    | some xv => (match P.underlying sT with
      | some (.slice el) => (match P.underlying xT with
        | none => none
        | some dx => bif notInt dx then (match (P.info? el).map (·.size) with
          | none => none
          | some size => (match src M size xv with
            | none => none
            | some (0, cs) => some (.slice q l c, M)
            | some (Nat.succ n, cs) => (match (P.info? el).map (·.bytes) with
              | none => none
              | some bytes => (match (P.info? el).bind (·.zero) with
                | none => none
                | some z => bif Nat.beq (cellsL z).length size && (Nat.blt 0 bytes && (Nat.blt 0 size && Nat.ble ((2 * (l + Nat.succ n) + 768) * bytes) 281474976710656)) then
                  (bif Nat.blt c UNK then
                    (bif Nat.ble (l + Nat.succ n) c then (match q with
                      | some ⟨b, i, none⟩ => (match M.setN b (i + l * size) cs with
                        | none => none
                        | some M' => some (.slice (some ⟨b, i, none⟩) (l + Nat.succ n) c, M'))
                      | _ => none)
                    else (match src M size (.slice q l c) with
                      | none => none
                      | some (l', os) => bif Nat.beq l' l then some (.slice (some ⟨M.next, 0, none⟩) (l + Nat.succ n) UNK, M.alloc (os ++ cs) el size) else none))
                  else (match q with
                    | some ⟨b, 0, none⟩ => (match M.at b with
                      | none => none
                      | some B => bif B.rw && (Nat.beq B.fz 0 && (Nat.beq B.elem el && (Nat.beq B.esz size && (cs.all one && Nat.ble (l * size) B.len)))) then
                          some (.slice (some ⟨M.next, 0, none⟩) (l + Nat.succ n) UNK, (M.kill b).grow B (l * size) cs el size) else none)
                    | _ => none)) else none))))
          else none)
      | _ => none))
  | _ => none
theorem eAppend_spec {sT xT : TypeId} (hop : o.op = .call { callee := .builtin .append, args := #[x, y], argTypes := #[sT, xT] }) (h : eAppend P ρ M sT xT x y = some (v, M')) : OpV P o ρ M.abs v M'.abs := by
  unfold eAppend at h
  split at h
  · rename_i q l c hx
    obtain ⟨x1, x2⟩ := okv_spec hx
    split at h
    · cases h
    rename_i xv hy
    obtain ⟨y1, y2⟩ := okv_spec hy
    split at h
    · rename_i el hu
      split at h
      · cases h
      rename_i dx hxu
      rw [cond_some] at h
      obtain ⟨hni, h⟩ := h
      split at h
      · cases h
      rename_i size hs
      split at h
      · cases h
      · rename_i cs hsrc
        simp only [Option.some.injEq, Prod.mk.injEq] at h
        obtain ⟨rfl, rfl⟩ := h
        exact opv_append0 hop rfl x1 y1 hu hs hxu hni x2 y2 (src_spec hsrc)
      · rename_i n cs hsrc
        have hsrc := src_spec hsrc
        split at h
        · cases h
        rename_i bytes hby
        split at h
        · cases h
        rename_i zz hz
        rw [cond_some] at h
        obtain ⟨hc, h⟩ := h
        simp only [Bool.and_eq_true, Nat.beq_eq, Nat.blt_eq, Nat.ble_eq] at hc
        obtain ⟨c1, c2, c3, c4⟩ := hc
        have e : (cellsL zz).length = zz.cells.size := by rw [cellsL_eq]; simp
        rw [e] at c1
        cases hcap : Nat.blt c UNK with
        | true =>
          rw [hcap] at h
          simp only [cond_true] at h
          rw [Nat.blt_eq] at hcap
          cases hfit : Nat.ble (l + Nat.succ n) c with
          | true =>
            rw [hfit] at h
            simp only [cond_true] at h
            rw [Nat.ble_eq] at hfit
            split at h
            · rename_i b i
              split at h
              · cases h
              rename_i M'' hM
              simp only [Option.some.injEq, Prod.mk.injEq] at h
              obtain ⟨rfl, rfl⟩ := h
              obtain ⟨s1, s2, s3⟩ := M.setN_spec hM
              rw [s1]
              exact opv_appendX hop rfl x1 y1 hu hs hxu hni x2 y2 hsrc hcap hfit (Nat.succ_pos n) s3 s2
            · cases h
          | false =>
            rw [hfit] at h
            simp only [cond_false] at h
            split at h
            · cases h
            rename_i l' os hos
            rw [cond_some] at h
            obtain ⟨hl, h⟩ := h
            have hl := Nat.eq_of_beq_eq_true hl
            subst hl
            simp only [Option.some.injEq, Prod.mk.injEq] at h
            obtain ⟨rfl, rfl⟩ := h
            rw [M.alloc_spec]
            have hfit' : c < l' + Nat.succ n := by
              rcases Nat.lt_or_ge c (l' + Nat.succ n) with h | h
              · exact h
              · rw [show Nat.ble (l' + Nat.succ n) c = true from by rw [Nat.ble_eq]; exact h] at hfit; cases hfit
            exact opv_appendG hop rfl x1 y1 hu hs hby hxu hni hz c1 c2 x2 y2 (src_spec hos) ⟨q, rfl⟩ hsrc hcap hfit' c3 (Nat.le_trans c4 (by decide))
        | false =>
          rw [hcap] at h
          simp only [cond_false] at h
          split at h
          · rename_i b
            split at h
            · cases h
            rename_i B hB
            rw [cond_some] at h
            obtain ⟨hc, h⟩ := h
            simp only [Bool.and_eq_true, Nat.beq_eq, Nat.ble_eq] at hc
            obtain ⟨k1, k0, k2, k3, k4, k5⟩ := hc
            simp only [Option.some.injEq, Prod.mk.injEq] at h
            obtain ⟨rfl, rfl⟩ := h
            have hcs : cs ≠ [] := by
              rintro rfl
              have := hsrc.length
              simp only [List.length_nil] at this
              have h0 : 0 < Nat.succ n * size := Nat.mul_pos (Nat.succ_pos n) c3
              omega
            have hg := Mem.grow_spec (M.kill b) B k5 cs el size hcs
            rw [M.kill_spec] at hg
            rw [hg]
            have hnext : (M.kill b).next = M.next := by unfold Mem.kill; rw [Mem.put_next]
            have hcu : UNK ≤ c := by
              rcases Nat.lt_or_ge c UNK with h | h
              · rw [show Nat.blt c UNK = true from by rw [Nat.blt_eq]; exact h] at hcap; cases hcap
              · exact h
            exact opv_appendU hop rfl x1 y1 hu hs hby hxu hni hz c1 c2 x2 y2 (RB.take_spec hB k5) hsrc hcu (M.abs_m hB) k1 k0 k2 k3 k4 rfl c3 (Nat.le_trans c4 (by decide))
          · cases h
    · cases h
  · cases h
noncomputable def eAppendZ (P : Program) (ρ : Env) (M : Mem) (sT xT : TypeId) (x y : Operand) : OR := match okv P.globals.size ρ x with
  | some (.slice q l c) => (match okv P.globals.size ρ y with
    | some (.int kk (.ofNat n)) => (match P.underlying sT with
      | some (.slice el) => (match P.underlying xT with
        | some (.int k) => (match (P.info? el).map (·.size) with
          | none => none
          | some size => (match (P.info? el).map (·.bytes) with
            | none => none
            | some bytes => (match (P.info? el).bind (·.zero) with
              | none => none
              | some z => (match src M size (.slice q l c) with
                | none => none
                | some (l', os) => bif Nat.beq l' l && (Nat.beq (cellsL z).length size && (plains (cellsL z) && (Nat.blt 0 bytes && (Nat.blt 0 n && (Nat.blt c UNK && (Nat.blt c (l + n) && (Nat.blt 0 size && Nat.ble ((2 * (l + n) + 768) * bytes) 281474976710656))))))) then
                    some (.slice (some ⟨M.next, 0, none⟩) (l + n) UNK, M.alloc (os ++ zeros (cellsL z) n) el size) else none))))
        | _ => none)
      | _ => none)
    | _ => none)
  | _ => none
theorem eAppendZ_spec {sT xT : TypeId} (hop : o.op = .call { callee := .builtin .append, args := #[x, y], argTypes := #[sT, xT] }) (h : eAppendZ P ρ M sT xT x y = some (v, M')) : OpV P o ρ M.abs v M'.abs := by
  unfold eAppendZ at h
  split at h
  · rename_i q l c hx
    obtain ⟨x1, x2⟩ := okv_spec hx
    split at h
    · rename_i kk n hy
      obtain ⟨y1, y2⟩ := okv_spec hy
      split at h
      · rename_i el hu
        split at h
        · rename_i k hxu
          split at h
          · cases h
          rename_i size hs
          split at h
          · cases h
          rename_i bytes hby
          split at h
          · cases h
          rename_i zz hz
          split at h
          · cases h
          rename_i l' os hos
          rw [cond_some] at h
          obtain ⟨hc, h⟩ := h
          simp only [Bool.and_eq_true, Nat.beq_eq, Nat.blt_eq, Nat.ble_eq] at hc
          obtain ⟨c0, c1, c2, c3, c4, c5, c6, c7, c8⟩ := hc
          subst c0
          have e : (cellsL zz).length = zz.cells.size := by rw [cellsL_eq]; simp
          simp only [Option.some.injEq, Prod.mk.injEq] at h
          obtain ⟨rfl, rfl⟩ := h
          rw [M.alloc_spec, cellsL_eq]
          exact opv_appendZ hop rfl x1 y1 hu hs hby hxu hz (by rw [← e]; exact c1) (by rw [← cellsL_eq]; exact c2) c3 c4 x2 y2 (src_spec hos) ⟨q, rfl⟩ c5 c6 c7 (Nat.le_trans c8 (by decide))
        · cases h
      · cases h
    · cases h
  · cases h
noncomputable def eCopy (P : Program) (ρ : Env) (M : Mem) (sT xT : TypeId) (x y : Operand) : OR := match okv P.globals.size ρ x with
  | some (.slice (some ⟨b, i, none⟩) l c) => (match okv P.globals.size ρ y with
    | none => none
    | some xv => (match P.underlying sT with
      | some (.slice el) => (match (P.info? el).map (·.size) with
        | none => none
        | some size => (match src M size xv with
          | none => none
          | some (n, cs) => (match M.setN b i (cs.take (min n l * size)) with
            | none => none
            | some M' => some (.int .i64 (.ofNat (min n l)), M'))))
      | _ => none))
  | _ => none
theorem eCopy_spec {sT xT : TypeId} (hop : o.op = .call { callee := .builtin .copy, args := #[x, y], argTypes := #[sT, xT] }) (h : eCopy P ρ M sT xT x y = some (v, M')) : OpV P o ρ M.abs v M'.abs := by
  unfold eCopy at h
  split at h
  · rename_i b i l c hx
    obtain ⟨x1, x2⟩ := okv_spec hx
    split at h
    · cases h
    rename_i xv hy
    obtain ⟨y1, y2⟩ := okv_spec hy
    split at h
    · rename_i el hu
      split at h
      · cases h
      rename_i size hs
      split at h
      · cases h
      rename_i n cs hsrc
      split at h
      · cases h
      rename_i M'' hM
      simp only [Option.some.injEq, Prod.mk.injEq] at h
      obtain ⟨rfl, rfl⟩ := h
      obtain ⟨s1, s2, s3⟩ := M.setN_spec hM
      rw [s1]
      exact opv_copy hop rfl x1 y1 hu hs x2 y2 (src_spec hsrc) rfl s3 s2
    · cases h
  · cases h
noncomputable def eLen (P : Program) (ρ : Env) (M : Mem) (at' : Array TypeId) (x : Operand) : OR := match at'[0]? with
  | none => none
  | some q => (match P.underlying q with
    | some .string => (match okv P.globals.size ρ x with
      | some (.string ⟨⟨l⟩⟩) => some (.int .i64 (.ofNat l.length), M)
      | some (.map (some i)) => (match FT.len (.map (some i)) with
        | some v => some (v, M)
        | none => none)
      | _ => none)
    | some (.slice _) => (match okv P.globals.size ρ x with
      | some (.slice _ l _) => some (.int .i64 (.ofNat l), M)
      | _ => none)
    | some (.array l _) => some (.int .i64 (.ofNat l), M)
    | _ => none)
theorem eLen_spec {at' : Array TypeId} (hop : o.op = .call { callee := .builtin .len, args := #[x], argTypes := at' }) (h : eLen P ρ M at' x = some (v, M')) : OpV P o ρ M.abs v M'.abs := by
  unfold eLen at h
  split at h
  · cases h
  rename_i q hat
  split at h
  · rename_i hu
    split at h
    · rename_i l hx
      obtain ⟨x1, x2⟩ := okv_spec hx
      simp only [Option.some.injEq, Prod.mk.injEq] at h
      obtain ⟨rfl, rfl⟩ := h
      exact opv_lenS hop hat x1 hu x2
    · rename_i i hx
      obtain ⟨x1, x2⟩ := okv_spec hx
      split at h
      · rename_i r hr
        simp only [Option.some.injEq, Prod.mk.injEq] at h
        obtain ⟨rfl, rfl⟩ := h
        refine opv_den ?_
        obtain ⟨l, h1, h2⟩ := FTok.len _ _ hr
        have e1 : Env.eval (fun t => den (ρ t)) x = .string ⟨⟨l⟩⟩ := by rw [den_eval x1, x2, h1]
        rw [h2]
        exact opv_lenS hop hat x1 hu e1
      · cases h
    · cases h
  · rename_i e hu
    split at h
    · rename_i a l c hx
      obtain ⟨x1, x2⟩ := okv_spec hx
      simp only [Option.some.injEq, Prod.mk.injEq] at h
      obtain ⟨rfl, rfl⟩ := h
      exact opv_len hop hat x1 hu x2
    · cases h
  · rename_i l e hu
    simp only [Option.some.injEq, Prod.mk.injEq] at h
    obtain ⟨rfl, rfl⟩ := h
    exact opv_lenA hop hat hu
  · cases h
theorem opv_cap {ρ : Env} {aw : AW} {q : Option Addr} {l c : Nat} {T el : TypeId} {at' : Array TypeId} (hop : o.op = .call { callee := .builtin .cap, args := #[x], argTypes := at' }) (hat : at'[0]? = some T) (hx : okOpd P.globals.size x = true)
    (hu : P.underlying T = some (.slice el)) (h1 : ρ.eval x = .slice q l c) (hc : c < UNK) : OpV P o ρ aw (.int .i64 c) aw :=
  opv_pure fun s f w hf => by
    have e1 := hf x hx; rw [h1] at e1
    have : ∃ q', f x = .slice q' l c := by
      generalize f x = u at e1
      cases e1 with
      | nilslice => exact ⟨_, rfl⟩
      | slice hl hcc h => rw [hcc hc]; exact ⟨_, rfl⟩
    obtain ⟨q', hq⟩ := this
    refine ⟨.int .i64 c, ?_, .int _ _⟩
    simp [execOp, hop, resolve, invoke, builtin, Builtin.cap_, hq, hat, run_underlying hu, goInt]
noncomputable def eCap (P : Program) (ρ : Env) (M : Mem) (at' : Array TypeId) (x : Operand) : OR := match at'[0]? with
  | none => none
  | some q => (match P.underlying q with
    | some (.slice _) => (match okv P.globals.size ρ x with
      | some (.slice _ _ c) => bif Nat.blt c UNK then some (.int .i64 (.ofNat c), M) else none
      | _ => none)
    | _ => none)
theorem eCap_spec {at' : Array TypeId} (hop : o.op = .call { callee := .builtin .cap, args := #[x], argTypes := at' }) (h : eCap P ρ M at' x = some (v, M')) : OpV P o ρ M.abs v M'.abs := by
  unfold eCap at h
  split at h
  · cases h
  rename_i q hat
  split at h
  · rename_i e hu
    split at h
    · rename_i a l c hx
      obtain ⟨x1, x2⟩ := okv_spec hx
      rw [cond_some] at h
      obtain ⟨hc, h⟩ := h
      rw [Nat.blt_eq] at hc
      simp only [Option.some.injEq, Prod.mk.injEq] at h
      obtain ⟨rfl, rfl⟩ := h
      exact opv_cap hop hat x1 hu x2 hc
    · cases h
  · cases h
noncomputable def eMM (P : Program) (ρ : Env) (M : Mem) (mx : Bool) (x y : Operand) : OR := match okv P.globals.size ρ x with
  | some (.int k m) => (match okv P.globals.size ρ y with
    | some (.int k' n) => bif decide (k = k') then some (.int k (bif mx then max m n else min m n), M) else none
    | _ => none)
  | _ => none
theorem eMM_spec {mx : Bool} {at' : Array TypeId} (hop : o.op = .call { callee := .builtin (if mx then .max else .min), args := #[x, y], argTypes := at' }) (h : eMM P ρ M mx x y = some (v, M')) : OpV P o ρ M.abs v M'.abs := by
  unfold eMM at h
  split at h
  · rename_i k m hx
    obtain ⟨x1, x2⟩ := okv_spec hx
    split at h
    · rename_i k' n hy
      obtain ⟨y1, y2⟩ := okv_spec hy
      rw [cond_some] at h
      obtain ⟨hk, h⟩ := h
      have hk := of_decide_eq_true hk
      subst hk
      simp only [Option.some.injEq, Prod.mk.injEq] at h
      obtain ⟨rfl, rfl⟩ := h
      cases mx
      · exact opv_min hop x1 y1 x2 y2
      · exact opv_max hop x1 y1 x2 y2
    · cases h
  · cases h
noncomputable def eAssert (P : Program) (ρ : Env) (M : Mem) (x : Operand) (a : TypeId) (ok : Bool) : OR := match P.underlying a with
  | none => none
  | some d => bif isIface d then none else (match okv P.globals.size ρ x with
    | some (.iface q u) => bif Nat.beq q a then some ((bif ok then .tuple ⟨[u, .bool true]⟩ else u), M) else (match ok, (P.info? a).bind (·.zero) with
      | true, some z => bif plain z then some (.tuple ⟨[z, .bool false]⟩, M) else none
      | _, _ => none)
    | some .nilIface => (match ok, (P.info? a).bind (·.zero) with
      | true, some z => bif plain z then some (.tuple ⟨[z, .bool false]⟩, M) else none
      | _, _ => none)
    | _ => none)
theorem eAssert_spec {a : TypeId} {ok : Bool} (hop : o.op = .typeAssert x xt a ok) (h : eAssert P ρ M x a ok = some (v, M')) : OpV P o ρ M.abs v M'.abs := by
  unfold eAssert at h
  split at h
  · cases h
  rename_i d hu
  cases hd : isIface d with
  | true => rw [hd] at h; cases h
  | false =>
    rw [hd] at h
    simp only [cond_false] at h
    split at h
    · rename_i q u hx
      obtain ⟨x1, x2⟩ := okv_spec hx
      cases hq : Nat.beq q a with
      | true =>
        rw [hq] at h
        have hq := Nat.eq_of_beq_eq_true hq
        subst hq
        simp only [cond_true, Option.some.injEq, Prod.mk.injEq] at h
        obtain ⟨rfl, rfl⟩ := h
        have := opv_assertYes (aw := M.abs) (ok := ok) hop x1 hu hd x2
        cases ok <;> exact this
      | false =>
        rw [hq] at h
        simp only [cond_false] at h
        split at h
        · rename_i zz hz
          rw [cond_some] at h
          obtain ⟨hp, h⟩ := h
          simp only [Option.some.injEq, Prod.mk.injEq] at h
          obtain ⟨rfl, rfl⟩ := h
          exact opv_assertNo hop x1 hu hd hz hp x2 (fun e => by rw [e, Nat.beq_refl] at hq; cases hq)
        · cases h
    · rename_i hx
      obtain ⟨x1, x2⟩ := okv_spec hx
      split at h
      · rename_i zz hz
        rw [cond_some] at h
        obtain ⟨hp, h⟩ := h
        simp only [Option.some.injEq, Prod.mk.injEq] at h
        obtain ⟨rfl, rfl⟩ := h
        exact opv_assertNil hop x1 hu hd hz hp x2
      · cases h
    · cases h
noncomputable def eUsd (P : Program) (ρ : Env) (M : Mem) (x : Operand) : OR := match okv P.globals.size ρ x with
  | some (.slice (some ⟨b, i, none⟩) l c) => bif Nat.blt 0 l then some (.pointer (some ⟨b, i, none⟩), M) else none
  | some (.slice none 0 0) => some (.pointer none, M)
  | _ => none
theorem eUsd_spec {at' : Array TypeId} (hop : o.op = .call { callee := .builtin .unsafeSliceData, args := #[x], argTypes := at' }) (h : eUsd P ρ M x = some (v, M')) : OpV P o ρ M.abs v M'.abs := by
  unfold eUsd at h
  split at h
  · rename_i b i l c hx
    obtain ⟨x1, x2⟩ := okv_spec hx
    rw [cond_some] at h
    obtain ⟨hl, h⟩ := h
    rw [Nat.blt_eq] at hl
    simp only [Option.some.injEq, Prod.mk.injEq] at h
    obtain ⟨rfl, rfl⟩ := h
    exact ov_usd hop x1 x2 (.inl ⟨_, _, _, _, rfl, hl⟩) rfl
  · rename_i hx
    obtain ⟨x1, x2⟩ := okv_spec hx
    simp only [Option.some.injEq, Prod.mk.injEq] at h
    obtain ⟨rfl, rfl⟩ := h
    exact ov_usd hop x1 x2 (.inr rfl) rfl
  · cases h
noncomputable def Mem.frz (M : Mem) (b : Nat) (B : RB) : Mem := M.put b (some ⟨B.cells, B.len, B.elem, B.esz, B.rw, 1⟩)
theorem Mem.frz_spec (M : Mem) {b : Nat} {B : RB} (hB : M.at b = some B) : (M.frz b B).abs = M.abs.frz b := by
  refine AW.ext' ?_ (by simp [Mem.abs, Mem.frz, Mem.put_next, AW.frz])
  funext c
  simp only [Mem.abs, Mem.frz, AW.frz, Mem.at_put]
  by_cases hc : c = b
  · subst hc
    rw [if_pos rfl, if_pos rfl, hB]
    rfl
  · simp [hc]
noncomputable def eUstr (P : Program) (ρ : Env) (M : Mem) (pt : TypeId) (x y : Operand) : OR := match okv P.globals.size ρ x with
  | some p => (match okv P.globals.size ρ y with
    | some (.int .i64 (.ofNat n)) => (match P.underlying pt with
      | some (.pointer E) => bif Nat.beq (P.cellsOf E) 1 then (match n with
        | 0 => (match p with
          | .pointer q => some (.string ⟨⟨[]⟩⟩, M)
          | _ => none)
        | Nat.succ m => (match p with
          | .pointer (some ⟨b, 0, none⟩) => (match M.getN b 0 (Nat.succ m) with
            | none => none
            | some cs => (match unB cs with
              | none => none
              | some l => (match M.at b with
                | none => none
                | some B => bif B.rw && (Nat.beq B.elem E && (Nat.beq l.length (Nat.succ m) && Nat.blt (Nat.succ m) 4611686018427387904)) then some (.string ⟨⟨l⟩⟩, M.frz b B) else none)))
          | _ => none)) else none
      | _ => none)
    | _ => none)
  | none => none
theorem eUstr_spec {pt it : TypeId} (hop : o.op = .call { callee := .builtin .unsafeString, args := #[x, y], argTypes := #[pt, it] }) (h : eUstr P ρ M pt x y = some (v, M')) : OpV P o ρ M.abs v M'.abs := by
  unfold eUstr at h
  split at h
  · rename_i p hx
    obtain ⟨x1, x2⟩ := okv_spec hx
    split at h
    · rename_i n hy
      obtain ⟨y1, y2⟩ := okv_spec hy
      split at h
      · rename_i E hu
        rw [cond_some] at h
        obtain ⟨hE, h⟩ := h
        have hE := Nat.eq_of_beq_eq_true hE
        split at h
        · split at h
          · rename_i q
            simp only [Option.some.injEq, Prod.mk.injEq] at h
            obtain ⟨rfl, rfl⟩ := h
            exact ov_ustr hop x1 y1 hu hE x2 y2 (.inl ⟨rfl, ⟨_, rfl⟩, rfl, rfl⟩)
          · cases h
        · rename_i m
          split at h
          · rename_i b
            split at h
            · cases h
            rename_i cs hcs
            split at h
            · cases h
            rename_i l hl
            split at h
            · cases h
            rename_i B hB
            rw [cond_some] at h
            obtain ⟨hc, h⟩ := h
            simp only [Bool.and_eq_true, Nat.beq_eq, Nat.blt_eq] at hc
            obtain ⟨c1, c2, c3, c4⟩ := hc
            simp only [Option.some.injEq, Prod.mk.injEq] at h
            obtain ⟨rfl, rfl⟩ := h
            have hg := M.getN_spec hcs
            rw [unB_spec hl, ← c3] at hg
            rw [M.frz_spec hB]
            refine ov_ustrF hop x1 y1 hu hE x2 (y2.trans ?_) ?_ (by omega) hg (M.abs_m hB) c1 c2
            · rw [c3]; rfl
            · rintro rfl; simp at c3
          · cases h
      · cases h
    · cases h
  · cases h
noncomputable def Mem.newMap (M : Mem) : Mem := T.dn (T.set ([] : List (Value × Value)) M.mp M.next) fun t => ⟨M.bl, Nat.succ M.next, t⟩
theorem Mem.newMap_spec (M : Mem) : M.newMap.abs = M.abs.newMap := by
  refine AW.ext' rfl rfl ?_
  funext c
  show T.get (T.set ([] : List (Value × Value)) M.mp M.next) c = if c = M.next then some [] else T.get M.mp c
  rw [T.get_set]
noncomputable def Mem.putMap (M : Mem) (b : Nat) (es : List (Value × Value)) : Mem := T.dn (T.set es M.mp b) fun t => ⟨M.bl, M.next, t⟩
theorem Mem.putMap_spec (M : Mem) (b : Nat) (es : List (Value × Value)) : (M.putMap b es).abs = M.abs.putMap b es := by
  refine AW.ext' rfl rfl ?_
  funext c
  show T.get (T.set es M.mp b) c = if c = b then some es else T.get M.mp c
  rw [T.get_set]
noncomputable def eMkMap (M : Mem) : OR := some (.chan (some M.next), M.newMap)
theorem eMkMap_spec (hop : o.op = .makeMap t none) (h : eMkMap M = some (v, M')) : OpV P o ρ M.abs v M'.abs := by
  unfold eMkMap at h
  simp only [Option.some.injEq, Prod.mk.injEq] at h
  obtain ⟨rfl, rfl⟩ := h
  rw [Mem.newMap_spec]
  exact opv_makeMap hop
noncomputable def eLook (P : Program) (ρ : Env) (M : Mem) (t : TypeId) (x y : Operand) (c : Bool) : OR := match P.underlying t with
  | some (.map k e) => bif kT P k then (match okv P.globals.size ρ x with
    | some (.chan (some b)) => (match M.mp.get b with
      | none => none
      | some es => (match okv P.globals.size ρ y with
        | none => none
        | some key => bif kOf P k key then (match fM P k key es 0 with
          | none => none
          | some r => (match (P.info? e).bind (·.zero) with
            | none => none
            | some zv => bif plain zv then some (lkR c zv r, M) else none)) else none))
    | _ => none) else none
  | _ => none
theorem eLook_spec {c : Bool} (hop : o.op = .lookup t x y c) (h : eLook P ρ M t x y c = some (v, M')) : OpV P o ρ M.abs v M'.abs := by
  unfold eLook at h
  split at h
  · rename_i k e hu
    rw [cond_some] at h
    obtain ⟨hK, h⟩ := h
    split at h
    · rename_i b hx
      obtain ⟨x1, x2⟩ := okv_spec hx
      split at h
      · cases h
      rename_i es hes
      split at h
      · cases h
      rename_i key hy
      obtain ⟨y1, y2⟩ := okv_spec hy
      rw [cond_some] at h
      obtain ⟨hk, h⟩ := h
      split at h
      · cases h
      rename_i r hf
      split at h
      · cases h
      rename_i zv hz
      rw [cond_some] at h
      obtain ⟨hp, h⟩ := h
      simp only [Option.some.injEq, Prod.mk.injEq] at h
      obtain ⟨rfl, rfl⟩ := h
      exact opv_lookup hop x1 y1 hu hK x2 (show M.abs.mp b = some es from hes) y2 hk hf hz hp
    · cases h
  · cases h
noncomputable def eMapUp (P : Program) (ρ : Env) (M : Mem) (t : TypeId) (x y z : Operand) : OR := match P.underlying t with
  | some (.map k e) => bif kT P k then (match okv P.globals.size ρ x with
    | some (.chan (some b)) => (match M.mp.get b with
      | none => none
      | some es => (match okv P.globals.size ρ y with
        | none => none
        | some key => (match okv P.globals.size ρ z with
          | none => none
          | some xv => bif kOf P k key then (match fM P k key es 0 with
            | none => none
            | some r => some (undef, M.putMap b (upR es key xv r))) else none)))
    | _ => none) else none
  | _ => none
theorem eMapUp_spec (hop : o.op = .mapUpdate t x y z) (h : eMapUp P ρ M t x y z = some (v, M')) : OpV P o ρ M.abs v M'.abs := by
  unfold eMapUp at h
  split at h
  · rename_i k e hu
    rw [cond_some] at h
    obtain ⟨hK, h⟩ := h
    split at h
    · rename_i b hx
      obtain ⟨x1, x2⟩ := okv_spec hx
      split at h
      · cases h
      rename_i es hes
      split at h
      · cases h
      rename_i key hy
      obtain ⟨y1, y2⟩ := okv_spec hy
      split at h
      · cases h
      rename_i xv hz
      obtain ⟨z1, z2⟩ := okv_spec hz
      rw [cond_some] at h
      obtain ⟨hk, h⟩ := h
      split at h
      · cases h
      rename_i r hf
      simp only [Option.some.injEq, Prod.mk.injEq] at h
      obtain ⟨rfl, rfl⟩ := h
      rw [Mem.putMap_spec]
      exact opv_mapUpdate hop x1 y1 z1 hu hK x2 (show M.abs.mp b = some es from hes) y2 hk z2 hf
    · cases h
  · cases h
noncomputable def eOp (P : Program) (ρ : Env) (M : Mem) : Op → OR
  | .move x => eMove P ρ M x
  | .assign x => eMove P ρ M x
  | .pick a b c => ePick P ρ M a b c
  | .alloc t => eAlloc P M t
  | .box t x => eBox P ρ M t x
  | .build t ps => eBuild P ρ M t ps
  | .buildSlice t n ps => eBuildS P ρ M t n ps
  | .load t x => eLoad P ρ M t x
  | .store t x y => eStore P ρ M t x y
  | .nilCheck x => eNil P ρ M x
  | .binOp op xt x y _ => eBin P ρ M op xt x y
  | .unOp op _ x => eUn P ρ M op x
  | .convert s d x => eConv P ρ M s d x
  | .makeInterface xt x => eMkI P ρ M xt x
  | .makeFunc fn a c => eMkF P ρ M fn a c
  | .makeSlice t x y => eMake P ρ M t x y
  | .slice t x l h m => eSlice P ρ M t x l h m
  | .fieldAddr t x n => eFldA P ρ M t x n
  | .field t x n => eField P ρ M t x n
  | .indexAddr t x y => eIxA P ρ M t x y
  | .index t x y => eIx P ρ M t x y
  | .typeAssert x _ a ok => eAssert P ρ M x a ok
  | .extract x i => eExtract P ρ M x i
  | .makeMap _ none => eMkMap M
  | .lookup t x y c => eLook P ρ M t x y c
  | .mapUpdate t x y z => eMapUp P ρ M t x y z
  | .call ⟨.builtin b, ⟨xs⟩, ⟨ts⟩⟩ => (match b with
    | .len => (match xs with | [x] => eLen P ρ M ⟨ts⟩ x | _ => none)
    | .unsafeSliceData => (match xs with | [x] => eUsd P ρ M x | _ => none)
    | .unsafeString => (match xs with | [x, y] => (match ts with | [pt, _] => eUstr P ρ M pt x y | _ => none) | _ => none)
    | .cap => (match xs with | [x] => eCap P ρ M ⟨ts⟩ x | _ => none)
    | .max => (match xs with | [x, y] => eMM P ρ M true x y | _ => none)
    | .min => (match xs with | [x, y] => eMM P ρ M false x y | _ => none)
    | .append => (match xs with | [x, y] => (match ts with | [sT, xT] => (match eAppend P ρ M sT xT x y with | some r => some r | none => eAppendZ P ρ M sT xT x y) | _ => none) | _ => none)
    | .copy => (match xs with | [x, y] => (match ts with | [sT, xT] => eCopy P ρ M sT xT x y | _ => none) | _ => none)
    | _ => none)
  | _ => none
theorem eOp_spec (h : eOp P ρ M o.op = some (v, M')) : OpV P o ρ M.abs v M'.abs := by
  generalize hop : o.op = p at h
  unfold eOp at h
  split at h
  · exact eMove_spec (.inl hop) h
  · exact eMove_spec (.inr hop) h
  · exact ePick_spec hop h
  · exact eAlloc_spec hop h
  · exact eBox_spec hop h
  · exact eBuild_spec hop h
  · exact eBuildS_spec hop h
  · exact eLoad_spec hop h
  · exact eStore_spec hop h
  · exact eNil_spec hop h
  · exact eBin_spec hop h
  · exact eUn_spec hop h
  · exact eConv_spec hop h
  · exact eMkI_spec hop h
  · exact eMkF_spec hop h
  · exact eMake_spec hop h
  · exact eSlice_spec hop h
  · exact eFldA_spec hop h
  · exact eField_spec hop h
  · exact eIxA_spec hop h
  · exact eIx_spec hop h
  · exact eAssert_spec hop h
  · exact eExtract_spec hop h
  · exact eMkMap_spec hop h
  · exact eLook_spec hop h
  · exact eMapUp_spec hop h
  · split at h
    · split at h
      · exact eLen_spec hop h
      · cases h
    · split at h
      · exact eUsd_spec hop h
      · cases h
    · split at h
      · split at h
        · exact eUstr_spec hop h
        · cases h
      · cases h
    · split at h
      · exact eCap_spec hop h
      · cases h
    · split at h
      · exact eMM_spec (mx := true) hop h
      · cases h
    · split at h
      · exact eMM_spec (mx := false) hop h
      · cases h
    · split at h
      · split at h
        · split at h
          · rename_i r hr
            simp only [Option.some.injEq] at h
            subst h
            exact eAppend_spec hop hr
          · exact eAppendZ_spec hop h
        · cases h
      · cases h
    · split at h
      · split at h
        · exact eCopy_spec hop h
        · cases h
      · cases h
    · cases h
  · cases h
end
end Go.Ri
set_option linter.unusedSimpArgs false
set_option linter.unusedVariables false
set_option linter.unusedSectionVars false
namespace Go.Ri
open Go Go.Am Go.RowKit
variable [SymE]
variable [FT] [FTok]
section
variable {P : Program} {ρ ρ' : Env} {M M' : Mem} {o : Oper} {v : Value}
theorem okv_congr {G : Nat} {x : Operand} (h : ∀ t, x = .tmp t → ρ' t = ρ t) : okv G ρ' x = okv G ρ x := by
  cases x with
  | tmp t => simp only [okv, h t rfl]
  | const _ => rfl
  | global _ => rfl
  | func _ => rfl
def AgreeX (G : Nat) (ρ ρ' : Env) (l : List Operand) : Prop := ∀ x ∈ l, okv G ρ' x = okv G ρ x
theorem okvs_congr {G : Nat} : ∀ {l : List Operand}, AgreeX G ρ ρ' l → okvs G ρ' l = okvs G ρ l
  | [], _ => rfl
  | x :: l, h => by
    show (match okv G ρ' x with
      | none => none
      | some v => match okvs G ρ' l with
        | none => none
        | some l => some (v :: l)) = (match okv G ρ x with
      | none => none
      | some v => match okvs G ρ l with
        | none => none
        | some l => some (v :: l))
    rw [h x (by simp), okvs_congr fun y hy => h y (by simp [hy])]
theorem okps_congr {G : Nat} : ∀ {l : List (Nat × Operand)}, AgreeX G ρ ρ' (l.map (·.2)) → okps G ρ' l = okps G ρ l
  | [], _ => rfl
  | x :: l, h => by
    show (match okv G ρ' x.2 with
      | none => none
      | some v => (match okps G ρ' l with
        | none => none
        | some l => some ((x.1, v) :: l))) = (match okv G ρ x.2 with
      | none => none
      | some v => (match okps G ρ l with
        | none => none
        | some l => some ((x.1, v) :: l)))
    rw [h x.2 (by simp), okps_congr fun y hy => h y (List.mem_cons_of_mem _ hy)]
theorem bnd_congr {G d : Nat} {q : Option Operand} (h : AgreeX G ρ ρ' q.toArray.toList) : bnd G ρ' d q = bnd G ρ d q := by
  cases q with
  | none => rfl
  | some x => simp only [bnd]; rw [h x (by simp)]
theorem eOp_congr {op : Op} (h : AgreeX P.globals.size ρ ρ' op.operands.toList) : eOp P ρ' M op = eOp P ρ M op := by
  cases op with
  | move x => simp only [eOp, eMove, h x (by simp [Op.operands])]
  | assign x => simp only [eOp, eMove, h x (by simp [Op.operands])]
  | pick c a b => simp only [eOp, ePick, h c (by simp [Op.operands]), h a (by simp [Op.operands]), h b (by simp [Op.operands])]
  | alloc t => rfl
  | box t x => simp only [eOp, eBox, h x (by simp [Op.operands])]
  | build t ps => simp only [eOp, eBuild]; rw [okps_congr (by simpa [Op.operands] using h)]
  | buildSlice t n ps =>
    simp only [eOp]
    unfold eBuildS
    split
    · rfl
    · simp only [eBuildS1]; rw [okps_congr (by simpa [Op.operands] using h)]
  | load t x => simp only [eOp, eLoad, h x (by simp [Op.operands])]
  | store t x y => simp only [eOp, eStore, h x (by simp [Op.operands]), h y (by simp [Op.operands])]
  | nilCheck x => simp only [eOp, eNil, h x (by simp [Op.operands])]
  | binOp op xt x y yt => simp only [eOp, eBin, h x (by simp [Op.operands]), h y (by simp [Op.operands])]
  | unOp op xt x => simp only [eOp, eUn, h x (by simp [Op.operands])]
  | convert s d x => simp only [eOp, eConv, h x (by simp [Op.operands])]
  | makeInterface xt x => simp only [eOp, eMkI, h x (by simp [Op.operands])]
  | makeFunc fn a c =>
    simp only [eOp, eMkF]
    rw [okvs_congr (ρ := ρ) (ρ' := ρ') (l := a.toList) fun x hx => h x (by simp [Op.operands]; exact .inl (by simpa using hx)), okvs_congr (ρ := ρ) (ρ' := ρ') (l := c.toList) fun x hx => h x (by simp [Op.operands]; exact .inr (by simpa using hx))]
  | makeSlice t x y => simp only [eOp, eMake, h x (by simp [Op.operands]), h y (by simp [Op.operands])]
  | slice t x l hi m =>
    have hx := h x (by simp [Op.operands])
    have hl : ∀ d, bnd P.globals.size ρ' d l = bnd P.globals.size ρ d l := fun d => bnd_congr fun y hy => h y (by simp [Op.operands]; simp at hy; exact .inr (.inl hy))
    have hh : ∀ d, bnd P.globals.size ρ' d hi = bnd P.globals.size ρ d hi := fun d => bnd_congr fun y hy => h y (by simp [Op.operands]; simp at hy; exact .inr (.inr (.inl hy)))
    have hm : ∀ d, bnd P.globals.size ρ' d m = bnd P.globals.size ρ d m := fun d => bnd_congr fun y hy => h y (by simp [Op.operands]; simp at hy; exact .inr (.inr (.inr hy)))
    cases hi with
    | none =>
      cases m with
      | none => simp only [eOp, eSlice, hx, hl, hh]
      | some m => simp only [eOp, eSlice, hx, hl, hh]
    | some hi =>
      cases m with
      | none => simp only [eOp, eSlice, hx, hl, hh]
      | some m => simp only [eOp, eSlice, hx, hl, hh, hm]
  | fieldAddr t x n => simp only [eOp, eFldA, h x (by simp [Op.operands])]
  | field t x n => simp only [eOp, eField, h x (by simp [Op.operands])]
  | indexAddr t x y => simp only [eOp, eIxA, h x (by simp [Op.operands]), h y (by simp [Op.operands])]
  | index t x y => simp only [eOp, eIx, h x (by simp [Op.operands]), h y (by simp [Op.operands])]
  | typeAssert x xt a ok => simp only [eOp, eAssert, h x (by simp [Op.operands])]
  | extract x i => simp only [eOp, eExtract, h x (by simp [Op.operands])]
  | makeMap t r => cases r <;> rfl
  | lookup t x y c => simp only [eOp, eLook, h x (by simp [Op.operands]), h y (by simp [Op.operands])]
  | mapUpdate t x y z => simp only [eOp, eMapUp, h x (by simp [Op.operands]), h y (by simp [Op.operands]), h z (by simp [Op.operands])]
  | call c =>
    obtain ⟨cal, ⟨xs⟩, ⟨ts⟩⟩ := c
    cases cal with
    | builtin b =>
      have hx : ∀ x ∈ xs, okv P.globals.size ρ' x = okv P.globals.size ρ x := fun x hx => h x (by simp [Op.operands, Call.operands]; simpa using hx)
      cases b with
      | len =>
        simp only [eOp]
        split
        · rename_i a; simp only [eLen, hx a (by simp)]
        · rfl
      | unsafeSliceData =>
        simp only [eOp]
        split
        · rename_i a; simp only [eUsd, hx a (by simp)]
        · rfl
      | unsafeString =>
        simp only [eOp]
        split
        · split
          · simp only [eUstr, hx _ (List.mem_cons_self ..), hx _ (List.mem_cons_of_mem _ (List.mem_cons_self ..))]
          · rfl
        · rfl
      | cap =>
        simp only [eOp]
        split
        · rename_i a; simp only [eCap, hx a (by simp)]
        · rfl
      | max =>
        simp only [eOp]
        split
        · simp only [eMM, hx _ (List.mem_cons_self ..), hx _ (List.mem_cons_of_mem _ (List.mem_cons_self ..))]
        · rfl
      | min =>
        simp only [eOp]
        split
        · simp only [eMM, hx _ (List.mem_cons_self ..), hx _ (List.mem_cons_of_mem _ (List.mem_cons_self ..))]
        · rfl
      | append =>
        simp only [eOp]
        split
        · split
          · simp only [eAppend, eAppendZ, hx _ (List.mem_cons_self ..), hx _ (List.mem_cons_of_mem _ (List.mem_cons_self ..))]
          · rfl
        · rfl
      | copy =>
        simp only [eOp]
        split
        · split
          · simp only [eCopy, hx _ (List.mem_cons_self ..), hx _ (List.mem_cons_of_mem _ (List.mem_cons_self ..))]
          · rfl
        · rfl
      | _ => rfl
    | value f => rfl
    | invoke r m => rfl
  | _ => rfl
theorem agr_x {ops : Array Oper} {o : Oper} {G : Nat} (h : Agr ops o ρ ρ') : AgreeX G ρ ρ' o.op.operands.toList := by
  intro x hx
  refine okv_congr fun t ht => h t ?_
  subst ht
  unfold looks
  rw [List.mem_append]
  exact .inl (List.mem_filterMap.2 ⟨_, hx, rfl⟩)
noncomputable def gd (ops : Array Oper) (ρ : Env) : Option (Nat × Bool) → Option Bool
  | none => some true
  | some (j, w) => (match dstOf ops j with
    | none => none
    | some t => (match ρ t with
      | .bool u => some (u == w)
      | .tuple ⟨[]⟩ => some false
      | _ => none))
theorem gd_spec {ops : Array Oper} {o : Oper} {b : Bool} (h : gd ops ρ o.guard = some b) (h' : Agr ops o ρ ρ') : wants ops o ρ' b := by
  unfold wants
  cases hg : o.guard with
  | none => rw [hg] at h; simp only [gd, Option.some.injEq] at h; exact h.symm
  | some p =>
    obtain ⟨j, w⟩ := p
    rw [hg] at h
    simp only [gd] at h
    cases hd : dstOf ops j with
    | none => rw [hd] at h; cases h
    | some t =>
      rw [hd] at h
      simp only at h
      have e : ρ' t = ρ t := h' t (by
        unfold looks
        rw [List.mem_append]
        refine .inr ?_
        rw [hg]; simp [hd])
      refine ⟨t, hd, ?_⟩
      rw [e]
      split at h
      · rename_i u hu
        simp only [Option.some.injEq] at h
        exact .inl ⟨u, hu, h.symm⟩
      · rename_i hu
        simp only [Option.some.injEq] at h
        exact .inr ⟨hu, h.symm⟩
      · cases h
theorem Agr.refl {ops : Array Oper} {o : Oper} : Agr ops o ρ ρ := fun _ _ => rfl
noncomputable def fnOk (P : Program) (g : FuncId) : Bool := match P.funcs[g]? with
  | some fn => (match fn.body with
    | some _ => !(fn.name == "runtime.NumGoroutine")
    | none => false)
  | none => false
theorem fnOk_spec {g : FuncId} (h : fnOk P g = true) : ∃ fn c, P.funcs[g]? = some fn ∧ (fn.name == "runtime.NumGoroutine") = false ∧ fn.body = some c := by
  unfold fnOk at h
  split at h
  · rename_i fn hf
    split at h
    · rename_i c hb
      exact ⟨fn, c, hf, by simpa using h, hb⟩
    · cases h
  · cases h
noncomputable def calls (P : Program) (ρ : Env) (z : Operand) (xs : List Operand) : Option (FuncId × List Value) := match okv P.globals.size ρ z with
  | some (.func (.func g) ⟨fa⟩ ⟨ca⟩) => (match okvs P.globals.size ρ xs with
    | none => none
    | some l => bif fnOk P g then some (g, fa ++ l ++ ca) else none)
  | _ => none
theorem calls_spec {z : Operand} {xs : List Operand} {at' : Array TypeId} {g : FuncId} {l : List Value} (hop : o.op = .call { callee := .value z, args := ⟨xs⟩, argTypes := at' }) (h : calls P ρ z xs = some (g, l)) : OpC P o ρ g l := by
  unfold calls at h
  split at h
  · rename_i g' fa ca hz
    split at h
    · cases h
    rename_i r hr
    rw [cond_some] at h
    obtain ⟨hf, h⟩ := h
    simp only [Option.some.injEq, Prod.mk.injEq] at h
    obtain ⟨rfl, rfl⟩ := h
    obtain ⟨z1, z2⟩ := okv_spec hz
    obtain ⟨r1, r2⟩ := okvs_spec hr
    obtain ⟨fn, c, f1, f2, f3⟩ := fnOk_spec hf
    exact opc_dyn hop z1 (by simpa using r1) z2 f1 f2 f3 (by simp [r2])
  · cases h
theorem calls_congr {z : Operand} {xs : List Operand} (h : AgreeX P.globals.size ρ ρ' (z :: xs)) : calls P ρ' z xs = calls P ρ z xs := by
  simp only [calls]
  rw [h z (by simp), okvs_congr (ρ := ρ) (ρ' := ρ') (l := xs) fun y hy => h y (by simp [hy])]
inductive Ext where
  | idx
  | same
abbrev Exts := FuncId → Option Ext
def ExtOk (P : Program) (X : Exts) : Prop := ∀ g, (X g = some .idx → IsExt P g Extern.BytealgIndexByte.indexByte) ∧ (X g = some .same → IsExt P g Extern.AbiNoEscape.same)
noncomputable def extR (P : Program) (X : Exts) (ρ : Env) (z : Operand) (xs : List Operand) : Option Value := match z with
  | .func g => (match X g with
    | some .idx => (match okvs P.globals.size ρ xs with
      | some [.string a, .int .u8 c] => some (.int .i64 (firstIdx a c.toNat.toUInt8))
      | some [.string ⟨⟨a⟩⟩, .map (some q)] => FT.fst a (.map (some q))
      | _ => none)
    | some .same => (match okvs P.globals.size ρ xs with
      | some [v] => some v
      | _ => none)
    | none => none)
  | _ => none
theorem extR_spec {X : Exts} (hX : ExtOk P X) {z : Operand} {xs : List Operand} {at' : Array TypeId} {aw : AW} (hop : o.op = .call { callee := .value z, args := ⟨xs⟩, argTypes := at' }) (h : extR P X ρ z xs = some v) : OpV P o ρ aw v aw := by
  unfold extR at h
  split at h
  · rename_i g
    split at h
    · rename_i hg
      split at h
      · rename_i a c hxs
        obtain ⟨a1, a2⟩ := okvs_spec hxs
        simp only [Option.some.injEq] at h; subst h
        exact ov_idx hop a1 ((hX g).1 hg) a2
      · rename_i a q hxs
        obtain ⟨a1, a2⟩ := okvs_spec hxs
        obtain ⟨c, d1, d2⟩ := FTok.fst _ _ _ h
        refine opv_den ?_
        rw [d2]
        refine ov_idx (P := P) (ρ := fun t => den (ρ t)) hop a1 ((hX g).1 hg) ?_
        have : ∀ l : List Operand, l.all (okOpd P.globals.size) = true → l.map (Env.eval fun t => den (ρ t)) = (l.map ρ.eval).map den := by
          intro l hl
          rw [List.map_map]
          refine List.map_congr_left fun y hy => ?_
          exact den_eval (List.all_eq_true.1 hl y hy)
        rw [this _ a1, a2]
        simp only [List.map_cons, List.map_nil, d1]
        rfl
      · cases h
    · rename_i hg
      split at h
      · rename_i u hxs
        obtain ⟨a1, a2⟩ := okvs_spec hxs
        simp only [Option.some.injEq] at h; subst h
        exact ov_noEsc hop a1 ((hX g).2 hg) a2
      · cases h
    · cases h
  · cases h
theorem extR_congr {X : Exts} {z : Operand} {xs : List Operand} (h : AgreeX P.globals.size ρ ρ' (z :: xs)) : extR P X ρ' z xs = extR P X ρ z xs := by
  have hs : okvs P.globals.size ρ' xs = okvs P.globals.size ρ xs := okvs_congr fun y hy => h y (by simp [hy])
  unfold extR
  rw [hs]
noncomputable def defers (P : Program) (ρ : Env) (z : Operand) (xs : List Operand) : Option Deferred := match okv P.globals.size ρ z with
  | some (.func (.func g) ⟨fa⟩ ⟨ca⟩) => (match okvs P.globals.size ρ xs with
    | none => none
    | some l => some { target := .fn (.func g) ⟨ca⟩, args := ⟨fa ++ l⟩ })
  | _ => none
theorem defers_spec {z : Operand} {xs : List Operand} {at' : Array TypeId} {d : Deferred} (hop : o.op = .defer { callee := .value z, args := ⟨xs⟩, argTypes := at' }) (h : defers P ρ z xs = some d) : OpD P o ρ d := by
  unfold defers at h
  split at h
  · rename_i g' fa ca hz
    split at h
    · cases h
    rename_i r hr
    simp only [Option.some.injEq] at h
    subst h
    obtain ⟨z1, z2⟩ := okv_spec hz
    obtain ⟨r1, r2⟩ := okvs_spec hr
    have := opd_dyn (ρ := ρ) (P := P) hop z1 (by simpa using r1) z2
    rw [show (⟨fa ++ r⟩ : Array Value) = ⟨fa⟩ ++ (⟨xs⟩ : Array Operand).map ρ.eval by apply Array.ext'; simp [r2]]
    exact this
  · cases h
def quiet (P : Program) : Op → Bool
  | .move _ | .assign _ | .pick _ _ _ | .build _ _ | .load _ _ | .nilCheck _ | .binOp _ _ _ _ _ | .unOp _ _ _ | .makeInterface _ _ | .makeFunc _ _ _ | .slice _ _ _ _ _ | .fieldAddr _ _ _ | .field _ _ _ | .indexAddr _ _ _ | .index _ _ _
  | .typeAssert _ _ _ _ | .extract _ _ | .lookup _ _ _ _ => true
  | .call ⟨.builtin .len, _, _⟩ | .call ⟨.builtin .max, _, _⟩ | .call ⟨.builtin .min, _, _⟩ => true
  | .convert _ d _ => (match P.underlying d with | some (.slice _) => false | _ => true)
  | _ => false
theorem quiet_spec {op : Op} (hq : quiet P op = true) (h : eOp P ρ M op = some (v, M')) : M' = M := by
  unfold quiet at hq
  split at hq
  case h_23 => cases hq
  case h_22 sd d x =>
    simp only [eOp] at h
    unfold eConv at h
    split at h
    · cases h
    split at h
    · cases h
    split at h
    · (repeat' split at h) <;> cases h <;> rfl
    · (repeat' split at h) <;> cases h <;> rfl
    · rename_i hd; rw [hd] at hq; cases hq
    · simp only [cond_eq_ite] at h; (repeat' split at h) <;> cases h <;> rfl
    · simp only [cond_eq_ite] at h; (repeat' split at h) <;> cases h <;> rfl
    · cases h
  case h_19 args ats => obtain ⟨xs⟩ := args; obtain ⟨ts⟩ := ats; simp only [eOp] at h; unfold eLen at h; (repeat' split at h) <;> cases h <;> rfl
  case h_20 args ats => obtain ⟨xs⟩ := args; obtain ⟨ts⟩ := ats; simp only [eOp] at h; unfold eMM at h; simp only [cond_eq_ite] at h; (repeat' split at h) <;> cases h <;> rfl
  case h_21 args ats => obtain ⟨xs⟩ := args; obtain ⟨ts⟩ := ats; simp only [eOp] at h; unfold eMM at h; simp only [cond_eq_ite] at h; (repeat' split at h) <;> cases h <;> rfl
  all_goals simp only [eOp] at h
  · unfold eMove at h; (repeat' split at h) <;> cases h <;> rfl
  · unfold eMove at h; (repeat' split at h) <;> cases h <;> rfl
  · unfold ePick at h; (repeat' split at h) <;> cases h <;> rfl
  · unfold eBuild at h; simp only [cond_eq_ite] at h; (repeat' split at h) <;> cases h <;> rfl
  · unfold eLoad at h; simp only [cond_eq_ite] at h; (repeat' split at h) <;> cases h <;> rfl
  · unfold eNil at h; (repeat' split at h) <;> cases h <;> rfl
  · unfold eBin eEqSt at h; simp only [cond_eq_ite] at h; (repeat' split at h) <;> cases h <;> rfl
  · unfold eUn at h; (repeat' split at h) <;> cases h <;> rfl
  · unfold eMkI at h; (repeat' split at h) <;> cases h <;> rfl
  · unfold eMkF at h; (repeat' split at h) <;> cases h <;> rfl
  · unfold eSlice at h; simp only [cond_eq_ite] at h; (repeat' split at h) <;> cases h <;> rfl
  · unfold eFldA at h; simp only [cond_eq_ite] at h; (repeat' split at h) <;> cases h <;> rfl
  · unfold eField at h; simp only [cond_eq_ite] at h; (repeat' split at h) <;> cases h <;> rfl
  · unfold eIxA at h; simp only [cond_eq_ite] at h; (repeat' split at h) <;> cases h <;> rfl
  · unfold eIx at h; simp only [cond_eq_ite] at h; (repeat' split at h) <;> cases h <;> rfl
  · unfold eAssert at h; simp only [cond_eq_ite] at h; (repeat' split at h) <;> cases h <;> rfl
  · unfold eExtract at h; (repeat' split at h) <;> cases h <;> rfl
  · unfold eLook at h; simp only [cond_eq_ite] at h; (repeat' split at h) <;> cases h <;> rfl
end
end Go.Ri
set_option linter.unusedSimpArgs false
set_option linter.unusedVariables false
set_option linter.unusedSectionVars false
namespace Go.Ri
open Go Go.Am Go.RowKit
noncomputable def lEqL (e : Value → Value → Bool) : List Value → List Value → Bool := List.rec (motive := fun _ => List Value → Bool) (fun l => List.rec (motive := fun _ => Bool) true (fun _ _ _ => false) l) fun a _ ih l => List.rec (motive := fun _ => Bool) false (fun b l _ => Bool.rec (motive := fun _ => Bool) false (ih l) (e a b)) l
def qBool (p : Bool) : Value → Bool
  | .bool q => p == q
  | _ => false
def qInt (k : IntKind) (m : Int) : Value → Bool
  | .int k' n => decide (k = k') && decide (m = n)
  | _ => false
def qStr (x : List UInt8) : Value → Bool
  | .string ⟨⟨y⟩⟩ => decide (x = y)
  | _ => false
def qAddr : Option Addr → Option Addr → Bool
  | none, none => true
  | some ⟨b1, o1, none⟩, some ⟨b2, o2, none⟩ => Nat.beq b1 b2 && Nat.beq o1 o2
  | _, _ => false
def qPtr (x : Option Addr) : Value → Bool
  | .pointer y => qAddr x y
  | _ => false
def qSl (x : Option Addr) (l c : Nat) : Value → Bool
  | .slice y l' c' => qAddr x y && (Nat.beq l l' && Nat.beq c c')
  | _ => false
def qMap (x : Option Nat) : Value → Bool
  | .map none => (match x with | none => true | some _ => false)
  | .map (some y) => (match x with | none => false | some x => Nat.beq x y)
  | _ => false
def qChan (x : Option Nat) : Value → Bool
  | .chan none => (match x with | none => true | some _ => false)
  | .chan (some y) => (match x with | none => false | some x => Nat.beq x y)
  | _ => false
def qNF : Value → Bool
  | .nilFunc => true
  | _ => false
def qNI : Value → Bool
  | .nilIface => true
  | _ => false
noncomputable def qIf (e : Value → Value → Bool) (t : TypeId) (u : Value) : Value → Bool
  | .iface t' u' => Nat.beq t t' && e u u'
  | _ => false
noncomputable def qFn (e : Value → Value → Bool) (f : FuncId) (a c : List Value) : Value → Bool
  | .func (.func f') ⟨a'⟩ ⟨c'⟩ => Nat.beq f f' && (lEqL e a a' && lEqL e c c')
  | _ => false
noncomputable def qAgg (e : Value → Value → Bool) (a : List Value) : Value → Bool
  | .agg ⟨b⟩ => lEqL e a b
  | _ => false
noncomputable def qTup (e : Value → Value → Bool) (a : List Value) : Value → Bool
  | .tuple ⟨b⟩ => lEqL e a b
  | _ => false
noncomputable def vEq : Nat → Value → Value → Bool := Nat.rec (motive := fun _ => Value → Value → Bool) (fun _ _ => false) fun _ ih a b => match a with
  | .bool p => qBool p b
  | .int k m => qInt k m b
  | .string ⟨⟨x⟩⟩ => qStr x b
  | .pointer x => qPtr x b
  | .slice x l c => qSl x l c b
  | .map x => qMap x b
  | .chan x => qChan x b
  | .nilFunc => qNF b
  | .nilIface => qNI b
  | .iface t u => qIf ih t u b
  | .func (.func f) ⟨a⟩ ⟨c⟩ => qFn ih f a c b
  | .agg ⟨a⟩ => qAgg ih a b
  | .tuple ⟨a⟩ => qTup ih a b
  | _ => false
noncomputable def vEq.lEq := @lEqL
theorem lEqL_spec {e : Value → Value → Bool} (he : ∀ a b, e a b = true → a = b) : ∀ {a b : List Value}, lEqL e a b = true → a = b
  | [], [], _ => rfl
  | [], _ :: _, h => by cases h
  | _ :: _, [], h => by cases h
  | x :: a, y :: b, h => by
    have h : Bool.rec (motive := fun _ => Bool) false (lEqL e a b) (e x y) = true := h
    cases hx : e x y with
    | false => rw [hx] at h; cases h
    | true =>
      rw [hx] at h
      rw [he x y hx, lEqL_spec he h]
theorem lEq_spec {e : Value → Value → Bool} (he : ∀ a b, e a b = true → a = b) {a b : List Value} (h : vEq.lEq e a b = true) : a = b := lEqL_spec he h
theorem qAddr_spec {x y : Option Addr} (h : qAddr x y = true) : x = y := by
  unfold qAddr at h
  split at h
  · rfl
  · simp only [Bool.and_eq_true, Nat.beq_eq] at h
    rw [h.1, h.2]
  · cases h
theorem vEq_spec : ∀ (n : Nat) (a b : Value), vEq n a b = true → a = b
  | 0, a, b, h => by cases h
  | n + 1, a, b, h0 => by
    have ih := vEq_spec n
    have h : (match (generalizing := false) a with
      | .bool p => qBool p b
      | .int k m => qInt k m b
      | .string ⟨⟨x⟩⟩ => qStr x b
      | .pointer x => qPtr x b
      | .slice x l c => qSl x l c b
      | .map x => qMap x b
      | .chan x => qChan x b
      | .nilFunc => qNF b
      | .nilIface => qNI b
      | .iface t u => qIf (vEq n) t u b
      | .func (.func f) ⟨a⟩ ⟨c⟩ => qFn (vEq n) f a c b
      | .agg ⟨a⟩ => qAgg (vEq n) a b
      | .tuple ⟨a⟩ => qTup (vEq n) a b
      | _ => false) = true := h0
    clear h0
    split at h
    · unfold qBool at h; split at h
      · rw [eq_of_beq h]
      · cases h
    · unfold qInt at h; split at h
      · simp only [Bool.and_eq_true, decide_eq_true_eq] at h; rw [h.1, h.2]
      · cases h
    · unfold qStr at h; split at h
      · rw [of_decide_eq_true h]
      · cases h
    · unfold qPtr at h; split at h
      · rw [qAddr_spec h]
      · cases h
    · unfold qSl at h; split at h
      · simp only [Bool.and_eq_true, Nat.beq_eq] at h; rw [qAddr_spec h.1, h.2.1, h.2.2]
      · cases h
    · unfold qMap at h; split at h
      · split at h
        · rfl
        · cases h
      · split at h
        · cases h
        · rw [Nat.eq_of_beq_eq_true h]
      · cases h
    · unfold qChan at h; split at h
      · split at h
        · rfl
        · cases h
      · split at h
        · cases h
        · rw [Nat.eq_of_beq_eq_true h]
      · cases h
    · unfold qNF at h; split at h
      · rfl
      · cases h
    · unfold qNI at h; split at h
      · rfl
      · cases h
    · unfold qIf at h; split at h
      · simp only [Bool.and_eq_true, Nat.beq_eq] at h; rw [h.1, ih _ _ h.2]
      · cases h
    · unfold qFn at h; split at h
      · simp only [Bool.and_eq_true, Nat.beq_eq] at h; rw [h.1, lEqL_spec ih h.2.1, lEqL_spec ih h.2.2]
      · cases h
    · unfold qAgg at h; split at h
      · rw [lEqL_spec ih h]
      · cases h
    · unfold qTup at h; split at h
      · rw [lEqL_spec ih h]
      · cases h
    · cases h
variable [SymE]
variable [FT] [FTok]
abbrev Caller := FuncId → List Value → Mem → Option (AEnd × Mem)
def CS (P : Program) (C : Caller) : Prop := ∀ f args M e M', C f args M = some (e, M') → ACalls P f args M.abs fun e' aw' => e' = e ∧ aw' = M'.abs
section
variable {R : Type}
noncomputable def doT (t : T Value) (k : T Value → R) : R := T.dn t k
theorem doT_eq (t : T Value) (k : T Value → R) : doT t k = k t := rfl
noncomputable def doM (M : Mem) (k : Mem → R) : R := Mem.rec (motive := fun _ => R) (fun bl n mp => T.dn bl fun bl => doN n fun n => T.dn mp fun mp => k ⟨bl, n, mp⟩) M
theorem doM_eq (M : Mem) (k : Mem → R) : doM M k = k M := by
  obtain ⟨bl, n, mp⟩ := M
  show T.dn bl (fun bl => doN n fun n => T.dn mp fun mp => k ⟨bl, n, mp⟩) = _
  rw [T.dn_eq, doN_eq, T.dn_eq]
end
inductive OpsR where
  | norm (ρ : T Value) (ds : List Deferred) (M : Mem)
  | pan (ch : List PanicEntry) (ρ : T Value) (ds : List Deferred) (M : Mem)
  | bad
def OpsR.holds (Kn : Env → List Deferred → AW → Prop) (Kp : List PanicEntry → Env → List Deferred → AW → Prop) : OpsR → Prop
  | .norm ρ ds M => Kn (slot ρ) ds M.abs
  | .pan ch ρ ds M => Kp ch (slot ρ) ds M.abs
  | .bad => False
def OpsR.holdsX (ops : Array Oper) (Kn : Env → List Deferred → AW → Prop) (Kp : List PanicEntry → Env → List Deferred → AW → Prop) : OpsR → Prop
  | .norm ρ ds M => Kn (slot ρ) ds M.abs
  | .pan ch ρ ds M => ∀ ρ', Off ops (slot ρ) ρ' → Kp ch ρ' ds M.abs
  | .bad => False
noncomputable def op1 (P : Program) (X : Exts) (C : Caller) (ops : Array Oper) (o : Oper) (ρ : T Value) (ds : List Deferred) (M : Mem) (next : T Value → List Deferred → Mem → OpsR) : OpsR := match gd ops (slot ρ) o.guard with
  | none => .bad
  | some false => doT (putS ρ o.dst undef) fun ρ => next ρ ds M
  | some true => (match o.op with
    | .call ⟨.value z, ⟨xs⟩, _⟩ => (match calls P (slot ρ) z xs with
      | none => (match extR P X (slot ρ) z xs with
        | none => .bad
        | some v => doV v fun v => doT (putS ρ o.dst v) fun ρ => next ρ ds M)
      | some (g, l) => doL l fun l => (match C g l M with
        | none => .bad
        | some (.returned v, M') => doV v fun v => doT (putS ρ o.dst v) fun ρ => doM M' fun M' => next ρ ds M'
        | some (.panicked ch, M') => .pan ch ρ ds M'))
    | .defer ⟨.value z, ⟨xs⟩, _⟩ => (match defers P (slot ρ) z xs with
      | none => .bad
      | some d => doT (putS ρ o.dst undef) fun ρ => next ρ (d :: ds) M)
    | .panic x => (match okv P.globals.size (slot ρ) x with
      | some (.iface u z) => .pan [⟨.iface u z, false, false⟩] ρ ds M
      | _ => .bad)
    | op => (match eOp P (slot ρ) M op with
      | none => .bad
      | some (v, M') => doV v fun v => doT (putS ρ o.dst v) fun ρ => doM M' fun M' => next ρ ds M'))
noncomputable def ops1 (P : Program) (X : Exts) (C : Caller) (ops : Array Oper) (l : List Oper) : T Value → List Deferred → Mem → OpsR := List.rec (motive := fun _ => T Value → List Deferred → Mem → OpsR) (fun ρ ds M => .norm ρ ds M)
  (fun o _ ih ρ ds M => op1 P X C ops o ρ ds M ih) l
section
variable {P : Program} {X : Exts} {C : Caller} {N : Nat} {ops : Array Oper} {Kn : Env → List Deferred → AW → Prop} {Kp : List PanicEntry → Env → List Deferred → AW → Prop}
theorem slot_put (ρ : T Value) (d : Option Tmp) (v : Value) : slot (putS ρ d v) = (show Env from slot ρ).put d v := putS_spec ρ d v
theorem op1_spec (hX : ExtOk P X) (hC : CS P C) (hN : dstsOk N ops = true) {o : Oper} {i : Nat} {rest : List Nat} (ho : ops[i]? = some o) {next : T Value → List Deferred → Mem → OpsR}
    (hn : ∀ ρ ds M, (next ρ ds M).holds Kn Kp → AOps P N ops rest (slot ρ) ds M.abs Kn Kp) {ρ : T Value} {ds : List Deferred} {M : Mem} (h : (op1 P X C ops o ρ ds M next).holds Kn Kp) : AOps P N ops (i :: rest) (slot ρ) ds M.abs Kn Kp := by
  unfold op1 at h
  split at h
  · exact h.elim
  · rename_i hg
    rw [doT_eq] at h
    have := hn _ _ _ h
    rw [slot_put] at this
    exact aops_skip hN ho (gd_spec hg Agr.refl) this
  · rename_i hg
    have hw := gd_spec (ρ := slot ρ) (ops := ops) (o := o) hg Agr.refl
    generalize hop : o.op = p at h
    split at h
    · rename_i z xs ts
      split at h
      · split at h
        · exact h.elim
        rename_i v hv
        rw [doV_eq, doT_eq] at h
        have := hn _ _ _ h
        rw [slot_put] at this
        exact aops_val hN ho hw (extR_spec hX hop hv) this
      rename_i g l hc
      rw [doL_eq] at h
      split at h
      · exact h.elim
      · rename_i v M' hr
        rw [doV_eq, doT_eq, doM_eq] at h
        have := hn _ _ _ h
        rw [slot_put] at this
        refine aops_call hN ho hw (calls_spec hop hc) (ACalls.mono (hC _ _ _ _ _ hr) fun e aw' he => ?_)
        obtain ⟨rfl, rfl⟩ := he
        exact this
      · rename_i ch M' hr
        refine aops_call hN ho hw (calls_spec hop hc) (ACalls.mono (hC _ _ _ _ _ hr) fun e aw' he => ?_)
        obtain ⟨rfl, rfl⟩ := he
        exact h
    · rename_i z xs ts
      split at h
      · exact h.elim
      rename_i d hd
      rw [doT_eq] at h
      have := hn _ _ _ h
      rw [slot_put] at this
      exact aops_defer hN ho hw (defers_spec hop hd) this
    · rename_i x
      split at h
      · rename_i u z hx
        obtain ⟨x1, x2⟩ := okv_spec hx
        exact aops_panic hN ho hw (opp_panic hop x1 x2) h
      · exact h.elim
    · split at h
      · exact h.elim
      rename_i v M' hv
      rw [doV_eq, doT_eq, doM_eq] at h
      have := hn _ _ _ h
      rw [slot_put] at this
      exact aops_val hN ho hw (eOp_spec (by rw [hop]; exact hv)) this
theorem ops1_spec (hX : ExtOk P X) (hC : CS P C) (hN : dstsOk N ops = true) : ∀ (l : List Oper) (i : Nat) (ρ : T Value) (ds : List Deferred) (M : Mem), ops.toList.drop i = l → (ops1 P X C ops l ρ ds M).holds Kn Kp → AOps P N ops (List.range' i l.length) (slot ρ) ds M.abs Kn Kp
  | [], i, ρ, ds, M, hl, h => aops_nil h
  | o :: l, i, ρ, ds, M, hl, h => by
    have hi : i < ops.toList.length := by
      rcases Nat.lt_or_ge i ops.toList.length with h | h
      · exact h
      · rw [List.drop_eq_nil_of_le h] at hl; cases hl
    rw [List.drop_eq_getElem_cons hi] at hl
    injection hl with h1 h2
    have ho : ops[i]? = some o := by
      rw [← h1]
      have hi' : i < ops.size := by simpa using hi
      simp [hi']
    exact op1_spec hX hC hN ho (fun ρ ds M h => ops1_spec hX hC hN l (i + 1) ρ ds M h2 h) h
theorem region_spec (hX : ExtOk P X) (hC : CS P C) (hN : dstsOk N ops = true) {ρ : T Value} {ds : List Deferred} {M : Mem} (h : (ops1 P X C ops ops.toList ρ ds M).holds Kn Kp) : AOps P N ops (List.range ops.size) (slot ρ) ds M.abs Kn Kp := by
  have := ops1_spec hX hC hN ops.toList 0 ρ ds M rfl h
  rw [Array.length_toList] at this
  rw [List.range_eq_range']
  exact this
end
noncomputable def hval (P : Program) (ops : Array Oper) (o : Oper) (ρ : Env) (M : Mem) : Option Value := match gd ops ρ o.guard with
  | none => none
  | some false => some undef
  | some true => bif quiet P o.op then (match eOp P ρ M o.op with
    | none => none
    | some (v, _) => some v) else none
theorem hval_spec {P : Program} {ops : Array Oper} {o : Oper} {ρ : Env} {M : Mem} {v : Value} (h : hval P ops o ρ M = some v) : HeadOp P ops o ρ M.abs v := by
  intro ρ' hag
  unfold hval at h
  split at h
  · cases h
  · rename_i hg
    simp only [Option.some.injEq] at h
    exact .inr (.inl ⟨gd_spec hg hag, h.symm⟩)
  · rename_i hg
    rw [cond_some] at h
    obtain ⟨hq, h⟩ := h
    split at h
    · cases h
    rename_i u M' hu
    simp only [Option.some.injEq] at h
    subst h
    obtain rfl := quiet_spec hq hu
    refine .inl ⟨gd_spec hg hag, eOp_spec ?_⟩
    rw [eOp_congr (agr_x hag)]; exact hu
noncomputable def heads (P : Program) (ops : Array Oper) (M : Mem) (hs : List Nat) : T Value → Option (T Value) := List.rec (motive := fun _ => T Value → Option (T Value)) (fun ρ => some ρ)
  (fun i _ ih ρ => match ops[i]? with
    | none => none
    | some o => (match hval P ops o (slot ρ) M with
      | none => none
      | some v => doV v fun v => doT (putS ρ o.dst v) fun ρ => ih ρ)) hs
noncomputable def again (P : Program) (ops : Array Oper) (ρ : Env) (M : Mem) (q : List Nat) : Bool := List.rec (motive := fun _ => Bool) true
  (fun i _ ih => match ops[i]? with
    | none => false
    | some o => (match o.dst with
      | none => false
      | some d => (match hval P ops o ρ M with
        | none => false
        | some v => vEq 8 v (ρ d) && ih))) q
theorem again_spec {P : Program} {ops : Array Oper} {ρ : Env} {M : Mem} : ∀ {q : List Nat}, again P ops ρ M q = true → FFl P ops q ρ M.abs
  | [], _ => fun i hi => by simp at hi
  | i :: q, h => by
    have h : (match ops[i]? with
      | none => false
      | some o => (match o.dst with
        | none => false
        | some d => (match hval P ops o ρ M with
          | none => false
          | some v => vEq 8 v (ρ d) && again P ops ρ M q))) = true := h
    split at h
    · cases h
    rename_i o ho
    split at h
    · cases h
    rename_i d hd
    split at h
    · cases h
    rename_i v hvv
    rename_i h
    rw [Bool.and_eq_true] at h
    obtain ⟨ha, hb⟩ := h
    intro j hj o' ho' d' hd'
    rcases List.mem_cons.1 hj with rfl | hj
    · rw [ho] at ho'
      obtain rfl := Option.some.inj ho'
      rw [hd] at hd'
      obtain rfl := Option.some.inj hd'
      rw [← vEq_spec _ _ _ ha]
      exact hval_spec hvv
    · exact again_spec hb j hj o' ho' d' hd'
theorem heads_spec {P : Program} {ops : Array Oper} {M : Mem} : ∀ {hs : List Nat} {ρ ρ' : T Value}, heads P ops M hs ρ = some ρ' → OffL ops hs (slot ρ) (slot ρ')
  | [], ρ, ρ', h => by
    have h : some ρ = some ρ' := h
    simp only [Option.some.injEq] at h
    subst h
    exact fun _ _ => rfl
  | i :: hs, ρ, ρ', h => by
    have h : (match ops[i]? with
      | none => none
      | some o => (match hval P ops o (slot ρ) M with
        | none => none
        | some v => doV v fun v => doT (putS ρ o.dst v) fun ρ => heads P ops M hs ρ)) = some ρ' := h
    split at h
    · cases h
    rename_i o ho
    split at h
    · cases h
    rename_i v hvv
    rw [doV_eq, doT_eq] at h
    have := heads_spec h
    intro t ht
    rw [this t fun j hj => ht j (by simp [hj]), show slot (putS ρ o.dst v) t = ((show Env from slot ρ).put o.dst v) t from congrFun (putS_spec ρ o.dst v) t]
    have e1 : dstOf ops i = o.dst := by simp [dstOf, ho]
    have hne := ht i (by simp)
    rw [e1] at hne
    cases hd : o.dst with
    | none => rfl
    | some d => rw [put_at, if_neg (fun h => hne (by rw [hd, h]))]
noncomputable def tailR (P : Program) (X : Exts) (C : Caller) (ops : Array Oper) (tl : Tl) : T Value → List Deferred → Mem → OpsR := List.rec (motive := fun _ => T Value → List Deferred → Mem → OpsR) (fun ρ ds M => .norm ρ ds M)
  (fun tq _ ih ρ ds M => match ops[tq.1]? with
    | none => .bad
    | some o => (match o.op with
      | .defer _ => .bad
      | _ => op1 P X C ops o ρ ds M fun ρ ds M => (match heads P ops M tq.2.2 ρ with
        | none => .bad
        | some ρ => bif again P ops (slot ρ) M (tq.2.1 ++ tq.2.2) then ih ρ ds M else .bad))) tl
section
variable {P : Program} {X : Exts} {C : Caller} {N : Nat} {ops : Array Oper} {Kn : Env → List Deferred → AW → Prop} {Kp : List PanicEntry → Env → List Deferred → AW → Prop}
theorem tail_spec (hX : ExtOk P X) (hC : CS P C) : ∀ {tl : Tl} {ρ : T Value} {ds : List Deferred} {M : Mem}, (tailR P X C ops tl ρ ds M).holdsX ops Kn Kp → LinT P ops Kn Kp tl (slot ρ) ds M.abs
  | [], ρ, ds, M, h => h
  | (t, q, nh) :: tl, ρ, ds, M, h => by
    have ih := fun {ρ ds M} => tail_spec hX hC (tl := tl) (ρ := ρ) (ds := ds) (M := M)
    have h : OpsR.holdsX ops Kn Kp (match ops[t]? with
      | none => .bad
      | some o => (match o.op with
        | .defer _ => .bad
        | _ => op1 P X C ops o ρ ds M fun ρ ds M => (match heads P ops M nh ρ with
          | none => .bad
          | some ρ => bif again P ops (slot ρ) M (q ++ nh) then tailR P X C ops tl ρ ds M else .bad))) := h
    split at h
    · exact h.elim
    rename_i o ho
    have nx : ∀ {ρ ds M}, OpsR.holdsX ops Kn Kp (match heads P ops M nh ρ with
        | none => .bad
        | some ρ => bif again P ops (slot ρ) M (q ++ nh) then tailR P X C ops tl ρ ds M else .bad) → ∃ ρ2, OffL ops nh (slot ρ) ρ2 ∧ FFl P ops (q ++ nh) ρ2 M.abs ∧ LinT P ops Kn Kp tl ρ2 ds M.abs := by
      intro ρ ds M h
      split at h
      · exact h.elim
      rename_i ρ2 hh
      cases hb : again P ops (slot ρ2) M (q ++ nh) with
      | false => rw [hb] at h; exact h.elim
      | true => rw [hb] at h; exact ⟨_, heads_spec hh, again_spec hb, ih h⟩
    split at h
    · exact h.elim
    rename_i hnd
    refine ⟨o, ho, ?_⟩
    unfold op1 at h
    split at h
    · exact h.elim
    · rename_i hg
      rw [doT_eq] at h
      have := nx h
      rw [slot_put] at this
      exact .skip (fun ρ' hag => gd_spec hg hag) this
    · rename_i hg
      generalize hop : o.op = p at h
      split at h
      · rename_i z xs ts
        have hxx : ∀ ρ', Agr ops o (slot ρ) ρ' → AgreeX P.globals.size (slot ρ) ρ' (z :: xs) := fun ρ' hag => by
          have hx := agr_x (G := P.globals.size) hag
          rw [hop] at hx
          intro y hy
          refine hx y ?_
          simp only [Op.operands, Call.operands]
          rcases List.mem_cons.1 hy with rfl | hy
          · simp
          · simp; exact .inr hy
        split at h
        · split at h
          · exact h.elim
          rename_i v hv
          rw [doV_eq, doT_eq] at h
          have := nx h
          rw [slot_put] at this
          refine .val (fun ρ' hag => ⟨gd_spec hg hag, extR_spec hX hop ?_⟩) this
          rw [extR_congr (ρ := slot ρ) (hxx ρ' hag)]; exact hv
        rename_i g l hc
        rw [doL_eq] at h
        have hcall : ∀ ρ', Agr ops o (slot ρ) ρ' → wants ops o ρ' true ∧ OpC P o ρ' g l := fun ρ' hag => by
          refine ⟨gd_spec hg hag, calls_spec hop ?_⟩
          rw [calls_congr (ρ := slot ρ)]
          · exact hc
          · have hx := agr_x (G := P.globals.size) hag
            rw [hop] at hx
            intro y hy
            refine hx y ?_
            simp only [Op.operands, Call.operands]
            rcases List.mem_cons.1 hy with rfl | hy
            · simp
            · simp; exact .inr hy
        split at h
        · exact h.elim
        · rename_i v M' hr
          rw [doV_eq, doT_eq, doM_eq] at h
          have := nx h
          rw [slot_put] at this
          refine .call hcall (ACalls.mono (hC _ _ _ _ _ hr) fun e aw' he => ?_)
          obtain ⟨rfl, rfl⟩ := he
          exact this
        · rename_i ch M' hr
          refine .call hcall (ACalls.mono (hC _ _ _ _ _ hr) fun e aw' he => ?_)
          obtain ⟨rfl, rfl⟩ := he
          exact h
      · rename_i z xs ts
        exact absurd hop (hnd _)
      · rename_i x
        split at h
        · rename_i u z hx
          refine .panic (fun ρ' hag => ⟨gd_spec hg hag, ?_⟩) h
          have hx' : okv P.globals.size ρ' x = some (.iface u z) := by
            rw [agr_x (G := P.globals.size) hag x (by rw [hop]; simp [Op.operands])]; exact hx
          obtain ⟨x1, x2⟩ := okv_spec hx'
          exact opp_panic hop x1 x2
        · exact h.elim
      · split at h
        · exact h.elim
        rename_i v M' hv'
        rw [doV_eq, doT_eq, doM_eq] at h
        have := nx h
        rw [slot_put] at this
        refine .val (fun ρ' hag => ⟨gd_spec hg hag, eOp_spec ?_⟩) this
        rw [eOp_congr (agr_x hag), hop]; exact hv'
end
end Go.Ri
set_option linter.unusedSimpArgs false
set_option linter.unusedVariables false
set_option linter.unusedSectionVars false
namespace Go.Ri
open Go Go.Am Go.RowKit
variable [SymE]
variable [FT] [FTok]
noncomputable def drawR (P : Program) (X : Exts) (C : Caller) (ops : Array Oper) (hs : List Nat) (tl : Tl) (ρ : T Value) (ds : List Deferred) (M : Mem) : OpsR := match heads P ops M hs ρ with
  | none => .bad
  | some ρ => bif again P ops (slot ρ) M hs then tailR P X C ops tl ρ ds M else .bad
section
variable {P : Program} {X : Exts} {C : Caller} {N : Nat} {ops : Array Oper}
theorem draw_spec (hX : ExtOk P X) (hC : CS P C) (hm : P.follows .mixedOrders = true) (hN : dstsOk N ops = true) {hs : List Nat} {tl : Tl} (hok : linOk ops hs tl = true) {id : Nat} {k : List Item} {R : ADone → Env → List Deferred → AW → Prop} {ρ : T Value} {ds : List Deferred} {M : Mem}
    (h : (drawR P X C ops hs tl ρ ds M).holdsX ops (fun ρ' ds' aw' => AGo P N k ρ' ds' aw' R) (fun ch ρ' ds' aw' => R (.panic ch) ρ' ds' aw')) : AGo P N (.code (.region id ops true) :: k) (slot ρ) ds M.abs R := by
  unfold drawR at h
  split at h
  · exact h.elim
  rename_i ρ' hh
  cases hb : again P ops (slot ρ') M hs with
  | false => rw [hb] at h; exact h.elim
  | true =>
    rw [hb] at h
    exact ago_drawF rfl hm hN hok (heads_spec hh) (again_spec hb) (tail_spec hX hC h)
end
inductive SR where
  | go (todo : List Item) (ρ : T Value) (ds : List Deferred) (M : Mem)
  | fin (d : ADone) (ρ : T Value) (ds : List Deferred) (M : Mem)
  | bad
abbrev Tab := Nat → Option (List Nat × Tl)
def OpsR.sr (k : List Item) (x : OpsR) : SR := match x with
  | .norm ρ ds M => .go k ρ ds M
  | .pan ch ρ ds M => .fin (.panic ch) ρ ds M
  | .bad => .bad
def offB (rs : List Tmp) (ops : Array Oper) : Bool := rs.all fun t => ops.toList.all fun o => o.dst != some t
noncomputable def step1 (P : Program) (X : Exts) (C : Caller) (N : Nat) (tab : Tab) (rs : List Tmp) (todo : List Item) (ρ : T Value) (ds : List Deferred) (M : Mem) : SR := match todo with
  | [] => .fin .ret ρ ds M
  | .code c :: k => (match c with
    | .skip => .go k ρ ds M
    | .seq x y => .go (.code x :: .code y :: k) ρ ds M
    | .label _ => .go k ρ ds M
    | .block id c => .go (.code c :: .inBlock id :: k) ρ ds M
    | .loop c => .go (.code c :: .inLoop c :: k) ρ ds M
    | .scope c => .go (.code c :: .inScope c :: k) ρ ds M
    | .exit id => (match exitTo id k with
      | some k => .go k ρ ds M
      | none => .bad)
    | .goto l => (match gotoIn l k with
      | some k => .go k ρ ds M
      | none => .bad)
    | .cond c x y => (match okv P.globals.size (slot ρ) c with
      | some (.bool true) => .go (.code x :: k) ρ ds M
      | some (.bool false) => .go (.code y :: k) ρ ds M
      | _ => .bad)
    | .ret => .fin .ret ρ ds M
    | .region id ops draw => bif dstsOk N ops then (match draw with
        | false => (ops1 P X C ops ops.toList ρ ds M).sr k
        | true => (match tab id with
          | none => .bad
          | some (hs, tl) => bif linOk ops hs tl then (match drawR P X C ops hs tl ρ ds M with
              | .norm ρ ds M => .go k ρ ds M
              | .pan ch ρ ds M => bif offB rs ops then .fin (.panic ch) ρ ds M else .bad
              | .bad => .bad) else .bad)) else .bad
    | _ => .bad)
  | .inBlock _ :: k => .go k ρ ds M
  | .inLoop c :: k => .go (.code c :: .inLoop c :: k) ρ ds M
  | .inScope _ :: k => .go k ρ ds M
  | _ => .bad
def SR.holds (P : Program) (N : Nat) (rs : List Tmp) (R : ADone → Env → List Deferred → AW → Prop) : SR → Prop
  | .go todo ρ ds M => AGo P N todo (slot ρ) ds M.abs R
  | .fin d ρ ds M => ∀ ρ' : Env, (∀ t ∈ rs, ρ' t = slot ρ t) → R d ρ' ds M.abs
  | .bad => False
section
variable {P : Program} {X : Exts} {C : Caller} {N : Nat} {tab : Tab} {rs : List Tmp} {R : ADone → Env → List Deferred → AW → Prop}
theorem step1_spec (hX : ExtOk P X) (hC : CS P C) (hm : P.follows .mixedOrders = true) {todo : List Item} {ρ : T Value} {ds : List Deferred} {M : Mem} (h : (step1 P X C N tab rs todo ρ ds M).holds P N rs R) : AGo P N todo (slot ρ) ds M.abs R := by
  unfold step1 at h
  split at h
  · exact ago_nil (h _ fun _ _ => rfl)
  · rename_i c k
    split at h
    · exact ago_skip h
    · exact ago_seq h
    · exact ago_label h
    · exact ago_block h
    · exact ago_loop h
    · exact ago_scope h
    · split at h
      · rename_i hk; exact ago_exit hk h
      · exact h.elim
    · split at h
      · rename_i hk; exact ago_goto hk h
      · exact h.elim
    · split at h
      · rename_i hc
        obtain ⟨c1, c2⟩ := okv_spec hc
        exact ago_cond c1 c2 (fun _ => h) (fun h => by cases h)
      · rename_i hc
        obtain ⟨c1, c2⟩ := okv_spec hc
        exact ago_cond c1 c2 (fun h => by cases h) (fun _ => h)
      · exact h.elim
    · exact ago_ret (h _ fun _ _ => rfl)
    · rename_i id ops draw
      cases hN : dstsOk N ops with
      | false => rw [hN] at h; exact h.elim
      | true =>
        rw [hN] at h
        simp only [cond_true] at h
        split at h
        · refine ago_region rfl (region_spec hX hC hN ?_)
          generalize ops1 P X C ops ops.toList ρ ds M = x at h
          cases x with
          | norm ρ ds M => exact h
          | pan ch ρ ds M => exact h _ fun _ _ => rfl
          | bad => exact h
        · split at h
          · exact h.elim
          rename_i hs tl ht
          cases hb : linOk ops hs tl with
          | false => rw [hb] at h; exact h.elim
          | true =>
            rw [hb] at h
            simp only [cond_true] at h
            refine draw_spec hX hC hm hN hb ?_
            generalize drawR P X C ops hs tl ρ ds M = x at h
            cases x with
            | norm ρ ds M => exact h
            | pan ch ρ ds M =>
              cases ho : offB rs ops with
              | false => simp only [ho, cond_false] at h; exact h.elim
              | true =>
                simp only [ho, cond_true] at h
                intro ρ' hoff
                refine h ρ' fun t ht => hoff t fun j hj => ?_
                simp only [offB, List.all_eq_true] at ho
                have hd := ho t ht
                unfold dstOf at hj
                cases hoj : ops[j]? with
                | none => rw [hoj] at hj; cases hj
                | some o =>
                  rw [hoj] at hj
                  have := hd o (by rw [Array.mem_toList_iff]; exact Array.mem_of_getElem? hoj)
                  simp only [Option.bind_some] at hj
                  rw [hj] at this
                  simp at this
            | bad => exact h.elim
    · exact h.elim
  · exact ago_inBlock h
  · exact ago_inLoop h
  · exact ago_inScope h
  · exact h.elim
noncomputable def iter (f : List Item → T Value → List Deferred → Mem → SR) (n : Nat) : List Item → T Value → List Deferred → Mem → SR := Nat.rec (motive := fun _ => List Item → T Value → List Deferred → Mem → SR) f
  (fun _ ih a b c d => SR.rec (motive := fun _ => SR) (fun a b c d => ih a b c d) (fun d ρ ds M => .fin d ρ ds M) .bad (ih a b c d)) n
theorem iter_spec {f : List Item → T Value → List Deferred → Mem → SR} (hf : ∀ todo ρ ds M, (f todo ρ ds M).holds P N rs R → AGo P N todo (slot ρ) ds M.abs R) : ∀ (n : Nat) (todo : List Item) (ρ : T Value) (ds : List Deferred) (M : Mem),
    (iter f n todo ρ ds M).holds P N rs R → AGo P N todo (slot ρ) ds M.abs R
  | 0, todo, ρ, ds, M, h => hf _ _ _ _ h
  | n + 1, todo, ρ, ds, M, h => by
    have h : (SR.rec (motive := fun _ => SR) (fun a b c d => iter f n a b c d) (fun d ρ ds M => .fin d ρ ds M) .bad (iter f n todo ρ ds M) : SR).holds P N rs R := h
    refine iter_spec hf n _ _ _ _ ?_
    cases hx : iter f n todo ρ ds M with
    | go a b c d =>
      rw [hx] at h
      exact iter_spec hf n _ _ _ _ h
    | fin d ρ' ds' M' => rw [hx] at h; exact h
    | bad => rw [hx] at h; exact h
end
noncomputable def res1 (P : Program) (ρ : Env) (M : Mem) : ResultVar → Option Value
  | .tmp t => some (ρ t)
  | .cell a t => (match ρ a with
    | .pointer (some ⟨b, i, none⟩) => (match P.underlying t with
      | none => none
      | some d => bif aggT d then (match (P.info? t).map (·.size) with
          | none => none
          | some n => (match M.getN b i n with
            | none => none
            | some l => some (.agg ⟨l⟩)))
        else M.get b i)
    | _ => none)
theorem res1_spec {P : Program} {ρ : Env} {M : Mem} {r : ResultVar} {v : Value} (h : res1 P ρ M r = some v) : OneR P ρ M.abs r v := by
  cases r with
  | tmp t => simp only [res1, Option.some.injEq] at h; exact oneT h
  | cell a t =>
    simp only [res1] at h
    split at h
    · rename_i b i ha
      split at h
      · cases h
      rename_i d hu
      cases hag : aggT d with
      | true =>
        rw [hag] at h
        simp only [cond_true] at h
        split at h
        · cases h
        rename_i n hn
        split at h
        · cases h
        rename_i l hl
        simp only [Option.some.injEq] at h; subst h
        exact oneN ha rfl hu hag hn (M.getN_spec hl)
      | false =>
        rw [hag] at h
        simp only [cond_false] at h
        exact one1 ha rfl hu hag (M.get_spec h)
    · cases h
def rSlot : ResultVar → Tmp
  | .tmp t => t
  | .cell a _ => a
theorem res1_congr {P : Program} {ρ ρ' : Env} {M : Mem} {r : ResultVar} (h : ρ' (rSlot r) = ρ (rSlot r)) : res1 P ρ' M r = res1 P ρ M r := by
  cases r with
  | tmp t => simp only [res1, rSlot] at h ⊢; rw [h]
  | cell a t => simp only [res1, rSlot] at h ⊢; rw [h]
noncomputable def resF (P : Program) (fn : Func) (ρ : Env) (M : Mem) : Option Value := match fn.results with
  | ⟨[]⟩ => some (.tuple ⟨[]⟩)
  | ⟨[a]⟩ => res1 P ρ M a
  | ⟨[a, b]⟩ => (match res1 P ρ M a, res1 P ρ M b with
    | some u, some v => some (.tuple ⟨[u, v]⟩)
    | _, _ => none)
  | ⟨[a, b, c]⟩ => (match res1 P ρ M a, res1 P ρ M b, res1 P ρ M c with
    | some u, some v, some w => some (.tuple ⟨[u, v, w]⟩)
    | _, _, _ => none)
  | ⟨[a, b, c, d]⟩ => (match res1 P ρ M a, res1 P ρ M b, res1 P ρ M c, res1 P ρ M d with
    | some u, some v, some w, some x => some (.tuple ⟨[u, v, w, x]⟩)
    | _, _, _, _ => none)
  | _ => none
def rSlots (fn : Func) : List Tmp := fn.results.toList.map rSlot
theorem resF_spec {P : Program} {fn : Func} {N : Nat} {ρ ρ' : Env} {M : Mem} {v : Value} (h : resF P fn ρ M = some v) (hr : ∀ t ∈ rSlots fn, ρ' t = ρ t) : ARes P fn N ρ' M.abs v := by
  unfold resF at h
  have one : ∀ r u, r ∈ fn.results.toList → res1 P ρ M r = some u → OneR P ρ' M.abs r u := fun r u hm hu => by
    refine res1_spec ?_
    rw [res1_congr (ρ := ρ) (hr _ (List.mem_map.2 ⟨r, hm, rfl⟩))]
    exact hu
  split at h
  · rename_i hf
    simp only [Option.some.injEq] at h; subst h
    exact ares_0 hf
  · rename_i a hf
    exact ares_1 hf (one a _ (by rw [hf]; simp) h)
  · rename_i a b hf
    split at h
    · rename_i u w h1 h2
      simp only [Option.some.injEq] at h; subst h
      exact ares_2 hf (one a _ (by rw [hf]; simp) h1) (one b _ (by rw [hf]; simp) h2)
    · cases h
  · rename_i a b c hf
    split at h
    · rename_i u w x h1 h2 h3
      simp only [Option.some.injEq] at h; subst h
      exact ares_3 hf (one a _ (by rw [hf]; simp) h1) (one b _ (by rw [hf]; simp) h2) (one c _ (by rw [hf]; simp) h3)
    · cases h
  · rename_i a b c d hf
    split at h
    · rename_i u w x y h1 h2 h3 h4
      simp only [Option.some.injEq] at h; subst h
      exact ares_4 hf (one a _ (by rw [hf]; simp) h1) (one b _ (by rw [hf]; simp) h2) (one c _ (by rw [hf]; simp) h3) (one d _ (by rw [hf]; simp) h4)
    · cases h
  · cases h
abbrev CallerD := FuncId → List Value → ADone → Mem → Option (AEnd × ADone × Mem)
def CDS (P : Program) (D : CallerD) : Prop := ∀ f args u M e u' M', D f args u M = some (e, u', M') → ACallsD P f args u M.abs fun e' u'' aw' => e' = e ∧ u'' = u' ∧ aw' = M'.abs
noncomputable def leave (P : Program) (fn : Func) (D : CallerD) (ρ : T Value) (ds : List Deferred) : ADone → Mem → Option (AEnd × Mem) := List.rec (motive := fun _ => ADone → Mem → Option (AEnd × Mem))
  (fun u M => match u with
    | .ret => (match resF P fn (slot ρ) M with
      | some v => some (.returned v, M)
      | none => none)
    | .panic ch => some (.panicked ch, M))
  (fun d _ ih u M => match d.target with
    | .fn (.func g) ⟨cap⟩ => bif fnOk P g then (match D g (d.args.toList ++ cap) u M with
      | some (.returned _, u', M') => ih (asettle u') M'
      | some (.panicked ch, u', M') => ih (araised u' ch) M'
      | none => none) else none
    | _ => none) ds
theorem leave_spec {P : Program} {fn : Func} {D : CallerD} {N : Nat} (hD : CDS P D) {ρ : T Value} {ρ' : Env} (hr : ∀ t ∈ rSlots fn, ρ' t = slot ρ t) {e : AEnd} {M' : Mem} : ∀ {ds : List Deferred} {u : ADone} {M : Mem}, leave P fn D ρ ds u M = some (e, M') →
    ALeaves P fn N ρ' (fun e' aw' => e' = e ∧ aw' = M'.abs) ds u M.abs
  | [], .ret, M, h => by
    have h : (match resF P fn (slot ρ) M with
      | some v => some (AEnd.returned v, M)
      | none => none) = some (e, M') := h
    split at h
    · rename_i v hv
      simp only [Option.some.injEq, Prod.mk.injEq] at h
      obtain ⟨rfl, rfl⟩ := h
      exact ⟨v, resF_spec hv hr, rfl, rfl⟩
    · cases h
  | [], .panic ch, M, h => by
    have h : some (AEnd.panicked ch, M) = some (e, M') := h
    simp only [Option.some.injEq, Prod.mk.injEq] at h
    obtain ⟨rfl, rfl⟩ := h
    exact ⟨rfl, rfl⟩
  | d :: ds, u, M, h => by
    have ih := fun {u M} => leave_spec (N := N) hD hr (e := e) (M' := M') (ds := ds) (u := u) (M := M)
    have h : (match d.target with
      | .fn (.func g) ⟨cap⟩ => bif fnOk P g then (match D g (d.args.toList ++ cap) u M with
        | some (.returned _, u', M') => leave P fn D ρ ds (asettle u') M'
        | some (.panicked ch, u', M') => leave P fn D ρ ds (araised u' ch) M'
        | none => none) else none
      | _ => none) = some (e, M') := h
    split at h
    · rename_i g cap htar
      rw [cond_some] at h
      obtain ⟨hf, h⟩ := h
      obtain ⟨fn', c, f1, f2, f3⟩ := fnOk_spec hf
      refine ⟨g, ⟨cap⟩, htar, ⟨fn', c, f1, f2, f3⟩, ?_⟩
      split at h
      · rename_i v u' M2 hd
        refine ACallsD.mono (hD _ _ _ _ _ _ _ hd) fun e' u'' aw' hh => ?_
        obtain ⟨rfl, rfl, rfl⟩ := hh
        exact ih h
      · rename_i ch u' M2 hd
        refine ACallsD.mono (hD _ _ _ _ _ _ _ hd) fun e' u'' aw' hh => ?_
        obtain ⟨rfl, rfl, rfl⟩ := hh
        exact ih h
      · cases h
    · cases h
noncomputable def sil (n : Nat) : List Item → List Item := Nat.rec (motive := fun _ => List Item → List Item) (fun l => l) (fun _ ih l => match l with
  | .code (.seq x y) :: k => ih (.code x :: .code y :: k)
  | .code (.block id c) :: k => ih (.code c :: .inBlock id :: k)
  | .code (.scope c) :: k => ih (.code c :: .inScope c :: k)
  | .code .skip :: k => ih k
  | l => l) n
theorem sil_spec : ∀ (n : Nat) (l : List Item), Silent l (sil n l)
  | 0, l => .refl l
  | n + 1, l => by
    have ih := sil_spec n
    show Silent l (match l with
      | .code (.seq x y) :: k => sil n (.code x :: .code y :: k)
      | .code (.block id c) :: k => sil n (.code c :: .inBlock id :: k)
      | .code (.scope c) :: k => sil n (.code c :: .inScope c :: k)
      | .code .skip :: k => sil n k
      | l => l)
    split
    · exact .seq (ih _)
    · exact .block (ih _)
    · exact .scope (ih _)
    · exact .skip (ih _)
    · exact .refl _
noncomputable def endD (P : Program) (fn : Func) (u : ADone) (x : SR) : Option (AEnd × ADone × Mem) := match x with
  | .fin .ret ρ [] M => (match resF P fn (slot ρ) M with
    | some v => some (.returned v, u, M)
    | none => none)
  | .fin (.panic ch) _ [] M => some (.panicked ch, u, M)
  | _ => none
noncomputable def callD (P : Program) (X : Exts) (C : Caller) (tab : Nat → Tab) (n : Nat) : CallerD := fun f args u M => match P.funcs[f]? with
  | none => none
  | some fn => (match fn.body with
    | none => none
    | some c => bif Nat.ble args.length fn.ntmps then (match sil 40 [.code c] with
      | .code (.region id ops false) :: k => (match ops with
        | ⟨o :: rest⟩ => (match o with
          | ⟨dst, .call ⟨.builtin .recover, ⟨[]⟩, _⟩, _, _, _, none⟩ => bif dstsOk fn.ntmps ops then
              doV (recovers u).1 fun v => doT (putS (T.ofL args 0 .leaf) dst v) fun ρ => (match ops1 P X C ops rest ρ [] M with
                | .norm ρ ds M => endD P fn (recovers u).2 (iter (step1 P X C fn.ntmps (tab f) (rSlots fn)) n k ρ ds M)
                | .pan ch ρ ds M => endD P fn (recovers u).2 (.fin (.panic ch) ρ ds M)
                | .bad => none) else none
          | _ => endD P fn u (iter (step1 P X C fn.ntmps (tab f) (rSlots fn)) n [.code c] (T.ofL args 0 .leaf) [] M))
        | ⟨[]⟩ => endD P fn u (iter (step1 P X C fn.ntmps (tab f) (rSlots fn)) n [.code c] (T.ofL args 0 .leaf) [] M))
      | _ => endD P fn u (iter (step1 P X C fn.ntmps (tab f) (rSlots fn)) n [.code c] (T.ofL args 0 .leaf) [] M)) else none)
theorem slot_init (args : List Value) : slot (T.ofL args 0 .leaf) = Env.init args := by
  funext t
  simp only [slot, T.get_ofL, Env.init]
  by_cases h : t < args.length
  · rw [if_pos ⟨Nat.zero_le _, by omega⟩]
    simp [List.getD, h]
  · rw [if_neg (by omega)]
    simp [List.getD, List.getElem?_eq_none (Nat.le_of_not_lt h), T.get_leaf]
theorem endD_spec {P : Program} {fn : Func} {N : Nat} {u : ADone} {x : SR} {e : AEnd} {u' : ADone} {M' : Mem} (h : endD P fn u x = some (e, u', M')) : u' = u ∧
    x.holds P N (rSlots fn) (fun d ρ ds aw' => ds = [] ∧ match d with
      | .ret => ∃ v, ARes P fn N ρ aw' v ∧ (AEnd.returned v = e ∧ aw' = M'.abs)
      | .panic ch => AEnd.panicked ch = e ∧ aw' = M'.abs) := by
  unfold endD at h
  split at h
  · split at h
    · rename_i v hv
      simp only [Option.some.injEq, Prod.mk.injEq] at h
      obtain ⟨rfl, rfl, rfl⟩ := h
      exact ⟨rfl, fun ρ' hr => ⟨rfl, v, resF_spec hv hr, rfl, rfl⟩⟩
    · cases h
  · simp only [Option.some.injEq, Prod.mk.injEq] at h
    obtain ⟨rfl, rfl, rfl⟩ := h
    exact ⟨rfl, fun ρ' hr => ⟨rfl, rfl, rfl⟩⟩
  · cases h
theorem callD_spec {P : Program} {X : Exts} {C : Caller} {tab : Nat → Tab} {n : Nat} (hX : ExtOk P X) (hC : CS P C) (hm : P.follows .mixedOrders = true) : CDS P (callD P X C tab n) := by
  intro f args u M e u' M' h
  unfold callD at h
  split at h
  · cases h
  rename_i fn hf
  split at h
  · cases h
  rename_i c hb
  rw [cond_some] at h
  obtain ⟨hl, h⟩ := h
  have hl := Nat.le_of_ble_eq_true hl
  have plainD : endD P fn u (iter (step1 P X C fn.ntmps (tab f) (rSlots fn)) n [.code c] (T.ofL args 0 .leaf) [] M) = some (e, u', M') → ACallsD P f args u M.abs fun e' u'' aw' => e' = e ∧ u'' = u' ∧ aw' = M'.abs := by
    intro h
    obtain ⟨rfl, hx⟩ := endD_spec (N := fn.ntmps) h
    refine acallsD_of_ago hf hb rfl hl ?_
    have := iter_spec (fun todo ρ ds M h => step1_spec hX hC hm h) n _ _ _ _ hx
    rw [slot_init] at this
    refine ago_mono ?_ this
    rintro d ρ ds aw ⟨h1, h2⟩
    refine ⟨h1, ?_⟩
    cases d with
    | ret => obtain ⟨v, k1, k2, k3⟩ := h2; exact ⟨v, k1, k2, rfl, k3⟩
    | panic ch => exact ⟨h2.1, rfl, h2.2⟩
  split at h
  · rename_i id ops k hsil
    split at h
    · rename_i o rest
      split at h
      · rename_i dst at' ty pos after
        rw [cond_some] at h
        obtain ⟨hN, h⟩ := h
        rw [doV_eq, doT_eq] at h
        have hs := sil_spec 40 [.code c]
        rw [hsil] at hs
        have hu : ∀ {x : SR}, endD P fn (recovers u).2 x = some (e, u', M') → u' = (recovers u).2 := fun h => (endD_spec (N := fn.ntmps) h).1
        refine acallsD_recover (o := ⟨dst, .call ⟨.builtin .recover, ⟨[]⟩, at'⟩, ty, pos, after, none⟩) (rest := List.range' 1 rest.length) hf hb rfl hl hs ?_ rfl rfl rfl ?_ ?_
        · rw [List.range_eq_range']
          simp only [List.size_toArray, List.length_cons]
          rfl
        · intro d hd
          exact dstsOk_get (N := fn.ntmps) hN (j := 0) (by simpa using hd)
        · refine ago_inRegion ?_
          rw [← slot_init, ← slot_put]
          refine ops1_spec hX hC hN rest 1 _ _ _ rfl ?_
          split at h
          · rename_i ρ2 ds2 M2 hx
            rw [hx]
            obtain ⟨rfl, hh⟩ := endD_spec (N := fn.ntmps) h
            have := iter_spec (fun todo ρ ds M h => step1_spec hX hC hm h) n _ _ _ _ hh
            refine ago_mono ?_ this
            rintro d ρ ds aw ⟨h1, h2⟩
            refine ⟨h1, ?_⟩
            cases d with
            | ret => obtain ⟨v, k1, k2, k3⟩ := h2; exact ⟨v, k1, k2, rfl, k3⟩
            | panic ch => exact ⟨h2.1, rfl, h2.2⟩
          · rename_i ch ρ2 ds2 M2 hx
            rw [hx]
            obtain ⟨rfl, hh⟩ := endD_spec (N := fn.ntmps) h
            obtain ⟨h1, h2⟩ := hh _ fun _ _ => rfl
            exact ⟨h1, h2.1, rfl, h2.2⟩
          · cases h
      · exact plainD h
    · exact plainD h
  · exact plainD h
where
  ago_mono {P : Program} {N : Nat} {todo : List Item} {ρ : Env} {ds : List Deferred} {aw : AW} {R R' : ADone → Env → List Deferred → AW → Prop} (hr : ∀ d ρ ds aw, R d ρ ds aw → R' d ρ ds aw) (h : AGo P N todo ρ ds aw R) : AGo P N todo ρ ds aw R' := by
    intro base w0 s a w b cs hst
    obtain ⟨m, t', a', w', h1, s', d, ρ', ds', aw', h2, h3, h4, h5⟩ := h base w0 s a w b cs hst
    exact ⟨m, t', a', w', h1, s', d, ρ', ds', aw', h2, h3, h4, hr _ _ _ _ h5⟩
end Go.Ri
set_option linter.unusedSimpArgs false
set_option linter.unusedVariables false
set_option linter.unusedSectionVars false
namespace Go.Ri
open Go Go.Am Go.RowKit
variable [SymE] [FT] [FTok]
structure Bx (α : Type) where
  f : α
noncomputable def stV (P : Program) : Op → Bx (T Value → Mem → OR)
  | .move x => ⟨fun ρ M => eMove P (slot ρ) M x⟩
  | .assign x => ⟨fun ρ M => eMove P (slot ρ) M x⟩
  | .pick a b c => ⟨fun ρ M => ePick P (slot ρ) M a b c⟩
  | .alloc t => ⟨fun ρ M => eAlloc P M t⟩
  | .box t x => ⟨fun ρ M => eBox P (slot ρ) M t x⟩
  | .build t ps => ⟨fun ρ M => eBuild P (slot ρ) M t ps⟩
  | .buildSlice t n ps => ⟨fun ρ M => eBuildS P (slot ρ) M t n ps⟩
  | .load t x => ⟨fun ρ M => eLoad P (slot ρ) M t x⟩
  | .store t x y => ⟨fun ρ M => eStore P (slot ρ) M t x y⟩
  | .nilCheck x => ⟨fun ρ M => eNil P (slot ρ) M x⟩
  | .binOp op xt x y _ => ⟨fun ρ M => eBin P (slot ρ) M op xt x y⟩
  | .unOp op _ x => ⟨fun ρ M => eUn P (slot ρ) M op x⟩
  | .convert s d x => ⟨fun ρ M => eConv P (slot ρ) M s d x⟩
  | .makeInterface xt x => ⟨fun ρ M => eMkI P (slot ρ) M xt x⟩
  | .makeFunc fn a c => ⟨fun ρ M => eMkF P (slot ρ) M fn a c⟩
  | .makeSlice t x y => ⟨fun ρ M => eMake P (slot ρ) M t x y⟩
  | .slice t x l h m => ⟨fun ρ M => eSlice P (slot ρ) M t x l h m⟩
  | .fieldAddr t x n => ⟨fun ρ M => eFldA P (slot ρ) M t x n⟩
  | .field t x n => ⟨fun ρ M => eField P (slot ρ) M t x n⟩
  | .indexAddr t x y => ⟨fun ρ M => eIxA P (slot ρ) M t x y⟩
  | .index t x y => ⟨fun ρ M => eIx P (slot ρ) M t x y⟩
  | .typeAssert x _ a ok => ⟨fun ρ M => eAssert P (slot ρ) M x a ok⟩
  | .extract x i => ⟨fun ρ M => eExtract P (slot ρ) M x i⟩
  | .call ⟨.builtin .len, ⟨[x]⟩, ⟨ts⟩⟩ => ⟨fun ρ M => eLen P (slot ρ) M ⟨ts⟩ x⟩
  | .call ⟨.builtin .append, ⟨[x, y]⟩, ⟨[sT, xT]⟩⟩ => ⟨fun ρ M => match eAppend P (slot ρ) M sT xT x y with | some r => some r | none => eAppendZ P (slot ρ) M sT xT x y⟩
  | .call ⟨.builtin .copy, ⟨[x, y]⟩, ⟨[sT, xT]⟩⟩ => ⟨fun ρ M => eCopy P (slot ρ) M sT xT x y⟩
  | op => ⟨fun ρ M => eOp P (slot ρ) M op⟩
theorem stV_eq (P : Program) (op : Op) (ρ : T Value) (M : Mem) : (stV P op).f ρ M = eOp P (slot ρ) M op := by
  unfold stV
  split <;> rfl
inductive Fk where
  | no
  | num
  | ptr
  | full
def fkOf : Op → Fk
  | .move _ | .assign _ | .load _ _ | .nilCheck _ | .extract _ _ | .alloc _ | .store _ _ _ | .field _ _ _ | .makeInterface _ _ | .makeFunc _ _ _ | .typeAssert _ _ _ _ | .pick _ _ _ => .no
  | .binOp .eql _ _ _ _ | .binOp .neq _ _ _ _ | .binOp .lss _ _ _ _ | .binOp .leq _ _ _ _ | .binOp .gtr _ _ _ _ | .binOp .geq _ _ _ _ | .unOp .not _ _ => .no
  | .binOp .sub _ _ _ _ | .binOp .mul _ _ _ _ | .call ⟨.builtin .len, _, _⟩ => .num
  | .fieldAddr _ _ _ | .indexAddr _ _ _ => .ptr
  | _ => .full
noncomputable def doNum {R : Type} (v : Value) (k : Value → R) : R := match v with
  | .int q n => doI n fun n => k (.int q n)
  | v => k v
theorem doNum_eq {R : Type} (v : Value) (k : Value → R) : doNum v k = k v := by
  unfold doNum
  split
  · rw [doI_eq]
  · rfl
noncomputable def doPtr {R : Type} (v : Value) (k : Value → R) : R := match v with
  | .pointer (some ⟨b, o, q⟩) => doN o fun o => k (.pointer (some ⟨b, o, q⟩))
  | v => k v
theorem doPtr_eq {R : Type} (v : Value) (k : Value → R) : doPtr v k = k v := by
  unfold doPtr
  split
  · rw [doN_eq]
  · rfl
noncomputable def doF {R : Type} (q : Fk) (v : Value) (k : Value → R) : R := match q with
  | .no => k v
  | .num => doNum v k
  | .ptr => doPtr v k
  | .full => doV v k
theorem doF_eq {R : Type} (q : Fk) (v : Value) (k : Value → R) : doF q v k = k v := by
  cases q
  · rfl
  · exact doNum_eq v k
  · exact doPtr_eq v k
  · exact doV_eq v k
section
variable {R : Type}
variable (R) in
noncomputable def pC : Cx (Value → R → (Nat → Nat → R) → R) := ⟨fun v e k => @Value.rec (fun _ => R → (Nat → Nat → R) → R) (fun _ => R → (Nat → Nat → R) → R) (fun _ => R → (Nat → Nat → R) → R) (fun _ e _ => e) (fun _ _ e _ => e) (fun _ _ e _ => e) (fun _ _ _ e _ => e) (fun _ e _ => e) (fun a e k => Option.rec (motive := fun _ => R → (Nat → Nat → R) → R) (fun e k => e) (fun a e k => Addr.rec (motive := fun _ => R → (Nat → Nat → R) → R) (fun b o s e k => Option.rec (motive := fun _ => Nat → Nat → R → (Nat → Nat → R) → R) (fun b o e k => k b o) (fun _ _ _ e k => e) s b o e k) a e k) a e k) (fun _ _ _ e _ => e) (fun _ e _ => e) (fun _ e _ => e) (fun _ _ _ _ _ e _ => e) (fun e _ => e) (fun _ _ _ e _ => e) (fun e _ => e) (fun _ _ e _ => e) (fun _ _ e _ => e) (fun _ _ e _ => e) (fun e _ => e) (fun _ _ _ _ e _ => e) v e k⟩
theorem pC_eq (v : Value) (e : R) (k : Nat → Nat → R) : (pC R).f v e k = match v with | .pointer (some ⟨b, i, none⟩) => k b i | _ => e := by
  rcases v with _ | _ | _ | _ | _ | a | _ | _ | _ | _ | _ | _ | _ | _ | _ <;> try rfl
  rcases a with _ | ⟨b, o, _ | s⟩ <;> rfl
variable (R) in
noncomputable def natC : Cx (Value → R → (Nat → R) → R) := ⟨fun v e k => @Value.rec (fun _ => R → (Nat → R) → R) (fun _ => R → (Nat → R) → R) (fun _ => R → (Nat → R) → R) (fun _ e _ => e) (fun _ n e k => Int.rec (motive := fun _ => R → (Nat → R) → R) (fun j _ k => k j) (fun _ e _ => e) n e k) (fun _ _ e _ => e) (fun _ _ _ e _ => e) (fun _ e _ => e) (fun _ e _ => e) (fun _ _ _ e _ => e) (fun _ e _ => e) (fun _ e _ => e) (fun _ _ _ _ _ e _ => e) (fun e _ => e) (fun _ _ _ e _ => e) (fun e _ => e) (fun _ _ e _ => e) (fun _ _ e _ => e) (fun _ _ e _ => e) (fun e _ => e) (fun _ _ _ _ e _ => e) v e k⟩
variable (R) in
noncomputable def sliC : Cx (Value → R → (Nat → Nat → Nat → R) → R) := ⟨fun v e k => @Value.rec (fun _ => R → (Nat → Nat → Nat → R) → R) (fun _ => R → (Nat → Nat → Nat → R) → R) (fun _ => R → (Nat → Nat → Nat → R) → R) (fun _ e _ => e) (fun _ _ e _ => e) (fun _ _ e _ => e) (fun _ _ _ e _ => e) (fun _ e _ => e) (fun _ e _ => e) (fun a l _ e k => Option.rec (motive := fun _ => Nat → R → (Nat → Nat → Nat → R) → R) (fun _ e _ => e) (fun a l e k => Addr.rec (motive := fun _ => Nat → R → (Nat → Nat → Nat → R) → R) (fun b o s l e k => Option.rec (motive := fun _ => Nat → Nat → Nat → R → (Nat → Nat → Nat → R) → R) (fun b o l _ k => k b o l) (fun _ _ _ _ e _ => e) s b o l e k) a l e k) a l e k) (fun _ e _ => e) (fun _ e _ => e) (fun _ _ _ _ _ e _ => e) (fun e _ => e) (fun _ _ _ e _ => e) (fun e _ => e) (fun _ _ e _ => e) (fun _ _ e _ => e) (fun _ _ e _ => e) (fun e _ => e) (fun _ _ _ _ e _ => e) v e k⟩
variable (R) in
noncomputable def booC : Cx (Value → R → R → R → R) := ⟨fun v e p q => @Value.rec (fun _ => R → R → R → R) (fun _ => R → R → R → R) (fun _ => R → R → R → R) (fun b _ p q => Bool.rec (motive := fun _ => R → R → R) (fun p _ => p) (fun _ q => q) b p q) (fun _ _ e _ _ => e) (fun _ _ e _ _ => e) (fun _ _ _ e _ _ => e) (fun _ e _ _ => e) (fun _ e _ _ => e) (fun _ _ _ e _ _ => e) (fun _ e _ _ => e) (fun _ e _ _ => e) (fun _ _ _ _ _ e _ _ => e) (fun e _ _ => e) (fun _ _ _ e _ _ => e) (fun e _ _ => e) (fun _ _ e _ _ => e) (fun _ _ e _ _ => e) (fun _ _ e _ _ => e) (fun e _ _ => e) (fun _ _ _ _ e _ _ => e) v e p q⟩
variable (R) in
noncomputable def tupC : Cx (Value → R → (List Value → R) → R) := ⟨fun v e k => @Value.rec (fun _ => R → (List Value → R) → R) (fun _ => R → (List Value → R) → R) (fun _ => R → (List Value → R) → R) (fun _ e _ => e) (fun _ _ e _ => e) (fun _ _ e _ => e) (fun _ _ _ e _ => e) (fun _ e _ => e) (fun _ e _ => e) (fun _ _ _ e _ => e) (fun _ e _ => e) (fun _ e _ => e) (fun _ _ _ _ _ e _ => e) (fun e _ => e) (fun _ _ _ e _ => e) (fun e _ => e) (fun _ _ e _ => e) (fun a _ _ k => Array.rec (motive := fun _ => (List Value → R) → R) (fun l k => k l) a k) (fun _ _ e _ => e) (fun e _ => e) (fun _ _ _ _ e _ => e) v e k⟩
theorem tupC_eq (v : Value) (e : R) (k : List Value → R) : (tupC R).f v e k = match v with | .tuple ⟨l⟩ => k l | _ => e := by
  rcases v with _ | _ | _ | _ | _ | _ | _ | _ | _ | _ | _ | _ | _ | _ | ⟨l⟩ <;> rfl
variable (R) in
noncomputable def aggC : Cx (Value → R → (List Value → R) → R) := ⟨fun v e k => @Value.rec (fun _ => R → (List Value → R) → R) (fun _ => R → (List Value → R) → R) (fun _ => R → (List Value → R) → R) (fun _ e _ => e) (fun _ _ e _ => e) (fun _ _ e _ => e) (fun _ _ _ e _ => e) (fun _ e _ => e) (fun _ e _ => e) (fun _ _ _ e _ => e) (fun _ e _ => e) (fun _ e _ => e) (fun _ _ _ _ _ e _ => e) (fun e _ => e) (fun _ _ _ e _ => e) (fun e _ => e) (fun a _ _ k => Array.rec (motive := fun _ => (List Value → R) → R) (fun l k => k l) a k) (fun _ _ e _ => e) (fun _ _ e _ => e) (fun e _ => e) (fun _ _ _ _ e _ => e) v e k⟩
theorem aggC_eq (v : Value) (e : R) (k : List Value → R) : (aggC R).f v e k = match v with | .agg ⟨l⟩ => k l | _ => e := by
  rcases v with _ | _ | _ | _ | _ | _ | _ | _ | _ | _ | _ | _ | _ | ⟨l⟩ | _ <;> rfl
variable (R) in
noncomputable def wptC : Cx (Value → R → R → R → R) := ⟨fun v e p q => @Value.rec (fun _ => R → R → R → R) (fun _ => R → R → R → R) (fun _ => R → R → R → R) (fun _ e _ _ => e) (fun _ _ e _ _ => e) (fun _ _ e _ _ => e) (fun _ _ _ e _ _ => e) (fun _ e _ _ => e) (fun a _ p q => Option.rec (motive := fun _ => R → R → R) (fun p _ => p) (fun a p q => Addr.rec (motive := fun _ => R → R → R) (fun _ _ s p q => Option.rec (motive := fun _ => R → R → R) (fun _ q => q) (fun _ p _ => p) s p q) a p q) a p q) (fun _ _ _ e _ _ => e) (fun _ e _ _ => e) (fun _ e _ _ => e) (fun _ _ _ _ _ e _ _ => e) (fun e _ _ => e) (fun _ _ _ e _ _ => e) (fun e _ _ => e) (fun _ _ e _ _ => e) (fun _ _ e _ _ => e) (fun _ _ e _ _ => e) (fun e _ _ => e) (fun _ _ _ _ e _ _ => e) v e p q⟩
variable (R) in
noncomputable def dnC : Cx (Nat → (Nat → R) → R) := ⟨fun n k => Nat.rec (motive := fun _ => (Nat → R) → R) (fun k => k 0) (fun m _ k => k (Nat.succ m)) n k⟩
theorem dnC_eq (n : Nat) (k : Nat → R) : (dnC R).f n k = k n := by cases n <;> rfl
noncomputable def opdC (R : Type) (G : Nat) (x : Operand) : Cx (T Value → R → (Value → R) → R) := match x with
  | .tmp t => Cx.rec (motive := fun _ => Cx _) (fun f => ⟨fun ρ _ k => Option.rec (motive := fun _ => R) (k undef) k (f ρ)⟩) (T.gB (α := Value) t)
  | .const v => bif plain v then ⟨fun _ _ k => k v⟩ else ⟨fun _ e _ => e⟩
  | .global g => bif Nat.blt g G then ⟨fun _ _ k => k (.pointer (some ⟨g, 0, none⟩))⟩ else ⟨fun _ e _ => e⟩
  | .func f => ⟨fun _ _ k => k (.func (.func f) #[] #[])⟩
theorem opdC_eq (G : Nat) (x : Operand) (ρ : T Value) (e : R) (k : Value → R) : (opdC R G x).f ρ e k = match okv G (slot ρ) x with | none => e | some v => k v := by
  cases x with
  | tmp t =>
    show Option.rec (motive := fun _ => R) (k undef) k (T.get ρ t) = k (slot ρ t)
    unfold slot
    cases T.get ρ t <;> rfl
  | const v => unfold opdC okv; simp only; cases plain v <;> rfl
  | global g => unfold opdC okv; simp only; cases Nat.blt g G <;> rfl
  | func f => rfl
noncomputable def putC (R : Type) (d : Option Tmp) : Cx (Value → T Value → (T Value → R) → R) := match d with
  | none => ⟨fun _ ρ k => k ρ⟩
  | some t => T.sB (α := Value) R t
theorem putC_eq (d : Option Tmp) (v : Value) (ρ : T Value) (k : T Value → R) : (putC R d).f v ρ k = k (putS ρ d v) := by
  cases d with
  | none => rfl
  | some t => exact T.sB_eq v ρ t k
inductive BI where
  | add | sub | eql | neq | lss | leq | gtr | geq | no
def biOf : BinOp → BI
  | .add => .add
  | .sub => .sub
  | .eql => .eql
  | .neq => .neq
  | .lss => .lss
  | .leq => .leq
  | .gtr => .gtr
  | .geq => .geq
  | _ => .no
variable (R) in
noncomputable def vB : Cx (Bool → (Value → R) → R) := ⟨fun b k => Bool.rec (motive := fun _ => (Value → R) → R) (fun k => k (.bool false)) (fun k => k (.bool true)) b k⟩
theorem vB_eq (b : Bool) (k : Value → R) : (vB R).f b k = k (.bool b) := by cases b <;> rfl
variable (R) in
noncomputable def vN : Cx (Nat → IntKind → (Value → R) → R) := ⟨fun s q k => Nat.rec (motive := fun _ => IntKind → (Value → R) → R) (fun q k => k (.int q (.ofNat 0))) (fun m _ q k => k (.int q (.ofNat (Nat.succ m)))) s q k⟩
theorem vN_eq (q : IntKind) (k : Value → R) (s : Nat) : (vN R).f s q k = k (.int q (.ofNat s)) := by cases s <;> rfl
noncomputable def binN2 (R : Type) (op : BI) : Cx (IntKind → Nat → Nat → R → (Value → R) → R) := match op with
  | .add => Cx.rec (motive := fun _ => Cx _) (fun vn => ⟨fun q a b e k => Bool.rec (motive := fun _ => R) e (vn (Nat.add a b) q k) (Nat.ble (Nat.add a b) (hn q))⟩) (vN R)
  | .sub => Cx.rec (motive := fun _ => Cx _) (fun vn => ⟨fun q a b e k => Bool.rec (motive := fun _ => R) e (Bool.rec (motive := fun _ => R) e (vn (Nat.sub a b) q k) (Nat.ble (Nat.sub a b) (hn q))) (Nat.ble b a)⟩) (vN R)
  | .eql => Cx.rec (motive := fun _ => Cx _) (fun vb => ⟨fun q a b e k => vb (Nat.beq a b) k⟩) (vB R)
  | .neq => ⟨fun q a b e k => Bool.rec (motive := fun _ => (Value → R) → R) (fun k => k (.bool true)) (fun k => k (.bool false)) (Nat.beq a b) k⟩
  | .lss => Cx.rec (motive := fun _ => Cx _) (fun vb => ⟨fun q a b e k => vb (Nat.ble (Nat.succ a) b) k⟩) (vB R)
  | .leq => Cx.rec (motive := fun _ => Cx _) (fun vb => ⟨fun q a b e k => vb (Nat.ble a b) k⟩) (vB R)
  | .gtr => Cx.rec (motive := fun _ => Cx _) (fun vb => ⟨fun q a b e k => vb (Nat.ble (Nat.succ b) a) k⟩) (vB R)
  | .geq => Cx.rec (motive := fun _ => Cx _) (fun vb => ⟨fun q a b e k => vb (Nat.ble b a) k⟩) (vB R)
  | .no => ⟨fun q a b e k => e⟩
theorem fw_in {q : IntKind} {s : Nat} (h : Nat.ble s (hn q) = true) : fw q (.ofNat s) = .ofNat s := by
  unfold fw
  rw [show inR q (.ofNat s) = true from h]; rfl
theorem dec_beq (a b : Nat) : decide (Int.ofNat a = Int.ofNat b) = Nat.beq a b := by
  by_cases h : a = b
  · subst h; simp
  · cases hb : Nat.beq a b with
    | true => exact absurd (Nat.eq_of_beq_eq_true hb) h
    | false => simp; omega
theorem dec_ble (a b : Nat) : decide (Int.ofNat a ≤ Int.ofNat b) = Nat.ble a b := by
  cases hb : Nat.ble a b with
  | true => have := Nat.le_of_ble_eq_true hb; simp; omega
  | false =>
    have : ¬ a ≤ b := fun h => by rw [Nat.ble_eq_true_of_le h] at hb; cases hb
    simp; omega
theorem dec_blt (a b : Nat) : decide (Int.ofNat a < Int.ofNat b) = Nat.ble (Nat.succ a) b := by
  rw [← dec_ble]; apply decide_eq_decide.2; simp only [Int.ofNat_eq_natCast]; omega
theorem binN2_eq (op : BinOp) (q : IntKind) (a b : Nat) (e : R) (k : Value → R) : (binN2 R (biOf op)).f q a b e k = e ∨ ∃ v, binI op q (.ofNat a) q (.ofNat b) = some v ∧ (binN2 R (biOf op)).f q a b e k = k v := by
  have hq : decide (q = q) = true := by simp
  cases op <;> first | exact .inl rfl | skip
  · cases h : Nat.ble (Nat.add a b) (hn q) with
    | false => left; show Bool.rec _ _ (Nat.ble (Nat.add a b) (hn q)) = e; rw [h]
    | true =>
      right
      refine ⟨_, by simp only [binI, hq, cond_true, ar]; rfl, ?_⟩
      show Bool.rec (motive := fun _ => R) _ _ (Nat.ble (Nat.add a b) (hn q)) = _
      rw [h]
      show (vN R).f (Nat.add a b) q k = _
      rw [vN_eq, show (Int.ofNat a + Int.ofNat b) = Int.ofNat (Nat.add a b) from rfl, fw_in h]
  · cases hb : Nat.ble b a with
    | false => left; show Bool.rec _ _ (Nat.ble b a) = e; rw [hb]
    | true =>
    cases h : Nat.ble (Nat.sub a b) (hn q) with
    | false => left; show Bool.rec _ (Bool.rec _ _ (Nat.ble (Nat.sub a b) (hn q))) (Nat.ble b a) = e; rw [hb, h]
    | true =>
      right
      refine ⟨_, by simp only [binI, hq, cond_true, ar]; rfl, ?_⟩
      show Bool.rec (motive := fun _ => R) _ (Bool.rec (motive := fun _ => R) _ _ (Nat.ble (Nat.sub a b) (hn q))) (Nat.ble b a) = _
      rw [hb, h]
      show (vN R).f (Nat.sub a b) q k = _
      have hle := Nat.le_of_ble_eq_true hb
      rw [vN_eq, show (Int.ofNat a - Int.ofNat b) = Int.ofNat (Nat.sub a b) from by
        show (a : Int) - (b : Int) = ((a - b : Nat) : Int)
        omega, fw_in h]
  all_goals
    right
    refine ⟨_, by simp only [binI, hq, cond_true, ar]; rfl, ?_⟩
  · show (vB R).f (Nat.beq a b) k = _
    rw [vB_eq, dec_beq]
  · show Bool.rec (motive := fun _ => (Value → R) → R) (fun k => k (.bool true)) (fun k => k (.bool false)) (Nat.beq a b) k = _
    rw [dec_beq]; cases Nat.beq a b <;> rfl
  · show (vB R).f (Nat.ble (Nat.succ a) b) k = _
    rw [vB_eq, dec_blt]
  · show (vB R).f (Nat.ble a b) k = _
    rw [vB_eq, dec_ble]
  · show (vB R).f (Nat.ble (Nat.succ b) a) k = _
    rw [vB_eq, dec_blt]
  · show (vB R).f (Nat.ble b a) k = _
    rw [vB_eq, dec_ble]
noncomputable def bin2C (R : Type) (op : BI) : Cx (Value → Value → R → (Value → R) → R) := Cx.rec (motive := fun _ => Cx _) (fun h => ⟨fun u w e k => @Value.rec (fun _ => Value → R → (Value → R) → R) (fun _ => Value → R → (Value → R) → R) (fun _ => Value → R → (Value → R) → R) (fun _ _ e _ => e) (fun q m w e k => Int.rec (motive := fun _ => IntKind → Value → R → (Value → R) → R) (fun a q w e k => @Value.rec (fun _ => IntKind → Nat → R → (Value → R) → R) (fun _ => IntKind → Nat → R → (Value → R) → R) (fun _ => IntKind → Nat → R → (Value → R) → R) (fun _ _ _ e _ => e) (fun q' n q a e k => Int.rec (motive := fun _ => IntKind → IntKind → Nat → R → (Value → R) → R) (fun b q' q a e k => Bool.rec (motive := fun _ => Nat → IntKind → Nat → R → (Value → R) → R) (fun _ _ _ e _ => e) (fun b q a e k => h q a b e k) (decide (q = q')) b q a e k) (fun _ _ _ _ e _ => e) n q' q a e k) (fun _ _ _ _ e _ => e) (fun _ _ _ _ _ e _ => e) (fun _ _ _ e _ => e) (fun _ _ _ e _ => e) (fun _ _ _ _ _ e _ => e) (fun _ _ _ e _ => e) (fun _ _ _ e _ => e) (fun _ _ _ _ _ _ _ e _ => e) (fun _ _ e _ => e) (fun _ _ _ _ _ e _ => e) (fun _ _ e _ => e) (fun _ _ _ _ e _ => e) (fun _ _ _ _ e _ => e) (fun _ _ _ _ e _ => e) (fun _ _ e _ => e) (fun _ _ _ _ _ _ e _ => e) w q a e k) (fun _ _ _ e _ => e) m q w e k) (fun _ _ _ e _ => e) (fun _ _ _ _ e _ => e) (fun _ _ e _ => e) (fun _ _ e _ => e) (fun _ _ _ _ e _ => e) (fun _ _ e _ => e) (fun _ _ e _ => e) (fun _ _ _ _ _ _ e _ => e) (fun _ e _ => e) (fun _ _ _ _ e _ => e) (fun _ e _ => e) (fun _ _ _ e _ => e) (fun _ _ _ e _ => e) (fun _ _ _ e _ => e) (fun _ e _ => e) (fun _ _ _ _ _ e _ => e) u w e k⟩) (binN2 R op)
theorem bin2C_eq (op : BinOp) (u w : Value) (e : R) (k : Value → R) : (bin2C R (biOf op)).f u w e k = e ∨ ∃ q a b v, u = .int q (.ofNat a) ∧ w = .int q (.ofNat b) ∧ binI op q (.ofNat a) q (.ofNat b) = some v ∧ (bin2C R (biOf op)).f u w e k = k v := by
  rcases u with _ | ⟨q, m⟩ | _ | _ | _ | _ | _ | _ | _ | _ | _ | _ | _ | _ | _ <;> try exact .inl rfl
  rcases m with a | a
  · rcases w with _ | ⟨q', n⟩ | _ | _ | _ | _ | _ | _ | _ | _ | _ | _ | _ | _ | _ <;> try exact .inl rfl
    rcases n with b | b
    · by_cases hq : q = q'
      · subst hq
        have hd : decide (q = q) = true := by simp
        have he : (bin2C R (biOf op)).f (.int q (.ofNat a)) (.int q (.ofNat b)) e k = (binN2 R (biOf op)).f q a b e k := by
          show Bool.rec (motive := fun _ => Nat → IntKind → Nat → R → (Value → R) → R) (fun _ _ _ e _ => e) (fun b q a e k => (binN2 R (biOf op)).f q a b e k) (decide (q = q)) b q a e k = _
          rw [hd]
        rcases binN2_eq op q a b e k with h | ⟨v, h, h'⟩
        · exact .inl (he.trans h)
        · exact .inr ⟨q, a, b, v, rfl, rfl, h, he.trans h'⟩
      · left
        show Bool.rec (motive := fun _ => Nat → IntKind → Nat → R → (Value → R) → R) (fun _ _ _ e _ => e) (fun b q a e k => (binN2 R (biOf op)).f q a b e k) (decide (q = q')) b q a e k = _
        rw [decide_eq_false hq]
    · exact .inl rfl
  · exact .inl rfl
noncomputable def getV (t : T Value) (n : Nat) : Option Value := Cx.rec (motive := fun _ => Option Value) (fun f => f t) (T.gB (α := Value) n)
noncomputable def getB (t : T (Option RB)) (n : Nat) : Option (Option RB) := Cx.rec (motive := fun _ => Option (Option RB)) (fun f => f t) (T.gB (α := Option RB) n)
variable (R) in
noncomputable def getC : Cx (Mem → Nat → Nat → R → (Value → R) → R) := ⟨fun M b i e k => Mem.rec (motive := fun _ => Nat → Nat → R → (Value → R) → R) (fun bl _ _ b i e k => Option.rec (motive := fun _ => Nat → R → (Value → R) → R) (fun _ e _ => e) (fun x i e k => Option.rec (motive := fun _ => Nat → R → (Value → R) → R) (fun _ e _ => e) (fun B i e k => RB.rec (motive := fun _ => Nat → R → (Value → R) → R) (fun cells len _ _ _ _ i e k => Bool.rec (motive := fun _ => T Value → Nat → R → (Value → R) → R) (fun _ _ e _ => e) (fun cells i e k => Option.rec (motive := fun _ => R → (Value → R) → R) (fun e _ => e) (fun v _ k => k v) (getV cells i) e k) (Nat.ble (Nat.succ i) len) cells i e k) B i e k) x i e k) (getB bl b) i e k) M b i e k⟩
theorem getC_eq (M : Mem) (b i : Nat) (e : R) (k : Value → R) : (getC R).f M b i e k = match M.get b i with | none => e | some v => k v := by
  obtain ⟨bl, n, mp⟩ := M
  unfold Mem.get Mem.at
  show Option.rec (motive := fun _ => Nat → R → (Value → R) → R) (fun _ e _ => e) (fun x i e k => Option.rec (motive := fun _ => Nat → R → (Value → R) → R) (fun _ e _ => e) (fun B i e k => RB.rec (motive := fun _ => Nat → R → (Value → R) → R) (fun cells len _ _ _ _ i e k => Bool.rec (motive := fun _ => T Value → Nat → R → (Value → R) → R) (fun _ _ e _ => e) (fun cells i e k => Option.rec (motive := fun _ => R → (Value → R) → R) (fun e _ => e) (fun v _ k => k v) (getV cells i) e k) (Nat.ble (Nat.succ i) len) cells i e k) B i e k) x i e k) (T.get bl b) i e k = _
  cases T.get bl b with
  | none => rfl
  | some x =>
    cases x with
    | none => rfl
    | some B =>
      obtain ⟨cells, len, el, es, rw', fz'⟩ := B
      show Bool.rec (motive := fun _ => T Value → Nat → R → (Value → R) → R) (fun _ _ e _ => e) (fun cells i e k => Option.rec (motive := fun _ => R → (Value → R) → R) (fun e _ => e) (fun v _ k => k v) (T.get cells i) e k) (Nat.ble (Nat.succ i) len) cells i e k = match bif Nat.blt i len then T.get cells i else none with | none => e | some v => k v
      rw [show Nat.blt i len = Nat.ble (Nat.succ i) len from rfl]
      cases Nat.ble (Nat.succ i) len with
      | false => rfl
      | true => show Option.rec (motive := fun _ => R → (Value → R) → R) (fun e _ => e) (fun v _ k => k v) (T.get cells i) e k = _; cases T.get cells i <;> rfl
noncomputable def nth {α : Type} (n : Nat) : Cx (List α → R → (α → R) → R) := Nat.rec (motive := fun _ => Cx (List α → R → (α → R) → R)) ⟨fun l e k => List.rec (motive := fun _ => R → (α → R) → R) (fun e _ => e) (fun a _ _ _ k => k a) l e k⟩
  (fun _ ih => Cx.rec (motive := fun _ => Cx _) (fun f => ⟨fun l e k => List.rec (motive := fun _ => R → (α → R) → R) (fun e _ => e) (fun _ t _ e k => f t e k) l e k⟩) ih) n
theorem nth_eq {α : Type} : ∀ (n : Nat) (l : List α) (e : R) (k : α → R), (nth (R := R) n).f l e k = match l[n]? with | none => e | some v => k v
  | 0, [], e, k => rfl
  | 0, a :: l, e, k => rfl
  | n + 1, [], e, k => rfl
  | n + 1, a :: l, e, k => by
    show (nth (R := R) n).f l e k = _
    rw [nth_eq n l e k, List.getElem?_cons_succ]
abbrev OvC (R : Type) := Cx (T Value → Mem → R → (Value → Mem → R) → R)
noncomputable def badC : OvC R := ⟨fun _ _ e _ => e⟩
def tell (r : OR) (e : R) (k : Value → Mem → R) : R := match r with
  | none => e
  | some (v, M) => k v M
noncomputable def moveC (P : Program) (x : Operand) : OvC R := Cx.rec (motive := fun _ => OvC R) (fun f => ⟨fun ρ M e k => f ρ e fun v => k v M⟩) (opdC R P.globals.size x)
theorem moveC_eq {P : Program} {x : Operand} {ρ : T Value} {M : Mem} {e : R} {k : Value → Mem → R} : (moveC P x).f ρ M e k = tell (eMove P (slot ρ) M x) e k := by
  show (opdC R P.globals.size x).f ρ e (fun v => k v M) = _
  rw [opdC_eq]
  unfold eMove tell
  cases okv P.globals.size (slot ρ) x <;> rfl
noncomputable def loadC (P : Program) (t : TypeId) (x : Operand) : OvC R := match P.underlying t with
  | none => badC
  | some d => bif aggT d then (match (P.info? t).map (·.size) with
      | none => badC
      | some n => Cx.rec (motive := fun _ => OvC R) (fun f => Cx.rec (motive := fun _ => OvC R) (fun p => ⟨fun ρ M e k => f ρ e fun v => p v e fun b i => Option.rec (motive := fun _ => R) e (fun l => k (.agg ⟨l⟩) M) (M.getN b i n)⟩) (pC R)) (opdC R P.globals.size x))
    else Cx.rec (motive := fun _ => OvC R) (fun f => Cx.rec (motive := fun _ => OvC R) (fun p => Cx.rec (motive := fun _ => OvC R) (fun g => ⟨fun ρ M e k => f ρ e fun v => p v e fun b i => g M b i e fun v => k v M⟩) (getC R)) (pC R)) (opdC R P.globals.size x)
theorem loadC_eq {P : Program} {t : TypeId} {x : Operand} {ρ : T Value} {M : Mem} {e : R} {k : Value → Mem → R} : (loadC P t x).f ρ M e k = tell (eLoad P (slot ρ) M t x) e k := by
  have hx := fun k => opdC_eq (R := R) P.globals.size x ρ e k
  unfold loadC eLoad
  generalize okv P.globals.size (slot ρ) x = r at hx
  cases hu : P.underlying t with
  | none =>
    rcases r with _ | v
    · rfl
    · rcases v with _ | _ | _ | _ | _ | a | _ | _ | _ | _ | _ | _ | _ | _ | _ <;> try rfl
      rcases a with _ | ⟨b, o, _ | s⟩ <;> rfl
  | some d =>
    simp only
    cases ha : aggT d with
    | true =>
      simp only [cond_true]
      cases hs : (P.info? t).map (·.size) with
      | none =>
        show e = _
        rcases r with _ | v
        · rfl
        · rcases v with _ | _ | _ | _ | _ | a | _ | _ | _ | _ | _ | _ | _ | _ | _ <;> try rfl
          rcases a with _ | ⟨b, o, _ | s⟩ <;> first | rfl | simp only [ha, cond_true, tell]
      | some n =>
        refine (hx _).trans ?_
        rcases r with _ | v
        · rfl
        · rcases v with _ | _ | _ | _ | _ | a | _ | _ | _ | _ | _ | _ | _ | _ | _ <;> try rfl
          rcases a with _ | ⟨b, o, _ | s⟩ <;> try rfl
          simp only [ha, cond_true, pC_eq]
          cases M.getN b o n <;> rfl
    | false =>
      simp only [cond_false]
      refine (hx _).trans ?_
      rcases r with _ | v
      · rfl
      · rcases v with _ | _ | _ | _ | _ | a | _ | _ | _ | _ | _ | _ | _ | _ | _ <;> try rfl
        rcases a with _ | ⟨b, o, _ | s⟩ <;> try rfl
        simp only [ha, cond_false, pC_eq, getC_eq]
        cases M.get b o <;> rfl
noncomputable def mkIC (P : Program) (xt : TypeId) (x : Operand) : OvC R := match P.underlying xt with
  | none => badC
  | some d => (match d with
    | .interface _ => badC
    | _ => Cx.rec (motive := fun _ => OvC R) (fun f => ⟨fun ρ M e k => f ρ e fun v => k (.iface xt v) M⟩) (opdC R P.globals.size x))
theorem mkIC_eq {P : Program} {xt : TypeId} {x : Operand} {ρ : T Value} {M : Mem} {e : R} {k : Value → Mem → R} : (mkIC P xt x).f ρ M e k = tell (eMkI P (slot ρ) M xt x) e k := by
  have hx := fun k => opdC_eq (R := R) P.globals.size x ρ e k
  unfold mkIC eMkI
  generalize okv P.globals.size (slot ρ) x = r at hx
  cases P.underlying xt with
  | none => cases r <;> rfl
  | some d =>
    cases d <;> first
      | (cases r <;> rfl)
      | (refine (hx _).trans ?_; cases r <;> rfl)
noncomputable def pickC (P : Program) (x y z : Operand) : OvC R := Cx.rec (motive := fun _ => OvC R) (fun f => Cx.rec (motive := fun _ => OvC R) (fun g => Cx.rec (motive := fun _ => OvC R) (fun h => Cx.rec (motive := fun _ => OvC R) (fun q => ⟨fun ρ M e k => f ρ e fun u => g ρ e fun v => h ρ e fun w => q u e (k w M) (k v M)⟩) (booC R)) (opdC R P.globals.size z)) (opdC R P.globals.size y)) (opdC R P.globals.size x)
theorem pickC_eq {P : Program} {x y z : Operand} {ρ : T Value} {M : Mem} {e : R} {k : Value → Mem → R} : (pickC P x y z).f ρ M e k = tell (ePick P (slot ρ) M x y z) e k := by
  show (opdC R P.globals.size x).f ρ e (fun u => (opdC R P.globals.size y).f ρ e fun v => (opdC R P.globals.size z).f ρ e fun w => (booC R).f u e (k w M) (k v M)) = _
  simp only [opdC_eq]
  unfold ePick
  generalize okv P.globals.size (slot ρ) x = r1
  generalize okv P.globals.size (slot ρ) y = r2
  generalize okv P.globals.size (slot ρ) z = r3
  cases r1 with
  | none => rfl
  | some u =>
    cases r2 with
    | none => cases u <;> rfl
    | some v =>
      cases r3 with
      | none => cases u <;> rfl
      | some w =>
        cases u <;> try rfl
        rename_i p
        cases p <;> rfl
noncomputable def extC (P : Program) (x : Operand) (i : Nat) : OvC R := Cx.rec (motive := fun _ => OvC R) (fun f => Cx.rec (motive := fun _ => OvC R) (fun g => Cx.rec (motive := fun _ => OvC R) (fun t => ⟨fun ρ M e k => f ρ e fun v => t v e fun l => g l e fun v => k v M⟩) (tupC R)) (nth (R := R) i)) (opdC R P.globals.size x)
theorem extC_eq {P : Program} {x : Operand} {i : Nat} {ρ : T Value} {M : Mem} {e : R} {k : Value → Mem → R} : (extC P x i).f ρ M e k = tell (eExtract P (slot ρ) M x i) e k := by
  show (opdC R P.globals.size x).f ρ e (fun v => (tupC R).f v e fun l => (nth (R := R) i).f l e fun v => k v M) = _
  simp only [opdC_eq, nth_eq, tupC_eq]
  unfold eExtract
  generalize okv P.globals.size (slot ρ) x = r
  cases r with
  | none => rfl
  | some v =>
    cases v <;> try rfl
    rename_i a
    obtain ⟨l⟩ := a
    simp only
    cases l[i]? <;> rfl
noncomputable def slowC (P : Program) (op : Op) : OvC R := Bx.rec (motive := fun _ => OvC R) (fun f => match quiet P op with
  | true => ⟨fun ρ M e k => tell (f ρ M) e fun v M' => doF (fkOf op) v fun v => k v M'⟩
  | false => ⟨fun ρ M e k => tell (f ρ M) e fun v M' => doF (fkOf op) v fun v => doM M' fun M' => k v M'⟩) (stV P op)
theorem slowC_eq {P : Program} {op : Op} {ρ : T Value} {M : Mem} {e : R} {k : Value → Mem → R} : (slowC P op).f ρ M e k = tell (eOp P (slot ρ) M op) e k := by
  rw [← stV_eq]
  unfold slowC
  cases quiet P op with
  | true => show tell ((stV P op).f ρ M) e (fun v M' => doF (fkOf op) v fun v => k v M') = _; simp only [doF_eq]
  | false => show tell ((stV P op).f ρ M) e (fun v M' => doF (fkOf op) v fun v => doM M' fun M' => k v M') = _; simp only [doF_eq, doM_eq]
noncomputable def nilC (P : Program) (x : Operand) : OvC R := Cx.rec (motive := fun _ => OvC R) (fun s => Cx.rec (motive := fun _ => OvC R) (fun f => Cx.rec (motive := fun _ => OvC R) (fun w => ⟨fun ρ M e k => f ρ e fun v => w v (s ρ M e k) e (k v M)⟩) (wptC R)) (opdC R P.globals.size x)) (slowC (R := R) P (.nilCheck x))
theorem nilC_eq {P : Program} {x : Operand} {ρ : T Value} {M : Mem} {e : R} {k : Value → Mem → R} : (nilC P x).f ρ M e k = tell (eNil P (slot ρ) M x) e k := by
  have hs : (slowC (R := R) P (.nilCheck x)).f ρ M e k = tell (eNil P (slot ρ) M x) e k := slowC_eq
  show (opdC R P.globals.size x).f ρ e (fun v => (wptC R).f v ((slowC (R := R) P (.nilCheck x)).f ρ M e k) e (k v M)) = _
  rw [opdC_eq, hs]
  unfold eNil
  generalize okv P.globals.size (slot ρ) x = r
  rcases r with _ | v
  · rfl
  · rcases v with _ | _ | _ | _ | _ | a | _ | _ | _ | _ | _ | _ | _ | _ | _ <;> try rfl
    rcases a with _ | ⟨b, o, _ | s⟩ <;> rfl
noncomputable def fldC (P : Program) (xt : TypeId) (x : Operand) (n : Nat) : OvC R := match P.underlying xt with
  | some (.struct fs) => (match fs[n]? with
    | none => badC
    | some f => (match (P.info? f.type).map (·.size) with
      | none => badC
      | some s => bif Nat.blt 0 s then (match f.offset with
          | 0 => Cx.rec (motive := fun _ => OvC R) (fun f => Cx.rec (motive := fun _ => OvC R) (fun p => ⟨fun ρ M e k => f ρ e fun v => p v e fun _ _ => k v M⟩) (pC R)) (opdC R P.globals.size x)
          | d => Cx.rec (motive := fun _ => OvC R) (fun f => Cx.rec (motive := fun _ => OvC R) (fun p => Cx.rec (motive := fun _ => OvC R) (fun n => ⟨fun ρ M e k => f ρ e fun v => p v e fun b i => n (Nat.add i d) fun o => k (.pointer (some ⟨b, o, none⟩)) M⟩) (dnC R)) (pC R)) (opdC R P.globals.size x))
        else badC))
  | _ => badC
theorem fldC_eq {P : Program} {xt : TypeId} {x : Operand} {n : Nat} {ρ : T Value} {M : Mem} {e : R} {k : Value → Mem → R} : (fldC P xt x n).f ρ M e k = tell (eFldA P (slot ρ) M xt x n) e k := by
  have hx := fun k => opdC_eq (R := R) P.globals.size x ρ e k
  have key : ∀ (c : OvC R), (∀ b i, okv P.globals.size (slot ρ) x = some (.pointer (some ⟨b, i, none⟩)) → tell (eFldA P (slot ρ) M xt x n) e k = e) → c.f ρ M e k = e → c.f ρ M e k = tell (eFldA P (slot ρ) M xt x n) e k := by
    intro c h1 h2
    rw [h2]
    cases hr : okv P.globals.size (slot ρ) x with
    | none => unfold eFldA; rw [hr]; rfl
    | some v =>
      rcases v with _ | _ | _ | _ | _ | a | _ | _ | _ | _ | _ | _ | _ | _ | _ <;> first | (unfold eFldA; rw [hr]; rfl) | skip
      rcases a with _ | ⟨b, o, _ | s⟩ <;> first | (exact (h1 _ _ hr).symm) | (unfold eFldA; rw [hr]; rfl)
  unfold fldC
  split
  · rename_i fs hu
    cases hf : fs[n]? with
    | none => exact key _ (fun b i h => by unfold eFldA; rw [h, hu]; simp only [hf]; rfl) rfl
    | some fd =>
      simp only
      cases hs : (P.info? fd.type).map (·.size) with
      | none => exact key _ (fun b i h => by unfold eFldA; rw [h, hu]; simp only [hf, hs]; rfl) rfl
      | some s =>
        simp only
        cases hz : Nat.blt 0 s with
        | false => exact key _ (fun b i h => by unfold eFldA; rw [h, hu]; simp only [hf, hs, hz]; rfl) rfl
        | true =>
          simp only [cond_true]
          unfold eFldA
          rw [hu]
          simp only [hf, hs, hz, cond_true]
          split
          · rename_i h0
            refine (hx _).trans ?_
            generalize okv P.globals.size (slot ρ) x = r
            rcases r with _ | v
            · rfl
            · rcases v with _ | _ | _ | _ | _ | a | _ | _ | _ | _ | _ | _ | _ | _ | _ <;> try rfl
              rcases a with _ | ⟨b, o, _ | s⟩ <;> try rfl
              simp only [pC_eq, h0, tell, Nat.add_zero]
          · refine (hx _).trans ?_
            generalize okv P.globals.size (slot ρ) x = r
            rcases r with _ | v
            · rfl
            · rcases v with _ | _ | _ | _ | _ | a | _ | _ | _ | _ | _ | _ | _ | _ | _ <;> try rfl
              rcases a with _ | ⟨b, o, _ | s⟩ <;> try rfl
              simp only [pC_eq, dnC_eq, tell]; rfl
  · rename_i hu
    refine key _ (fun b i h => ?_) rfl
    unfold eFldA; rw [h]
    simp only
    rfl
noncomputable def ixaC (P : Program) (t : TypeId) (x y : Operand) : OvC R := match P.underlying t with
  | some (.slice el) => (match (P.info? el).map (·.size) with
    | none => badC
    | some size => Cx.rec (motive := fun _ => OvC R) (fun f => Cx.rec (motive := fun _ => OvC R) (fun g => Cx.rec (motive := fun _ => OvC R) (fun m => Cx.rec (motive := fun _ => OvC R) (fun l => Cx.rec (motive := fun _ => OvC R) (fun n => ⟨fun ρ M e k => g ρ e fun w => m w e fun j => f ρ e fun u => l u e fun b i c => Bool.rec (motive := fun _ => R) e (n (Nat.add i (Nat.mul j size)) fun o => k (.pointer (some ⟨b, o, none⟩)) M) (Nat.ble (Nat.succ j) c)⟩) (dnC R)) (sliC R)) (natC R)) (opdC R P.globals.size y)) (opdC R P.globals.size x))
  | _ => slowC P (.indexAddr t x y)
theorem ixaC_eq {P : Program} {t : TypeId} {x y : Operand} {ρ : T Value} {M : Mem} {e : R} {k : Value → Mem → R} : (ixaC P t x y).f ρ M e k = tell (eIxA P (slot ρ) M t x y) e k := by
  have hx := fun k => opdC_eq (R := R) P.globals.size x ρ e k
  have hy := fun k => opdC_eq (R := R) P.globals.size y ρ e k
  unfold ixaC
  split
  · rename_i el hu
    unfold eIxA
    rw [hu]
    generalize okv P.globals.size (slot ρ) y = r2 at hy
    generalize okv P.globals.size (slot ρ) x = r1 at hx
    cases hs : (P.info? el).map (·.size) with
    | none =>
      show e = _
      rcases r2 with _ | w
      · rfl
      rcases w with _ | ⟨q, n⟩ | _ | _ | _ | _ | _ | _ | _ | _ | _ | _ | _ | _ | _ <;> try rfl
      rcases n with j | j <;> try rfl
      rcases r1 with _ | u
      · rfl
      rcases u with _ | _ | _ | _ | _ | a | ⟨a, l, c⟩ | _ | _ | _ | _ | _ | _ | _ | _ <;> try rfl
      · rcases a with _ | ⟨b, o, _ | s⟩ <;> rfl
      · rcases a with _ | ⟨b, o, _ | s⟩ <;> first | rfl | simp only [hs, tell]
    | some size =>
      refine (hy _).trans ?_
      rcases r2 with _ | w
      · rfl
      rcases w with _ | ⟨q, n⟩ | _ | _ | _ | _ | _ | _ | _ | _ | _ | _ | _ | _ | _ <;> try rfl
      rcases n with j | j <;> try rfl
      refine (hx _).trans ?_
      rcases r1 with _ | u
      · rfl
      rcases u with _ | _ | _ | _ | _ | a | ⟨a, l, c⟩ | _ | _ | _ | _ | _ | _ | _ | _ <;> try rfl
      · rcases a with _ | ⟨b, o, _ | s⟩ <;> rfl
      · rcases a with _ | ⟨b, o, _ | s⟩ <;> try rfl
        simp only [hs]
        show Bool.rec (motive := fun _ => R) e ((dnC R).f (Nat.add o (Nat.mul j size)) fun o => k (.pointer (some ⟨b, o, none⟩)) M) (Nat.ble (Nat.succ j) l) = _
        rw [show Nat.blt j l = Nat.ble (Nat.succ j) l from rfl]
        cases Nat.ble (Nat.succ j) l with
        | false => rfl
        | true => simp only [dnC_eq, cond_true, tell]; rfl
  · exact slowC_eq
noncomputable def fieldC (P : Program) (xt : TypeId) (x : Operand) (i : Nat) : OvC R := match P.underlying xt with
  | some (.struct fs) => (match fs[i]? with
    | none => slowC P (.field xt x i)
    | some f => (match P.underlying f.type with
      | none => slowC P (.field xt x i)
      | some d => bif aggT d then slowC P (.field xt x i) else
        Cx.rec (motive := fun _ => OvC R) (fun h => Cx.rec (motive := fun _ => OvC R) (fun g => Cx.rec (motive := fun _ => OvC R) (fun a => ⟨fun ρ M e k => h ρ e fun v => a v e fun cs => g cs e fun v => k v M⟩) (aggC R)) (nth (R := R) f.offset)) (opdC R P.globals.size x)))
  | _ => slowC P (.field xt x i)
theorem fieldC_eq {P : Program} {xt : TypeId} {x : Operand} {i : Nat} {ρ : T Value} {M : Mem} {e : R} {k : Value → Mem → R} : (fieldC P xt x i).f ρ M e k = tell (eField P (slot ρ) M xt x i) e k := by
  have hx := fun k => opdC_eq (R := R) P.globals.size x ρ e k
  unfold fieldC
  split
  · rename_i fs hu
    cases hf : fs[i]? with
    | none => exact slowC_eq
    | some f =>
      simp only
      cases hd : P.underlying f.type with
      | none => exact slowC_eq
      | some d =>
        simp only
        cases ha : aggT d with
        | true => simp only [cond_true]; exact slowC_eq
        | false =>
          simp only [cond_false]
          refine (hx _).trans ?_
          unfold eField
          rw [hu]
          generalize okv P.globals.size (slot ρ) x = r
          rcases r with _ | v
          · rfl
          · cases v <;> try rfl
            rename_i a
            obtain ⟨l⟩ := a
            simp only [aggC_eq, nth_eq, hf, hd, ha, cond_false]
            cases l[f.offset]? <;> rfl
  · exact slowC_eq
noncomputable def binC (P : Program) (op : BinOp) (xt : TypeId) (x y : Operand) (yt : TypeId) : OvC R := Cx.rec (motive := fun _ => OvC R) (fun s => Cx.rec (motive := fun _ => OvC R) (fun f => Cx.rec (motive := fun _ => OvC R) (fun g => Cx.rec (motive := fun _ => OvC R) (fun h => ⟨fun ρ M e k => f ρ e fun u => g ρ e fun w => h u w (s ρ M e k) fun v => k v M⟩) (bin2C R (biOf op))) (opdC R P.globals.size y)) (opdC R P.globals.size x)) (slowC (R := R) P (.binOp op xt x y yt))
theorem binC_eq {P : Program} {op : BinOp} {xt : TypeId} {x y : Operand} {yt : TypeId} {ρ : T Value} {M : Mem} {e : R} {k : Value → Mem → R} : (binC P op xt x y yt).f ρ M e k = tell (eBin P (slot ρ) M op xt x y) e k := by
  have hs : ∀ e k, (slowC (R := R) P (.binOp op xt x y yt)).f ρ M e k = tell (eBin P (slot ρ) M op xt x y) e k := fun e k => slowC_eq
  have hx := fun k => opdC_eq (R := R) P.globals.size x ρ e k
  have hy := fun k => opdC_eq (R := R) P.globals.size y ρ e k
  refine (hx _).trans ?_
  cases h1 : okv P.globals.size (slot ρ) x with
  | none => unfold eBin; rw [h1]; rfl
  | some u =>
    refine (hy _).trans ?_
    cases h2 : okv P.globals.size (slot ρ) y with
    | none => unfold eBin; rw [h1, h2]; rfl
    | some w =>
      show (bin2C R (biOf op)).f u w ((slowC (R := R) P (.binOp op xt x y yt)).f ρ M e k) (fun v => k v M) = _
      rcases bin2C_eq op u w ((slowC (R := R) P (.binOp op xt x y yt)).f ρ M e k) (fun v => k v M) with h | ⟨q, a, b, v, rfl, rfl, h, h'⟩
      · rw [h]; exact hs e k
      · rw [h']
        unfold eBin
        rw [h1, h2]
        simp only [bin, h, tell]
noncomputable def stC (P : Program) (op : Op) : OvC R := match op with
  | .move x => moveC P x
  | .assign x => moveC P x
  | .pick a b c => pickC P a b c
  | .load t x => loadC P t x
  | .nilCheck x => nilC P x
  | .binOp op xt x y yt => binC P op xt x y yt
  | .makeInterface xt x => mkIC P xt x
  | .fieldAddr t x n => fldC P t x n
  | .field t x n => fieldC P t x n
  | .indexAddr t x y => ixaC P t x y
  | .extract x i => extC P x i
  | op => slowC P op
theorem stC_eq {P : Program} {op : Op} {ρ : T Value} {M : Mem} {e : R} {k : Value → Mem → R} : (stC P op).f ρ M e k = tell (eOp P (slot ρ) M op) e k := by
  unfold stC
  split
  · exact moveC_eq
  · exact moveC_eq
  · exact pickC_eq
  · exact loadC_eq
  · exact nilC_eq
  · exact binC_eq
  · exact mkIC_eq
  · exact fldC_eq
  · exact fieldC_eq
  · exact ixaC_eq
  · exact extC_eq
  · exact slowC_eq
noncomputable def argsC (R : Type) (G : Nat) (xs : List Operand) : Cx (T Value → R → (List Value → R) → R) := List.rec (motive := fun _ => Cx (T Value → R → (List Value → R) → R)) ⟨fun _ _ k => k []⟩
  (fun x _ ih => Cx.rec (motive := fun _ => Cx _) (fun f => Cx.rec (motive := fun _ => Cx _) (fun g => ⟨fun ρ e k => f ρ e fun v => g ρ e fun l => k (v :: l)⟩) ih) (opdC R G x)) xs
theorem argsC_eq (G : Nat) (ρ : T Value) (e : R) : ∀ (xs : List Operand) (k : List Value → R), (argsC R G xs).f ρ e k = match okvs G (slot ρ) xs with | none => e | some l => k l
  | [], k => rfl
  | x :: xs, k => by
    show (opdC R G x).f ρ e (fun v => (argsC R G xs).f ρ e fun l => k (v :: l)) = match (match okv G (slot ρ) x with
    | none => none
    | some v => match okvs G (slot ρ) xs with
      | none => none
      | some l => some (v :: l)) with | none => e | some l => k l
    rw [opdC_eq]
    cases okv G (slot ρ) x with
    | none => rfl
    | some v =>
      simp only
      rw [argsC_eq G ρ e xs]
      cases okvs G (slot ρ) xs <;> rfl
noncomputable def adQ (a b : Option Addr) : Bool := Option.rec (motive := fun _ => Option Addr → Bool) (fun b => qAddr none b) (fun x b => Addr.rec (motive := fun _ => Option Addr → Bool) (fun x i s b => Option.rec (motive := fun _ => Nat → Nat → Option Addr → Bool) (fun x i b => Option.rec (motive := fun _ => Nat → Nat → Bool) (fun _ _ => false) (fun y x i => Addr.rec (motive := fun _ => Nat → Nat → Bool) (fun y j t x i => Option.rec (motive := fun _ => Nat → Nat → Nat → Nat → Bool) (fun y j x i => Bool.rec (motive := fun _ => Nat → Nat → Bool) (fun _ _ => false) (fun i j => Nat.beq i j) (Nat.beq x y) i j) (fun _ _ _ _ _ => false) t y j x i) y x i) b x i) (fun s x i b => qAddr (some ⟨x, i, some s⟩) b) s x i b) x b) a b
theorem adQ_eq (a b : Option Addr) : adQ a b = qAddr a b := by
  rcases a with _ | ⟨x, i, _ | s⟩ <;> try rfl
  rcases b with _ | ⟨y, j, _ | t⟩ <;> try rfl
  show Bool.rec (motive := fun _ => Nat → Nat → Bool) (fun _ _ => false) (fun i j => Nat.beq i j) (Nat.beq x y) i j = (Nat.beq x y && Nat.beq i j)
  cases Nat.beq x y <;> rfl
noncomputable def vQ (v w : Value) : Bool := @Value.rec (fun _ => Value → Bool) (fun _ => Value → Bool) (fun _ => Value → Bool) (fun b w => vEq 8 (.bool b) w) (fun q m w => @Value.rec (fun _ => IntKind → Int → Bool) (fun _ => IntKind → Int → Bool) (fun _ => IntKind → Int → Bool) (fun _ _ _ => false) (fun q' n q m => Bool.rec (motive := fun _ => Int → Int → Bool) (fun _ _ => false) (fun m n => Int.rec (motive := fun _ => Int → Bool) (fun a n => Int.rec (motive := fun _ => Nat → Bool) (fun b a => Nat.beq a b) (fun _ _ => false) n a) (fun a n => decide (Int.negSucc a = n)) m n) (decide (q = q')) m n) (fun _ _ _ _ => false) (fun _ _ _ _ _ => false) (fun _ _ _ => false) (fun _ _ _ => false) (fun _ _ _ _ _ => false) (fun _ _ _ => false) (fun _ _ _ => false) (fun _ _ _ _ _ _ _ => false) (fun _ _ => false) (fun _ _ _ _ _ => false) (fun _ _ => false) (fun _ _ _ _ => false) (fun _ _ _ _ => false) (fun _ _ _ _ => false) (fun _ _ => false) (fun _ _ _ _ _ _ => false) w q m) (fun k n w => vEq 8 (.float k n) w) (fun k x y w => vEq 8 (.complex k x y) w) (fun s w => vEq 8 (.string s) w) (fun a w => @Value.rec (fun _ => Option Addr → Bool) (fun _ => Option Addr → Bool) (fun _ => Option Addr → Bool) (fun _ _ => false) (fun _ _ _ => false) (fun _ _ _ => false) (fun _ _ _ _ => false) (fun _ _ => false) (fun b a => adQ a b) (fun _ _ _ _ => false) (fun _ _ => false) (fun _ _ => false) (fun _ _ _ _ _ _ => false) (fun _ => false) (fun _ _ _ _ => false) (fun _ => false) (fun _ _ _ => false) (fun _ _ _ => false) (fun _ _ _ => false) (fun _ => false) (fun _ _ _ _ _ => false) w a) (fun a l c w => @Value.rec (fun _ => Option Addr → Nat → Nat → Bool) (fun _ => Option Addr → Nat → Nat → Bool) (fun _ => Option Addr → Nat → Nat → Bool) (fun _ _ _ _ => false) (fun _ _ _ _ _ => false) (fun _ _ _ _ _ => false) (fun _ _ _ _ _ _ => false) (fun _ _ _ _ => false) (fun _ _ _ _ => false) (fun b l' c' a l c => Bool.rec (motive := fun _ => Bool) false (Bool.rec (motive := fun _ => Bool) false (Nat.beq c c') (Nat.beq l l')) (adQ a b)) (fun _ _ _ _ => false) (fun _ _ _ _ => false) (fun _ _ _ _ _ _ _ _ => false) (fun _ _ _ => false) (fun _ _ _ _ _ _ => false) (fun _ _ _ => false) (fun _ _ _ _ _ => false) (fun _ _ _ _ _ => false) (fun _ _ _ _ _ => false) (fun _ _ _ => false) (fun _ _ _ _ _ _ _ => false) w a l c) (fun r w => vEq 8 (.map r) w) (fun r w => vEq 8 (.chan r) w) (fun fn a c _ _ w => vEq 8 (.func fn a c) w) (fun w => vEq 8 (.nilFunc) w) (fun t u _ w => vEq 8 (.iface t u) w) (fun w => vEq 8 (.nilIface) w) (fun a _ w => vEq 8 (.agg a) w) (fun a _ w => vEq 8 (.tuple a) w) (fun _ _ _ => false) (fun _ => false) (fun _ _ _ _ _ => false) v w
theorem vQ_eq (v w : Value) : vQ v w = vEq 8 v w := by
  rcases v with _ | ⟨q, m⟩ | _ | _ | _ | a | ⟨a, l, c⟩ | _ | _ | _ | _ | _ | _ | _ | _ <;> try rfl
  · rcases w with _ | ⟨q', n⟩ | _ | _ | _ | _ | _ | _ | _ | _ | _ | _ | _ | _ | _ <;> try rfl
    show Bool.rec (motive := fun _ => Int → Int → Bool) (fun _ _ => false) (fun m n => Int.rec (motive := fun _ => Int → Bool) (fun a n => Int.rec (motive := fun _ => Nat → Bool) (fun b a => Nat.beq a b) (fun _ _ => false) n a) (fun a n => decide (Int.negSucc a = n)) m n) (decide (q = q')) m n = (decide (q = q') && decide (m = n))
    cases hq : decide (q = q') with
    | false => rfl
    | true =>
      rcases m with a | a
      · rcases n with b | b
        · exact (dec_beq a b).symm
        · show false = (true && decide (Int.ofNat a = Int.negSucc b)); simp
      · show decide (Int.negSucc a = n) = (true && decide (Int.negSucc a = n)); simp
  · rcases w with _ | _ | _ | _ | _ | b | _ | _ | _ | _ | _ | _ | _ | _ | _ <;> try rfl
    exact adQ_eq a b
  · rcases w with _ | _ | _ | _ | _ | _ | ⟨b, l', c'⟩ | _ | _ | _ | _ | _ | _ | _ | _ <;> try rfl
    show Bool.rec (motive := fun _ => Bool) false (Bool.rec (motive := fun _ => Bool) false (Nat.beq c c') (Nat.beq l l')) (adQ a b) = (qAddr a b && (Nat.beq l l' && Nat.beq c c'))
    rw [adQ_eq]
    cases qAddr a b <;> cases Nat.beq l l' <;> rfl
end
end Go.Ri
set_option linter.unusedSimpArgs false
set_option linter.unusedVariables false
set_option linter.unusedSectionVars false
namespace Go.Ri
open Go Go.Am Go.RowKit
variable [SymE] [FT] [FTok]
abbrev Nxt := T Value → List Deferred → Mem → OpsR
abbrev OpK := Cx (Caller → T Value → List Deferred → Mem → Nxt → OpsR)
noncomputable def afC (d : Option Tmp) (r : Option (AEnd × Mem)) (ρ : T Value) (ds : List Deferred) (next : Nxt) : OpsR := match r with
  | none => .bad
  | some (.returned v, M') => doT (putS ρ d v) fun ρ => next ρ ds M'
  | some (.panicked ch, M') => .pan ch ρ ds M'
noncomputable def opC (P : Program) (X : Exts) (C : Caller) (d : Option Tmp) (z : Operand) (xs : List Operand) (ρ : T Value) (ds : List Deferred) (M : Mem) (next : Nxt) : OpsR := match calls P (slot ρ) z xs with
  | none => (match extR P X (slot ρ) z xs with
    | none => .bad
    | some v => doV v fun v => doT (putS ρ d v) fun ρ => next ρ ds M)
  | some (g, l) => doL l fun l => afC d (C g l M) ρ ds next
noncomputable def afK (d : Option Tmp) : Cx (Option (AEnd × Mem) → T Value → List Deferred → Nxt → OpsR) := Cx.rec (motive := fun _ => Cx _) (fun p => ⟨fun r ρ ds next => Option.rec (motive := fun _ => T Value → List Deferred → Nxt → OpsR) (fun _ _ _ => .bad) (fun x ρ ds next => Prod.rec (motive := fun _ => T Value → List Deferred → Nxt → OpsR) (fun e M ρ ds next => AEnd.rec (motive := fun _ => Mem → T Value → List Deferred → Nxt → OpsR) (fun v M ρ ds next => p v ρ fun ρ => next ρ ds M) (fun ch M ρ ds _ => .pan ch ρ ds M) e M ρ ds next) x ρ ds next) r ρ ds next⟩) (putC OpsR d)
theorem afK_eq (d : Option Tmp) (r : Option (AEnd × Mem)) (ρ : T Value) (ds : List Deferred) (next : Nxt) : (afK d).f r ρ ds next = afC d r ρ ds next := by
  rcases r with _ | ⟨v | ch, M⟩
  · rfl
  · show (putC OpsR d).f v ρ (fun ρ => next ρ ds M) = _
    rw [putC_eq]; rfl
  · rfl
noncomputable def callC (P : Program) (X : Exts) (d : Option Tmp) (z : Operand) (xs : List Operand) : OpK := match z with
  | .func g => bif fnOk P g then Cx.rec (motive := fun _ => OpK) (fun f => Cx.rec (motive := fun _ => OpK) (fun a => ⟨fun C ρ ds M next => f ρ (opC P X C d (.func g) xs ρ ds M next) fun l => a (C g l M) ρ ds next⟩) (afK d)) (argsC OpsR P.globals.size xs)
    else ⟨fun C ρ ds M next => opC P X C d (.func g) xs ρ ds M next⟩
  | z => ⟨fun C ρ ds M next => opC P X C d z xs ρ ds M next⟩
theorem callC_eq {P : Program} {X : Exts} {C : Caller} {d : Option Tmp} {z : Operand} {xs : List Operand} {ρ : T Value} {ds : List Deferred} {M : Mem} {next : Nxt} : (callC P X d z xs).f C ρ ds M next = opC P X C d z xs ρ ds M next := by
  unfold callC
  split
  · rename_i g
    cases hf : fnOk P g with
    | false => rfl
    | true =>
      show (argsC OpsR P.globals.size xs).f ρ (opC P X C d (.func g) xs ρ ds M next) (fun l => (afK d).f (C g l M) ρ ds next) = _
      rw [argsC_eq]
      simp only [afK_eq]
      cases hl : okvs P.globals.size (slot ρ) xs with
      | none => rfl
      | some l =>
        have : calls P (slot ρ) (.func g) xs = some (g, l) := by
          unfold calls
          simp only [okv, hl, hf, cond_true, List.nil_append, List.append_nil, Array.toList]
        unfold opC
        rw [this]
        simp only [doL_eq]
  · rfl
noncomputable def stU (P : Program) (X : Exts) (op : Op) (d : Option Tmp) : OpK := match op with
  | .call ⟨.value z, ⟨xs⟩, _⟩ => callC P X d z xs
  | .defer ⟨.value z, ⟨xs⟩, _⟩ => ⟨fun C ρ ds M next => match defers P (slot ρ) z xs with
      | none => .bad
      | some df => doT (putS ρ d undef) fun ρ => next ρ (df :: ds) M⟩
  | .panic x => ⟨fun C ρ ds M next => match okv P.globals.size (slot ρ) x with
      | some (.iface u z) => .pan [⟨.iface u z, false, false⟩] ρ ds M
      | _ => .bad⟩
  | op => Cx.rec (motive := fun _ => OpK) (fun f => Cx.rec (motive := fun _ => OpK) (fun p => ⟨fun C ρ ds M next => f ρ M .bad fun v M => p v ρ fun ρ => next ρ ds M⟩) (putC OpsR d)) (stC (R := OpsR) P op)
noncomputable def opT (P : Program) (X : Exts) (C : Caller) (op : Op) (d : Option Tmp) (ρ : T Value) (ds : List Deferred) (M : Mem) (next : Nxt) : OpsR := match op with
    | .call ⟨.value z, ⟨xs⟩, _⟩ => (match calls P (slot ρ) z xs with
      | none => (match extR P X (slot ρ) z xs with
        | none => .bad
        | some v => doV v fun v => doT (putS ρ d v) fun ρ => next ρ ds M)
      | some (g, l) => doL l fun l => (match C g l M with
        | none => .bad
        | some (.returned v, M') => doV v fun v => doT (putS ρ d v) fun ρ => doM M' fun M' => next ρ ds M'
        | some (.panicked ch, M') => .pan ch ρ ds M'))
    | .defer ⟨.value z, ⟨xs⟩, _⟩ => (match defers P (slot ρ) z xs with
      | none => .bad
      | some df => doT (putS ρ d undef) fun ρ => next ρ (df :: ds) M)
    | .panic x => (match okv P.globals.size (slot ρ) x with
      | some (.iface u z) => .pan [⟨.iface u z, false, false⟩] ρ ds M
      | _ => .bad)
    | op => (match eOp P (slot ρ) M op with
      | none => .bad
      | some (v, M') => doV v fun v => doT (putS ρ d v) fun ρ => doM M' fun M' => next ρ ds M')
theorem op1_opT (P : Program) (X : Exts) (C : Caller) (ops : Array Oper) (o : Oper) (ρ : T Value) (ds : List Deferred) (M : Mem) (next : Nxt) : op1 P X C ops o ρ ds M next = match gd ops (slot ρ) o.guard with
  | none => .bad
  | some false => doT (putS ρ o.dst undef) fun ρ => next ρ ds M
  | some true => opT P X C o.op o.dst ρ ds M next := rfl
theorem stU_eq {P : Program} {X : Exts} {C : Caller} {op : Op} {d : Option Tmp} {ρ : T Value} {ds : List Deferred} {M : Mem} {next : Nxt} : (stU P X op d).f C ρ ds M next = opT P X C op d ρ ds M next := by
  unfold stU opT
  split
  · rename_i z xs ts
    rw [callC_eq]
    simp only [opC]
    cases hc : calls P (slot ρ) z xs with
    | none => cases extR P X (slot ρ) z xs <;> rfl
    | some p =>
      obtain ⟨g, l⟩ := p
      simp only [doL_eq, afC]
      cases C g l M with
      | none => rfl
      | some p =>
        obtain ⟨e, M'⟩ := p
        cases e with
        | returned v => simp only [doV_eq, doT_eq, doM_eq]
        | panicked ch => rfl
  · rfl
  · rfl
  · show (stC (R := OpsR) P _).f ρ M .bad (fun v M => (putC OpsR d).f v ρ fun ρ => next ρ ds M) = _
    rw [stC_eq]
    simp only [putC_eq, tell]
    generalize eOp P (slot ρ) M _ = r
    cases r with
    | none => rfl
    | some p => simp only [doV_eq, doT_eq, doM_eq]
noncomputable def gdC (R : Type) (ops : Array Oper) (g : Nat × Bool) : Cx (T Value → R → R → R → R) := match dstOf ops g.1 with
  | none => ⟨fun _ e _ _ => e⟩
  | some t => Cx.rec (motive := fun _ => Cx (T Value → R → R → R → R)) (fun f => Cx.rec (motive := fun _ => Cx (T Value → R → R → R → R)) (fun bo => Cx.rec (motive := fun _ => Cx (T Value → R → R → R → R)) (fun tu => match g.2 with
    | true => ⟨fun ρ e s r => f ρ e fun v => bo v (tu v e fun l => List.rec (motive := fun _ => R) s (fun _ _ _ => e) l) s r⟩
    | false => ⟨fun ρ e s r => f ρ e fun v => bo v (tu v e fun l => List.rec (motive := fun _ => R) s (fun _ _ _ => e) l) r s⟩) (tupC R)) (booC R)) (opdC R 0 (.tmp t))
theorem gdC_eq {R : Type} (ops : Array Oper) (g : Nat × Bool) (ρ : T Value) (e s r : R) : (gdC R ops g).f ρ e s r = match gd ops (slot ρ) (some g) with | none => e | some false => s | some true => r := by
  obtain ⟨j, w⟩ := g
  unfold gdC gd
  simp only
  cases dstOf ops j with
  | none => rfl
  | some t =>
    have hx := fun k => opdC_eq (R := R) 0 (.tmp t) ρ e k
    have he : okv 0 (slot ρ) (.tmp t) = some (slot ρ t) := rfl
    simp only [he] at hx
    simp only
    cases w with
    | true =>
      show (opdC R 0 (.tmp t)).f ρ e (fun v => (booC R).f v ((tupC R).f v e fun l => List.rec (motive := fun _ => R) s (fun _ _ _ => e) l) s r) = _
      refine (hx _).trans ?_
      generalize slot ρ t = v
      rcases v with u | _ | _ | _ | _ | _ | _ | _ | _ | _ | _ | _ | _ | _ | ⟨_ | _⟩ <;> try rfl
      cases u <;> rfl
    | false =>
      show (opdC R 0 (.tmp t)).f ρ e (fun v => (booC R).f v ((tupC R).f v e fun l => List.rec (motive := fun _ => R) s (fun _ _ _ => e) l) r s) = _
      refine (hx _).trans ?_
      generalize slot ρ t = v
      rcases v with u | _ | _ | _ | _ | _ | _ | _ | _ | _ | _ | _ | _ | _ | ⟨_ | _⟩ <;> try rfl
      cases u <;> rfl
noncomputable def stO (P : Program) (X : Exts) (ops : Array Oper) (o : Oper) : OpK := match o.guard with
  | none => stU P X o.op o.dst
  | some g => Cx.rec (motive := fun _ => OpK) (fun h => Cx.rec (motive := fun _ => OpK) (fun p => Cx.rec (motive := fun _ => OpK) (fun f => ⟨fun C ρ ds M next => h ρ .bad (p undef ρ fun ρ => next ρ ds M) (f C ρ ds M next)⟩) (stU P X o.op o.dst)) (putC OpsR o.dst)) (gdC OpsR ops g)
theorem stO_eq (P : Program) (X : Exts) (C : Caller) (ops : Array Oper) (o : Oper) (ρ : T Value) (ds : List Deferred) (M : Mem) (next : Nxt) : (stO P X ops o).f C ρ ds M next = op1 P X C ops o ρ ds M next := by
  rw [op1_opT]
  unfold stO
  cases hg : o.guard with
  | none => simp only [gd]; exact stU_eq
  | some g =>
    show (gdC OpsR ops g).f ρ .bad ((putC OpsR o.dst).f undef ρ fun ρ => next ρ ds M) ((stU P X o.op o.dst).f C ρ ds M next) = _
    rw [gdC_eq, putC_eq, stU_eq]
    cases gd ops (slot ρ) (some g) with
    | none => rfl
    | some b => cases b <;> rfl
abbrev OpsK := Cx (Caller → T Value → List Deferred → Mem → OpsR)
noncomputable def opsS (P : Program) (X : Exts) (ops : Array Oper) (l : List Oper) : OpsK := List.rec (motive := fun _ => OpsK) ⟨fun _ ρ ds M => .norm ρ ds M⟩
  (fun o _ ih => Cx.rec (motive := fun _ => OpsK) (fun f => Cx.rec (motive := fun _ => OpsK) (fun g => ⟨fun C ρ ds M => f C ρ ds M (g C)⟩) ih) (stO P X ops o)) l
theorem opsS_eq (P : Program) (X : Exts) (C : Caller) (ops : Array Oper) : ∀ (l : List Oper), (opsS P X ops l).f C = ops1 P X C ops l
  | [] => rfl
  | o :: l => by
    funext ρ ds M
    show (stO P X ops o).f C ρ ds M ((opsS P X ops l).f C) = op1 P X C ops o ρ ds M (ops1 P X C ops l)
    rw [← opsS_eq P X C ops l, ← stO_eq]
abbrev RdC (R : Type) := Cx (T Value → Mem → R → (Value → R) → R)
noncomputable def stR (R : Type) (P : Program) (ops : Array Oper) (i : Nat) : Option (RdC R × Option Tmp) := match ops[i]? with
  | none => none
  | some o => some (Cx.rec (motive := fun _ => RdC R) (fun f => match o.guard with
    | none => bif quiet P o.op then ⟨fun ρ M e k => f ρ M e fun v _ => k v⟩ else ⟨fun _ _ e _ => e⟩
    | some g => bif quiet P o.op then Cx.rec (motive := fun _ => RdC R) (fun h => ⟨fun ρ M e k => h ρ e (k undef) (f ρ M e fun v _ => k v)⟩) (gdC R ops g)
      else Cx.rec (motive := fun _ => RdC R) (fun h => ⟨fun ρ M e k => h ρ e (k undef) e⟩) (gdC R ops g)) (stC (R := R) P o.op), o.dst)
theorem stR_eq {R : Type} (P : Program) (ops : Array Oper) (i : Nat) : match ops[i]? with
    | none => stR R P ops i = none
    | some o => ∃ f, stR R P ops i = some (f, o.dst) ∧ ∀ ρ M e k, f.f ρ M e k = match hval P ops o (slot ρ) M with | none => e | some v => k v := by
  unfold stR
  cases ops[i]? with
  | none => rfl
  | some o =>
    refine ⟨_, rfl, fun ρ M e k => ?_⟩
    have hf : ∀ k, (stC (R := R) P o.op).f ρ M e k = tell (eOp P (slot ρ) M o.op) e k := fun k => stC_eq
    cases hg : o.guard with
    | none =>
      simp only [hval, hg, gd]
      cases hq : quiet P o.op with
      | true =>
        refine (hf _).trans ?_
        simp only [cond_true]
        cases eOp P (slot ρ) M o.op <;> rfl
      | false => rfl
    | some g =>
      simp only [hval, hg]
      cases hq : quiet P o.op with
      | true =>
        show (gdC R ops g).f ρ e (k undef) ((stC (R := R) P o.op).f ρ M e fun v _ => k v) = _
        rw [gdC_eq, hf]
        simp only [cond_true]
        cases gd ops (slot ρ) (some g) with
        | none => rfl
        | some b =>
          cases b with
          | false => rfl
          | true => simp only; cases eOp P (slot ρ) M o.op <;> rfl
      | false =>
        show (gdC R ops g).f ρ e (k undef) e = _
        rw [gdC_eq]
        cases gd ops (slot ρ) (some g) with
        | none => rfl
        | some b => cases b <;> rfl
abbrev HdC (R : Type) := Cx (T Value → Mem → R → (T Value → R) → R)
noncomputable def headsC1 (R : Type) (P : Program) (ops : Array Oper) (i : Nat) (ih : HdC R) : HdC R := match stR R P ops i with
    | none => ⟨fun _ _ e _ => e⟩
    | some (f, d) => Cx.rec (motive := fun _ => HdC R) (fun f => Cx.rec (motive := fun _ => HdC R) (fun p => Cx.rec (motive := fun _ => HdC R) (fun g => ⟨fun ρ M e k => f ρ M e fun v => p v ρ fun ρ => g ρ M e k⟩) ih) (putC R d)) f
noncomputable def headsS (R : Type) (P : Program) (ops : Array Oper) (hs : List Nat) : HdC R := List.rec (motive := fun _ => HdC R) ⟨fun ρ _ _ k => k ρ⟩
  (fun i _ ih => headsC1 R P ops i ih) hs
theorem headsS_eq {R : Type} (P : Program) (ops : Array Oper) (M : Mem) (e : R) (k : T Value → R) : ∀ (hs : List Nat) (ρ : T Value), (headsS R P ops hs).f ρ M e k = match heads P ops M hs ρ with | none => e | some ρ => k ρ
  | [], ρ => rfl
  | i :: hs, ρ => by
    show (headsC1 R P ops i (headsS R P ops hs)).f ρ M e k = match (match ops[i]? with
      | none => none
      | some o => (match hval P ops o (slot ρ) M with
        | none => none
        | some v => doV v fun v => doT (putS ρ o.dst v) fun ρ => heads P ops M hs ρ)) with | none => e | some ρ => k ρ
    unfold headsC1
    have h := stR_eq (R := R) P ops i
    cases ho : ops[i]? with
    | none => rw [ho] at h; rw [show stR R P ops i = none from h]
    | some o =>
      rw [ho] at h
      obtain ⟨f, h1, h2⟩ := h
      rw [h1]
      show f.f ρ M e (fun v => (putC R o.dst).f v ρ fun ρ => (headsS R P ops hs).f ρ M e k) = _
      rw [h2]
      simp only
      cases hval P ops o (slot ρ) M with
      | none => rfl
      | some v =>
        simp only [putC_eq, doV_eq, doT_eq]
        exact headsS_eq P ops M e k hs _
abbrev AgC := Cx (T Value → Mem → Bool)
noncomputable def againC1 (P : Program) (ops : Array Oper) (i : Nat) (ih : AgC) : AgC := match stR Bool P ops i with
    | none => ⟨fun _ _ => false⟩
    | some (f, d) => (match d with
      | none => ⟨fun _ _ => false⟩
      | some d => Cx.rec (motive := fun _ => AgC) (fun f => Cx.rec (motive := fun _ => AgC) (fun h => Cx.rec (motive := fun _ => AgC) (fun g => ⟨fun ρ M => f ρ M false fun v => h ρ false fun w => Bool.rec (motive := fun _ => Bool) false (g ρ M) (vQ v w)⟩) ih) (opdC Bool 0 (.tmp d))) f)
noncomputable def againS (P : Program) (ops : Array Oper) (q : List Nat) : AgC := List.rec (motive := fun _ => AgC) ⟨fun _ _ => true⟩
  (fun i _ ih => againC1 P ops i ih) q
theorem againS_eq (P : Program) (ops : Array Oper) (ρ : T Value) (M : Mem) : ∀ (q : List Nat), (againS P ops q).f ρ M = again P ops (slot ρ) M q
  | [] => rfl
  | i :: q => by
    show (againC1 P ops i (againS P ops q)).f ρ M = (match ops[i]? with
      | none => false
      | some o => (match o.dst with
        | none => false
        | some d => (match hval P ops o (slot ρ) M with
          | none => false
          | some v => vEq 8 v (slot ρ d) && again P ops (slot ρ) M q)))
    unfold againC1
    have h := stR_eq (R := Bool) P ops i
    cases ho : ops[i]? with
    | none => rw [ho] at h; rw [show stR Bool P ops i = none from h]
    | some o =>
      rw [ho] at h
      obtain ⟨f, h1, h2⟩ := h
      rw [h1]
      simp only
      cases hd : o.dst with
      | none => rfl
      | some d =>
        simp only
        show f.f ρ M false (fun v => (opdC Bool 0 (.tmp d)).f ρ false fun w => Bool.rec (motive := fun _ => Bool) false ((againS P ops q).f ρ M) (vQ v w)) = _
        rw [h2]
        cases hval P ops o (slot ρ) M with
        | none => rfl
        | some v =>
          simp only
          rw [opdC_eq]
          show Bool.rec (motive := fun _ => Bool) false ((againS P ops q).f ρ M) (vQ v (slot ρ d)) = _
          rw [againS_eq P ops ρ M q, vQ_eq]
          cases vEq 8 v (slot ρ d) <;> rfl
noncomputable def stT (P : Program) (X : Exts) (ops : Array Oper) (i : Nat) : Option OpK := match ops[i]? with
  | none => none
  | some o => (match o.op with
    | .defer _ => none
    | _ => some (stO P X ops o))
noncomputable def afH (P : Program) (ops : Array Oper) (nh q : List Nat) (ih : OpsK) : OpsK := Cx.rec (motive := fun _ => OpsK) (fun h => Cx.rec (motive := fun _ => OpsK) (fun a => Cx.rec (motive := fun _ => OpsK) (fun g => ⟨fun C ρ ds M => h ρ M .bad fun ρ => Bool.rec (motive := fun _ => OpsR) .bad (g C ρ ds M) (a ρ M)⟩) ih) (againS P ops q)) (headsS OpsR P ops nh)
theorem afH_eq (P : Program) (ops : Array Oper) (nh q : List Nat) (ih : OpsK) (C : Caller) (ρ : T Value) (ds : List Deferred) (M : Mem) : (afH P ops nh q ih).f C ρ ds M = match heads P ops M nh ρ with
  | none => .bad
  | some ρ => bif again P ops (slot ρ) M q then ih.f C ρ ds M else .bad := by
  show (headsS OpsR P ops nh).f ρ M .bad (fun ρ => Bool.rec (motive := fun _ => OpsR) .bad (ih.f C ρ ds M) ((againS P ops q).f ρ M)) = _
  rw [headsS_eq]
  cases heads P ops M nh ρ with
  | none => rfl
  | some ρ =>
    simp only [againS_eq]
    cases again P ops (slot ρ) M q <;> rfl
noncomputable def tailC1 (P : Program) (X : Exts) (ops : Array Oper) (tq : Nat × List Nat × List Nat) (ih : OpsK) : OpsK := match stT P X ops tq.1 with
    | none => ⟨fun _ _ _ _ => .bad⟩
    | some f => Cx.rec (motive := fun _ => OpsK) (fun f => Cx.rec (motive := fun _ => OpsK) (fun g => ⟨fun C ρ ds M => f C ρ ds M (g C)⟩) (afH P ops tq.2.2 (tq.2.1 ++ tq.2.2) ih)) f
noncomputable def tailS (P : Program) (X : Exts) (ops : Array Oper) (tl : Tl) : OpsK := List.rec (motive := fun _ => OpsK) ⟨fun _ ρ ds M => .norm ρ ds M⟩
  (fun tq _ ih => tailC1 P X ops tq ih) tl
theorem tailS_eq (P : Program) (X : Exts) (C : Caller) (ops : Array Oper) : ∀ (tl : Tl), (tailS P X ops tl).f C = tailR P X C ops tl
  | [] => rfl
  | (t, q, nh) :: tl => by
    funext ρ ds M
    show (tailC1 P X ops (t, q, nh) (tailS P X ops tl)).f C ρ ds M = (match ops[t]? with
      | none => .bad
      | some o => (match o.op with
        | .defer _ => .bad
        | _ => op1 P X C ops o ρ ds M fun ρ ds M => (match heads P ops M nh ρ with
          | none => .bad
          | some ρ => bif again P ops (slot ρ) M (q ++ nh) then tailR P X C ops tl ρ ds M else .bad)))
    have e : (afH P ops nh (q ++ nh) (tailS P X ops tl)).f C = fun ρ ds M => (match heads P ops M nh ρ with
          | none => .bad
          | some ρ => bif again P ops (slot ρ) M (q ++ nh) then tailR P X C ops tl ρ ds M else .bad) := by
      funext ρ ds M
      rw [afH_eq, tailS_eq P X C ops tl]
    rw [← e]
    unfold tailC1 stT
    simp only
    cases ops[t]? with
    | none => rfl
    | some o =>
      simp only
      generalize ho : o.op = op
      cases op <;> first | rfl | exact stO_eq ..
noncomputable def drawS (P : Program) (X : Exts) (ops : Array Oper) (hs : List Nat) (tl : Tl) : OpsK := afH P ops hs hs (tailS P X ops tl)
theorem drawS_eq (P : Program) (X : Exts) (C : Caller) (ops : Array Oper) (hs : List Nat) (tl : Tl) (ρ : T Value) (ds : List Deferred) (M : Mem) : (drawS P X ops hs tl).f C ρ ds M = drawR P X C ops hs tl ρ ds M := by
  unfold drawS drawR
  rw [afH_eq, tailS_eq] <;> (cases heads P ops M hs ρ <;> rfl)
inductive Pt where
  | reg (f : OpsK) (k : List Item)
  | dr (f : OpsK) (ops : Array Oper) (k : List Item)
  | cnd (f : Cx (T Value → SR → (Value → SR) → SR)) (a b : List Item)
  | fin
  | bad
noncomputable def silT (n : Nat) : List Item → List Item := Nat.rec (motive := fun _ => List Item → List Item) (fun l => l) (fun _ ih l => match l with
  | .code c :: k => (match c with
    | .skip => ih k
    | .seq x y => ih (.code x :: .code y :: k)
    | .label _ => ih k
    | .block id c => ih (.code c :: .inBlock id :: k)
    | .loop c => ih (.code c :: .inLoop c :: k)
    | .scope c => ih (.code c :: .inScope c :: k)
    | .exit id => (match exitTo id k with
      | some k => ih k
      | none => l)
    | .goto b => (match gotoIn b k with
      | some k => ih k
      | none => l)
    | _ => l)
  | .inBlock _ :: k => ih k
  | .inLoop c :: k => ih (.code c :: .inLoop c :: k)
  | .inScope _ :: k => ih k
  | l => l) n
theorem silT_spec {P : Program} {N : Nat} {R : ADone → Env → List Deferred → AW → Prop} {ρ : Env} {ds : List Deferred} {aw : AW} : ∀ (n : Nat) (l : List Item), AGo P N (silT n l) ρ ds aw R → AGo P N l ρ ds aw R
  | 0, l, h => h
  | n + 1, l, h0 => by
    have ih := fun l => silT_spec (P := P) (N := N) (R := R) (ρ := ρ) (ds := ds) (aw := aw) n l
    have h : AGo P N (match (generalizing := false) l with
      | .code c :: k => (match (generalizing := false) c with
        | .skip => silT n k
        | .seq x y => silT n (.code x :: .code y :: k)
        | .label _ => silT n k
        | .block id c => silT n (.code c :: .inBlock id :: k)
        | .loop c => silT n (.code c :: .inLoop c :: k)
        | .scope c => silT n (.code c :: .inScope c :: k)
        | .exit id => (match exitTo id k with
          | some k => silT n k
          | none => l)
        | .goto b => (match gotoIn b k with
          | some k => silT n k
          | none => l)
        | _ => l)
      | .inBlock _ :: k => silT n k
      | .inLoop c :: k => silT n (.code c :: .inLoop c :: k)
      | .inScope _ :: k => silT n k
      | l => l) ρ ds aw R := h0
    clear h0
    split at h
    · split at h
      · exact ago_skip (ih _ h)
      · exact ago_seq (ih _ h)
      · exact ago_label (ih _ h)
      · exact ago_block (ih _ h)
      · exact ago_loop (ih _ h)
      · exact ago_scope (ih _ h)
      · split at h
        · rename_i hk; exact ago_exit hk (ih _ h)
        · exact h
      · split at h
        · rename_i hk; exact ago_goto hk (ih _ h)
        · exact h
      · exact h
    · exact ago_inBlock (ih _ h)
    · exact ago_inLoop (ih _ h)
    · exact ago_inScope (ih _ h)
    · exact h
noncomputable def okC (tab : Tab) (N : Nat) : Code → Bool
  | .region id ops draw => dstsOk N ops && (match draw with
    | false => true
    | true => (match tab id with
      | none => true
      | some (hs, tl) => linOk ops hs tl))
  | .seq x y => okC tab N x && okC tab N y
  | .cond _ x y => okC tab N x && okC tab N y
  | .block _ c => okC tab N c
  | .loop c => okC tab N c
  | .scope c => okC tab N c
  | _ => true
noncomputable def okI (tab : Tab) (N : Nat) : Item → Bool
  | .code c => okC tab N c
  | .inLoop c => okC tab N c
  | .inScope c => okC tab N c
  | _ => true
def okL (tab : Tab) (N : Nat) (l : List Item) : Prop := ∀ x ∈ l, okI tab N x = true
section
variable {tab : Tab} {N : Nat}
theorem okL.tail {x : Item} {l : List Item} (h : okL tab N (x :: l)) : okL tab N l := fun y hy => h y (List.mem_cons_of_mem _ hy)
theorem okL.head {x : Item} {l : List Item} (h : okL tab N (x :: l)) : okI tab N x = true := h x (List.mem_cons_self ..)
theorem okL.cons {x : Item} {l : List Item} (h1 : okI tab N x = true) (h : okL tab N l) : okL tab N (x :: l) := fun y hy => by
  rcases List.mem_cons.1 hy with rfl | hy
  · exact h1
  · exact h y hy
theorem findLabel_ok {l : Nat} : ∀ {c r : Code}, okC tab N c = true → findLabel c l = some r → okC tab N r = true
  | .seq a b, r, h, hf => by
    simp only [okC, Bool.and_eq_true] at h
    simp only [findLabel] at hf
    split at hf
    · rename_i rest hr
      simp only [Option.some.injEq] at hf; subst hf
      simp only [okC, Bool.and_eq_true]
      exact ⟨findLabel_ok h.1 hr, h.2⟩
    · exact findLabel_ok h.2 hf
  | .label l', r, h, hf => by
    simp only [findLabel] at hf
    split at hf
    · simp only [Option.some.injEq] at hf; subst hf; rfl
    · cases hf
  | .skip, r, h, hf => by simp [findLabel] at hf
  | .region .., r, h, hf => by simp [findLabel] at hf
  | .cond .., r, h, hf => by simp [findLabel] at hf
  | .block .., r, h, hf => by simp [findLabel] at hf
  | .loop .., r, h, hf => by simp [findLabel] at hf
  | .rangeFunc .., r, h, hf => by simp [findLabel] at hf
  | .exit .., r, h, hf => by simp [findLabel] at hf
  | .scope .., r, h, hf => by simp [findLabel] at hf
  | .goto .., r, h, hf => by simp [findLabel] at hf
  | .ret, r, h, hf => by simp [findLabel] at hf
  | .refuse .., r, h, hf => by simp [findLabel] at hf
theorem exitTo_ok {id : Nat} : ∀ {l k : List Item}, okL tab N l → exitTo id l = some k → okL tab N k
  | [], k, h, he => by simp [exitTo] at he
  | x :: l, k, h, he => by
    unfold exitTo at he
    split at he
    · rename_i id' k' hx
      injection hx with hx1 hx2
      subst hx2
      split at he
      · simp only [Option.some.injEq] at he; subst he; exact h.tail
      · exact exitTo_ok h.tail he
    · rename_i k' hx y hy
      injection hy with hy1 hy2
      subst hy2
      exact exitTo_ok h.tail he
    · rename_i hx; cases hx
theorem gotoIn_ok {b : Nat} : ∀ {l k : List Item}, okL tab N l → gotoIn b l = some k → okL tab N k
  | [], k, h, he => by simp [gotoIn] at he
  | x :: l, k, h, he => by
    unfold gotoIn at he
    split at he
    · rename_i body k' hx
      injection hx with hx1 hx2
      subst hx1; subst hx2
      split at he
      · rename_i rest hr
        simp only [Option.some.injEq] at he; subst he
        exact .cons (findLabel_ok (show okC tab N body = true from h.head) hr) h
      · exact gotoIn_ok h.tail he
    · rename_i k' hx y hy
      injection hy with hy1 hy2
      subst hy2
      exact gotoIn_ok h.tail he
    · rename_i hx; cases hx
theorem silT_ok : ∀ (n : Nat) {l : List Item}, okL tab N l → okL tab N (silT n l)
  | 0, l, h => h
  | n + 1, l, h => by
    have ih := fun {l} (h : okL tab N l) => silT_ok n h
    show okL tab N (match (generalizing := false) l with
      | .code c :: k => (match (generalizing := false) c with
        | .skip => silT n k
        | .seq x y => silT n (.code x :: .code y :: k)
        | .label _ => silT n k
        | .block id c => silT n (.code c :: .inBlock id :: k)
        | .loop c => silT n (.code c :: .inLoop c :: k)
        | .scope c => silT n (.code c :: .inScope c :: k)
        | .exit id => (match exitTo id k with
          | some k => silT n k
          | none => l)
        | .goto b => (match gotoIn b k with
          | some k => silT n k
          | none => l)
        | _ => l)
      | .inBlock _ :: k => silT n k
      | .inLoop c :: k => silT n (.code c :: .inLoop c :: k)
      | .inScope _ :: k => silT n k
      | l => l)
    split
    · split
      · exact ih h.tail
      · have := h.head; simp only [okI, okC, Bool.and_eq_true] at this; exact ih (.cons this.1 (.cons this.2 h.tail))
      · exact ih h.tail
      · have := h.head; exact ih (.cons this (.cons rfl h.tail))
      · have := h.head; exact ih (.cons this (.cons this h.tail))
      · have := h.head; exact ih (.cons this (.cons this h.tail))
      · split
        · rename_i hk; exact ih (exitTo_ok h.tail hk)
        · exact h
      · split
        · rename_i hk; exact ih (gotoIn_ok h.tail hk)
        · exact h
      · exact h
    · exact ih h.tail
    · have := h.head; exact ih (.cons this h)
    · exact ih h.tail
    · exact h
end
noncomputable def pt (P : Program) (X : Exts) (tab : Tab) (l : List Item) : Pt := match silT 60 l with
  | [] => .fin
  | .code c :: k => (match c with
    | .cond x a b => .cnd (opdC SR P.globals.size x) (.code a :: k) (.code b :: k)
    | .ret => .fin
    | .region id ops draw => (match draw with
        | false => .reg (opsS P X ops ops.toList) k
        | true => (match tab id with
          | none => .bad
          | some (hs, tl) => .dr (drawS P X ops hs tl) ops k))
    | _ => .bad)
  | _ => .bad
noncomputable def drK (rs : List Tmp) (ops : Array Oper) (k : List Item) (x : OpsR) : SR := match x with
  | .norm ρ ds M => .go k ρ ds M
  | .pan ch ρ ds M => bif offB rs ops then .fin (.panic ch) ρ ds M else .bad
  | .bad => .bad
noncomputable def cnK (a b : List Item) (ρ : T Value) (ds : List Deferred) (M : Mem) (v : Value) : SR := (booC SR).f v .bad (.go b ρ ds M) (.go a ρ ds M)
noncomputable def step2o (P : Program) (X : Exts) (C : Caller) (tab : Tab) (rs : List Tmp) (todo : List Item) (ρ : T Value) (ds : List Deferred) (M : Mem) : SR := match pt P X tab todo with
  | .reg ⟨f⟩ k => (f C ρ ds M).sr k
  | .dr ⟨f⟩ ops k => drK rs ops k (f C ρ ds M)
  | .cnd ⟨f⟩ a b => f ρ .bad (cnK a b ρ ds M)
  | .fin => .fin .ret ρ ds M
  | .bad => .bad
abbrev StK := Cx (Caller → T Value → List Deferred → Mem → SR)
noncomputable def stepC (P : Program) (X : Exts) (tab : Tab) (rs : List Tmp) (todo : List Item) : StK := match silT 60 todo with
  | [] => ⟨fun _ ρ ds M => .fin .ret ρ ds M⟩
  | .code c :: k => (match c with
    | .cond x a b => Cx.rec (motive := fun _ => StK) (fun f => Cx.rec (motive := fun _ => StK) (fun bo => ⟨fun _ ρ ds M => f ρ .bad fun v => bo v .bad (.go (.code b :: k) ρ ds M) (.go (.code a :: k) ρ ds M)⟩) (booC SR)) (opdC SR P.globals.size x)
    | .ret => ⟨fun _ ρ ds M => .fin .ret ρ ds M⟩
    | .region id ops draw => (match draw with
        | false => Cx.rec (motive := fun _ => StK) (fun f => ⟨fun C ρ ds M => OpsR.rec (motive := fun _ => SR) (fun ρ ds M => .go k ρ ds M) (fun ch ρ ds M => .fin (.panic ch) ρ ds M) .bad (f C ρ ds M)⟩) (opsS P X ops ops.toList)
        | true => (match tab id with
          | none => ⟨fun _ _ _ _ => .bad⟩
          | some (hs, tl) => Cx.rec (motive := fun _ => StK) (fun f => bif offB rs ops then ⟨fun C ρ ds M => OpsR.rec (motive := fun _ => SR) (fun ρ ds M => .go k ρ ds M) (fun ch ρ ds M => .fin (.panic ch) ρ ds M) .bad (f C ρ ds M)⟩
            else ⟨fun C ρ ds M => OpsR.rec (motive := fun _ => SR) (fun ρ ds M => .go k ρ ds M) (fun ch ρ ds M => .bad) .bad (f C ρ ds M)⟩) (drawS P X ops hs tl)))
    | _ => ⟨fun _ _ _ _ => .bad⟩)
  | _ => ⟨fun _ _ _ _ => .bad⟩
theorem stepC_eq (P : Program) (X : Exts) (C : Caller) (tab : Tab) (rs : List Tmp) (todo : List Item) (ρ : T Value) (ds : List Deferred) (M : Mem) : (stepC P X tab rs todo).f C ρ ds M = step2o P X C tab rs todo ρ ds M := by
  unfold stepC step2o pt
  generalize silT 60 todo = l
  match l with
  | [] => rfl
  | .code c :: k =>
    match c with
    | .cond x a b => rfl
    | .ret => rfl
    | .region id ops draw =>
      cases draw with
      | false =>
        show OpsR.rec (motive := fun _ => SR) (fun ρ ds M => .go k ρ ds M) (fun ch ρ ds M => .fin (.panic ch) ρ ds M) .bad ((opsS P X ops ops.toList).f C ρ ds M) = ((opsS P X ops ops.toList).f C ρ ds M).sr k
        cases (opsS P X ops ops.toList).f C ρ ds M <;> rfl
      | true =>
        simp only
        cases tab id with
        | none => rfl
        | some p =>
          obtain ⟨hs, tl⟩ := p
          simp only
          cases ho : offB rs ops with
          | true =>
            show OpsR.rec (motive := fun _ => SR) (fun ρ ds M => .go k ρ ds M) (fun ch ρ ds M => .fin (.panic ch) ρ ds M) .bad ((drawS P X ops hs tl).f C ρ ds M) = drK rs ops k ((drawS P X ops hs tl).f C ρ ds M)
            cases (drawS P X ops hs tl).f C ρ ds M <;> simp only [drK, ho, cond_true]
          | false =>
            show OpsR.rec (motive := fun _ => SR) (fun ρ ds M => .go k ρ ds M) (fun ch ρ ds M => .bad) .bad ((drawS P X ops hs tl).f C ρ ds M) = drK rs ops k ((drawS P X ops hs tl).f C ρ ds M)
            cases (drawS P X ops hs tl).f C ρ ds M <;> simp only [drK, ho, cond_false]
    | .skip => rfl
    | .seq .. => rfl
    | .label .. => rfl
    | .block .. => rfl
    | .loop .. => rfl
    | .scope .. => rfl
    | .exit .. => rfl
    | .goto .. => rfl
    | .rangeFunc .. => rfl
    | .refuse .. => rfl
  | .inBlock .. :: k => rfl
  | .inLoop .. :: k => rfl
  | .inScope .. :: k => rfl
  | .inRegion .. :: k => rfl
  | .inRangeFunc .. :: k => rfl
  | .endRangeFunc .. :: k => rfl
  | .beginRound :: k => rfl
  | .call .. :: k => rfl
  | .extern .. :: k => rfl
noncomputable def step2 (P : Program) (X : Exts) (C : Caller) (tab : Tab) (rs : List Tmp) (todo : List Item) (ρ : T Value) (ds : List Deferred) (M : Mem) : SR := Cx.rec (motive := fun _ => SR) (fun f => f C ρ ds M) (stepC P X tab rs todo)
theorem step2_eq (P : Program) (X : Exts) (C : Caller) (tab : Tab) (rs : List Tmp) (todo : List Item) (ρ : T Value) (ds : List Deferred) (M : Mem) : step2 P X C tab rs todo ρ ds M = step2o P X C tab rs todo ρ ds M := stepC_eq ..
def SR.okS (tab : Tab) (N : Nat) : SR → Prop
  | .go todo _ _ _ => okL tab N todo
  | _ => True
theorem sr_ok {tab : Tab} {N : Nat} {k : List Item} (h : okL tab N k) (x : OpsR) : (x.sr k).okS tab N := by cases x <;> first | exact h | exact True.intro
theorem drK_ok {tab : Tab} {N : Nat} {rs : List Tmp} {ops : Array Oper} {k : List Item} (h : okL tab N k) (x : OpsR) : (drK rs ops k x).okS tab N := by
  cases x with
  | norm ρ ds M => exact h
  | pan ch ρ ds M => unfold drK; cases offB rs ops <;> exact True.intro
  | bad => exact True.intro
theorem cnK_ok {tab : Tab} {N : Nat} {a b : List Item} (ha : okL tab N a) (hb : okL tab N b) (ρ : T Value) (ds : List Deferred) (M : Mem) (v : Value) : (cnK a b ρ ds M v).okS tab N := by
  cases v <;> try exact True.intro
  rename_i u
  cases u
  · exact hb
  · exact ha
theorem cnK_inv {a b : List Item} {ρ : T Value} {ds : List Deferred} {M : Mem} {v : Value} {P : Program} {N : Nat} {rs : List Tmp} {R : ADone → Env → List Deferred → AW → Prop} (h : (cnK a b ρ ds M v).holds P N rs R) : (v = .bool true ∧ (SR.go a ρ ds M).holds P N rs R) ∨ (v = .bool false ∧ (SR.go b ρ ds M).holds P N rs R) := by
  cases v <;> try exact h.elim
  rename_i u
  cases u
  · exact .inr ⟨rfl, h⟩
  · exact .inl ⟨rfl, h⟩
theorem step2_spec {P : Program} {X : Exts} {C : Caller} {N : Nat} {tab : Tab} {rs : List Tmp} {R : ADone → Env → List Deferred → AW → Prop} (hX : ExtOk P X) (hC : CS P C) (hm : P.follows .mixedOrders = true) {todo : List Item} (hok : okL tab N todo) {ρ : T Value} {ds : List Deferred} {M : Mem} :
    ((step2 P X C tab rs todo ρ ds M).holds P N rs R → AGo P N todo (slot ρ) ds M.abs R) ∧ (step2 P X C tab rs todo ρ ds M).okS tab N := by
  have hs : AGo P N (silT 60 todo) (slot ρ) ds M.abs R → AGo P N todo (slot ρ) ds M.abs R := silT_spec 60 todo
  have hok := silT_ok 60 hok
  rw [step2_eq]
  unfold step2o pt
  generalize silT 60 todo = l at hs hok
  match l, hs, hok with
  | [], hs, hok => exact ⟨fun h => hs (ago_nil (h _ fun _ _ => rfl)), True.intro⟩
  | .code c :: k, hs, hok =>
    match c, hs, hok with
    | .cond x a b, hs, hok =>
      show ((((opdC SR P.globals.size x).f ρ .bad (cnK (.code a :: k) (.code b :: k) ρ ds M)).holds P N rs R → AGo P N todo (slot ρ) ds M.abs R) ∧ ((opdC SR P.globals.size x).f ρ .bad (cnK (.code a :: k) (.code b :: k) ρ ds M)).okS tab N)
      rw [opdC_eq]
      cases hc : okv P.globals.size (slot ρ) x with
      | none => exact ⟨fun h => h.elim, True.intro⟩
      | some v =>
        simp only
        obtain ⟨c1, c2⟩ := okv_spec hc
        refine ⟨fun h => hs ?_, ?_⟩
        · rcases cnK_inv h with ⟨rfl, h⟩ | ⟨rfl, h⟩
          · exact ago_cond c1 c2 (fun _ => h) (fun h => by cases h)
          · exact ago_cond c1 c2 (fun h => by cases h) (fun _ => h)
        · have := hok.head
          simp only [okI, okC, Bool.and_eq_true] at this
          exact cnK_ok (okL.cons (x := .code a) this.1 hok.tail) (okL.cons (x := .code b) this.2 hok.tail) _ _ _ _
    | .ret, hs, hok => exact ⟨fun h => hs (ago_ret (h _ fun _ _ => rfl)), True.intro⟩
    | .region id ops draw, hs, hok =>
      have hreg := hok.head
      simp only [okI, okC, Bool.and_eq_true] at hreg
      obtain ⟨hN, hlin⟩ := hreg
      cases draw with
      | false =>
        refine ⟨fun h => hs (step1_spec (tab := tab) (rs := rs) hX hC hm ?_), sr_ok hok.tail _⟩
        show SR.holds P N rs R (bif dstsOk N ops then (ops1 P X C ops ops.toList ρ ds M).sr k else .bad)
        simp only [hN, cond_true]
        simp only [opsS_eq] at h
        exact h
      | true =>
        simp only at hlin ⊢
        cases ht : tab id with
        | none => exact ⟨fun h => h.elim, True.intro⟩
        | some p =>
          obtain ⟨hs', tl⟩ := p
          rw [ht] at hlin
          simp only at hlin ⊢
          refine ⟨fun h => hs (step1_spec (tab := tab) (rs := rs) hX hC hm ?_), drK_ok hok.tail _⟩
          show SR.holds P N rs R (bif dstsOk N ops then (match (generalizing := false) tab id with
              | none => .bad
              | some (hs, tl) => bif linOk ops hs tl then (match drawR P X C ops hs tl ρ ds M with
                  | .norm ρ ds M => .go k ρ ds M
                  | .pan ch ρ ds M => bif offB rs ops then .fin (.panic ch) ρ ds M else .bad
                  | .bad => .bad) else .bad) else .bad)
          simp only [hN, cond_true, ht, hlin]
          simp only [drawS_eq] at h
          exact h
    | .skip, hs, hok => exact ⟨fun h => h.elim, True.intro⟩
    | .seq .., hs, hok => exact ⟨fun h => h.elim, True.intro⟩
    | .label .., hs, hok => exact ⟨fun h => h.elim, True.intro⟩
    | .block .., hs, hok => exact ⟨fun h => h.elim, True.intro⟩
    | .loop .., hs, hok => exact ⟨fun h => h.elim, True.intro⟩
    | .scope .., hs, hok => exact ⟨fun h => h.elim, True.intro⟩
    | .exit .., hs, hok => exact ⟨fun h => h.elim, True.intro⟩
    | .goto .., hs, hok => exact ⟨fun h => h.elim, True.intro⟩
    | .rangeFunc .., hs, hok => exact ⟨fun h => h.elim, True.intro⟩
    | .refuse .., hs, hok => exact ⟨fun h => h.elim, True.intro⟩
  | .inBlock .. :: k, hs, hok => exact ⟨fun h => h.elim, True.intro⟩
  | .inLoop .. :: k, hs, hok => exact ⟨fun h => h.elim, True.intro⟩
  | .inScope .. :: k, hs, hok => exact ⟨fun h => h.elim, True.intro⟩
  | .inRegion .. :: k, hs, hok => exact ⟨fun h => h.elim, True.intro⟩
  | .inRangeFunc .. :: k, hs, hok => exact ⟨fun h => h.elim, True.intro⟩
  | .endRangeFunc .. :: k, hs, hok => exact ⟨fun h => h.elim, True.intro⟩
  | .beginRound :: k, hs, hok => exact ⟨fun h => h.elim, True.intro⟩
  | .call .. :: k, hs, hok => exact ⟨fun h => h.elim, True.intro⟩
  | .extern .. :: k, hs, hok => exact ⟨fun h => h.elim, True.intro⟩
theorem iterS_spec {P : Program} {N : Nat} {tab : Tab} {rs : List Tmp} {R : ADone → Env → List Deferred → AW → Prop} {f : List Item → T Value → List Deferred → Mem → SR} (hf : ∀ todo ρ ds M, okL tab N todo → ((f todo ρ ds M).holds P N rs R → AGo P N todo (slot ρ) ds M.abs R) ∧ (f todo ρ ds M).okS tab N) :
    ∀ (n : Nat) (todo : List Item) (ρ : T Value) (ds : List Deferred) (M : Mem), okL tab N todo → ((iter f n todo ρ ds M).holds P N rs R → AGo P N todo (slot ρ) ds M.abs R) ∧ (iter f n todo ρ ds M).okS tab N
  | 0, todo, ρ, ds, M, hok => hf _ _ _ _ hok
  | n + 1, todo, ρ, ds, M, hok => by
    obtain ⟨h1, h2⟩ := iterS_spec hf n todo ρ ds M hok
    show ((SR.rec (motive := fun _ => SR) (fun a b c d => iter f n a b c d) (fun d ρ ds M => .fin d ρ ds M) .bad (iter f n todo ρ ds M) : SR).holds P N rs R → _) ∧ (SR.rec (motive := fun _ => SR) (fun a b c d => iter f n a b c d) (fun d ρ ds M => .fin d ρ ds M) .bad (iter f n todo ρ ds M) : SR).okS tab N
    cases hx : iter f n todo ρ ds M with
    | go a b c d =>
      rw [hx] at h1 h2
      obtain ⟨k1, k2⟩ := iterS_spec hf n a b c d h2
      exact ⟨fun h => h1 (k1 h), k2⟩
    | fin d ρ' ds' M' => rw [hx] at h1 h2; exact ⟨h1, h2⟩
    | bad => rw [hx] at h1 h2; exact ⟨h1, h2⟩
noncomputable def okP (tab : Nat → Tab) (fs : List Func) : Nat → Bool := List.rec (motive := fun _ => Nat → Bool) (fun _ => true)
  (fun fn _ ih i => (match fn.body with
    | none => true
    | some c => okC (tab i) fn.ntmps c) && ih (Nat.succ i)) fs
theorem okP_spec {tab : Nat → Tab} : ∀ {fs : List Func} {i : Nat}, okP tab fs i = true → ∀ {j : Nat} {fn : Func} {c : Code}, fs[j]? = some fn → fn.body = some c → okC (tab (i + j)) fn.ntmps c = true
  | [], i, h, j, fn, c, hj, hb => by simp at hj
  | g :: fs, i, h, j, fn, c, hj, hb => by
    have h : ((match g.body with
      | none => true
      | some c => okC (tab i) g.ntmps c) && okP tab fs (i + 1)) = true := h
    simp only [Bool.and_eq_true] at h
    cases j with
    | zero =>
      simp only [List.getElem?_cons_zero, Option.some.injEq] at hj
      subst hj
      have h1 := h.1
      rw [hb] at h1
      exact h1
    | succ j =>
      rw [show i + (j + 1) = i + 1 + j by omega]
      exact okP_spec h.2 (by simpa using hj) hb
end Go.Ri
set_option linter.unusedSimpArgs false
set_option linter.unusedVariables false
set_option linter.unusedSectionVars false
namespace Go.Ri
open Go Go.Am Go.RowKit
variable [SymE] [FT] [FTok]
noncomputable def endS (P : Program) (fn : Func) (D : CallerD) (x : SR) : Option (AEnd × Mem) := match x with
  | .fin d ρ ds M => leave P fn D ρ ds d M
  | _ => none
end Go.Ri
set_option linter.unusedSimpArgs false
set_option linter.unusedVariables false
set_option linter.unusedSectionVars false
namespace Go.Ri
open Go Go.Am Go.RowKit
variable [SymE] [FT] [FTok]
def Seg (P : Program) (N : Nat) (t t' : List Item) (ρ ρ' : Env) (aw aw' : AW) : Prop :=
  ∀ (base : Nat → Prop) (s : Inj) (a : Act) (w : World) (b : Frame) (cs : List Frame), Rel P.globals.size base w s aw w → (∀ t, VR s (ρ t) (a.tmps.getD t undef)) → a.tmps.size = N →
    ∃ s' a' w', s.le s' ∧ Steps P (lone (b.atR a t) cs w) (lone (b.atR a' t') cs w') ∧ Rel P.globals.size base w s' aw' w' ∧ (∀ t, VR s' (ρ' t) (a'.tmps.getD t undef)) ∧ a'.tmps.size = N ∧ a'.defers = a.defers
section
variable {P : Program} {N : Nat} {t t' t2 : List Item} {ρ ρ' ρ2 : Env} {aw aw' aw2 : AW} {k : List Item}
theorem Seg.refl : Seg P N t t ρ ρ aw aw := fun base s a w b cs hr he hn => ⟨s, a, w, Inj.le_refl s, Steps.refl P _, hr, he, hn, rfl⟩
theorem Seg.trans (h : Seg P N t t' ρ ρ' aw aw') (k : Seg P N t' t2 ρ' ρ2 aw' aw2) : Seg P N t t2 ρ ρ2 aw aw2 := by
  intro base s a w b cs hr he hn
  obtain ⟨s1, a1, w1, h1, h2, h3, h4, h5, h6⟩ := h base s a w b cs hr he hn
  obtain ⟨s2, a2, w2, k1, k2, k3, k4, k5, k6⟩ := k base s1 a1 w1 b cs h3.re h4 h5
  exact ⟨s2, a2, w2, Inj.le_trans h1 k1, Steps.trans h2 k2, h3.back k3, k4, k5, k6.trans h6⟩
theorem Seg.one (hs : ∀ (b : Frame) (a : Act) (cs : List Frame) (w : World), step P (lone (b.atR a t) cs w) = .next (lone (b.atR a t') cs w)) : Seg P N t t' ρ ρ aw aw :=
  fun base s a w b cs hr he hn => ⟨s, a, w, Inj.le_refl s, .one (hs b a cs w), hr, he, hn, rfl⟩
theorem evalR {base : Nat → Prop} {w0 w : World} {s : Inj} {a : Act} (hr : Rel P.globals.size base w0 s aw w) (he : ∀ t, VR s (ρ t) (a.tmps.getD t undef)) {x : Operand} (hx : okOpd P.globals.size x = true) : VR s (ρ.eval x) (a.eval x) := by
  cases x with
  | tmp t => exact he t
  | const v => exact VR.ofPlain hx
  | global g =>
    obtain ⟨e, h1, h2, h3⟩ := hr.glob g (by simpa [okOpd] using hx)
    have := VR.ptr (s := s) (b := g) (o := 0) h1
    simpa [Env.eval, Act.eval, h2, h3] using this
  | func f => exact .func _ .nil .nil
theorem Seg.cond {c : Operand} {x y : Code} {q : Bool} (hc : okOpd P.globals.size c = true) (h : ρ.eval c = .bool q) : Seg P N (.code (.cond c x y) :: k) (.code (if q then x else y) :: k) ρ ρ aw aw := by
  intro base s a w b cs hr he hn
  have hv := evalR hr he hc
  rw [h] at hv
  exact ⟨s, a, w, Inj.le_refl s, .one (stepR_cond hv.bool_inv), hr, he, hn, rfl⟩
variable {ops : Array Oper} {i d : Nat} {rest : List Nat} {o : Oper} {oq : Op} {M M' : Mem} {v : Value}
theorem wantedN (hg : o.guard = none) (ops : Array Oper) (tmps : Array Value) : Region.wanted o (yielded ops tmps) = true := by unfold Region.wanted; rw [hg]
theorem Seg.val (ho : ops[i]? = some o) (hg : o.guard = none) (hd : ∀ d, o.dst = some d → d < N) (hnd : ∀ c, o.op ≠ .defer c) (hv : OpV P o ρ aw v aw') : Seg P N (.inRegion ops (i :: rest) :: k) (.inRegion ops rest :: k) ρ (ρ.put o.dst v) aw aw' := by
  intro base s a w b cs hr he hn
  obtain ⟨n, v', w', s', h1, h2, h3, h4, h5⟩ := hv base w s a.eval w hr (fun x hx => evalR hr he hx)
  have hst := stepGR_op (P := P) (b := b) (k := k) (cs := cs) (w := w) (rest := rest) ho (wantedN hg ops a.tmps)
  rw [Oper.semAt_eq _ _ _ hnd] at hst
  have hfin : ∀ v, (b.atR a (.inRegion ops (i :: rest) :: k)).finish v = b.atR (a.put o.dst v) (.inRegion ops rest :: k) := by
    intro v; rw [Frame.finish_atR, ho]; rfl
  refine ⟨s', a.put o.dst v', w', h3, .one (step_lone_go ?_), h4, put_env (fun t => (he t).mono h3) (by rw [hn]; exact hd) h5, by rw [put_size]; exact hn, put_defers ..⟩
  rw [hst, ← hfin]
  rcases h2 with rfl | ⟨rfl, rfl⟩ <;> simp [stepG.apply, h1]
theorem Seg.call {fid : FuncId} {args : List Value} (ho : ops[i]? = some o) (hg : o.guard = none) (hd : ∀ d, o.dst = some d → d < N) (hnd : ∀ c, o.op ≠ .defer c) (hc : OpC P o ρ fid args)
    (h : ACalls P fid args aw fun e aw1 => e = .returned v ∧ aw1 = aw') : Seg P N (.inRegion ops (i :: rest) :: k) (.inRegion ops rest :: k) ρ (ρ.put o.dst v) aw aw' := by
  intro base s a w b cs hr he hn
  obtain ⟨args', h1, h2⟩ := hc s a.eval w (fun x hx => evalR hr he hx)
  have hst := stepGR_op (P := P) (b := b) (k := k) (cs := cs) (w := w) (rest := rest) ho (wantedN hg ops a.tmps)
  rw [Oper.semAt_eq _ _ _ hnd] at hst
  have hfin : ∀ v, (b.atR a (.inRegion ops (i :: rest) :: k)).finish v = b.atR (a.put o.dst v) (.inRegion ops rest :: k) := by
    intro v; rw [Frame.finish_atR, ho]; rfl
  obtain ⟨e, w', fr, ⟨s', ae, aw1, k1, k2, k3, rfl, rfl⟩, hcs, _, hlv⟩ := h base w s args' w hr h2 (b.atR a (.inRegion ops (i :: rest) :: k) :: cs)
  cases k3 with
  | returned hv =>
    rename_i v'
    have henter : step P (lone (b.atR a (.inRegion ops (i :: rest) :: k)) cs w) = .next (lone (Frame.enter P fid args'.toArray .normal) (b.atR a (.inRegion ops (i :: rest) :: k) :: cs) w) :=
      step_lone_go (by rw [hst]; simp [stepG.apply, h1, Frame.atR])
    refine ⟨s', a.put o.dst v', w', k1, .head henter (Steps.trans hcs (.one ?_)), k2, put_env (fun t => (he t).mono k1) (by rw [hn]; exact hd) hv, by rw [put_size]; exact hn, put_defers ..⟩
    rw [← hfin]; exact step_leave_returned hlv
theorem Seg.op (ho : ops[i]? = some o) (hop : o.op = oq) (hds : o.dst = some d) (hg : o.guard = none) (hd : d < N) (hnd : ∀ c, oq ≠ .defer c) (he : eOp P ρ M oq = some (v, M')) : Seg P N (.inRegion ops (i :: rest) :: k) (.inRegion ops rest :: k) ρ (ρ.put (some d) v) M.abs M'.abs := by
  have := Seg.val (k := k) (rest := rest) (N := N) ho hg (fun d' h' => by rw [hds] at h'; obtain rfl := Option.some.inj h'; exact hd) (by rw [hop]; exact hnd) (eOp_spec (by rw [hop]; exact he))
  rw [hds] at this
  exact this
theorem Seg.region {id : Nat} : Seg P N (.code (.region id ops false) :: k) (.inRegion ops (List.range ops.size) :: k) ρ ρ aw aw := .one fun _ _ _ _ => stepR_region
theorem Seg.regionEnd : Seg P N (.inRegion ops [] :: k) k ρ ρ aw aw := .one fun _ _ _ _ => stepR_region_end
end
noncomputable def sOp (P : Program) (C : Caller) (o : Oper) (ρ : T Value) (M : Mem) : Option (Value × Mem) := match o.guard with
  | some _ => none
  | none => (match o.op with
    | .call ⟨.value z, ⟨xs⟩, _⟩ => (match calls P (slot ρ) z xs with
      | none => none
      | some (g, l) => (match C g l M with
        | some (.returned v, M') => some (v, M')
        | _ => none))
    | .defer _ => none
    | op => eOp P (slot ρ) M op)
noncomputable def sOps (P : Program) (C : Caller) (N : Nat) (l : List Oper) : T Value → Mem → Option (T Value × Mem) := List.rec (motive := fun _ => T Value → Mem → Option (T Value × Mem)) (fun ρ M => some (ρ, M))
  (fun o _ ih ρ M => match sOp P C o ρ M with
    | none => none
    | some (v, M') => doV v fun v => doT (putS ρ o.dst v) fun ρ => doM M' fun M' => ih ρ M') l
noncomputable def sRun (P : Program) (C : Caller) (N : Nat) (n : Nat) : List Item → T Value → Mem → Option (T Value × Mem) := Nat.rec (motive := fun _ => List Item → T Value → Mem → Option (T Value × Mem)) (fun _ _ _ => none)
  (fun _ ih l ρ M => match l with
    | [] => some (ρ, M)
    | .code c :: k => (match c with
      | .skip => ih k ρ M
      | .seq x y => ih (.code x :: .code y :: k) ρ M
      | .block id c => ih (.code c :: .inBlock id :: k) ρ M
      | .cond c x y => (match okv P.globals.size (slot ρ) c with
        | some (.bool true) => ih (.code x :: k) ρ M
        | some (.bool false) => ih (.code y :: k) ρ M
        | _ => none)
      | .region _ ops false => bif dstsOk N ops then (match sOps P C N ops.toList ρ M with
        | some (ρ, M) => ih k ρ M
        | none => none) else none
      | _ => none)
    | .inBlock _ :: k => ih k ρ M
    | _ => none) n
section
variable {P : Program} {C : Caller} {N : Nat}
theorem sOp_spec (hC : CS P C) {ops : Array Oper} (hN : dstsOk N ops = true) {i : Nat} {o : Oper} (ho : ops[i]? = some o) {rest : List Nat} {k : List Item} {ρ : T Value} {M M' : Mem} {v : Value} (h : sOp P C o ρ M = some (v, M')) :
    Seg P N (.inRegion ops (i :: rest) :: k) (.inRegion ops rest :: k) (slot ρ) (slot (putS ρ o.dst v)) M.abs M'.abs := by
  have hd : ∀ d, o.dst = some d → d < N := fun d hd => dstsOk_get hN (j := i) (by simp [ho, hd])
  rw [slot_put]
  unfold sOp at h
  split at h
  · cases h
  rename_i hg
  generalize hop : o.op = op at h
  split at h
  · rename_i z xs ts
    split at h
    · cases h
    rename_i g l hc
    split at h
    · rename_i v' M2 hr
      simp only [Option.some.injEq, Prod.mk.injEq] at h
      obtain ⟨rfl, rfl⟩ := h
      refine Seg.call ho hg hd (fun c => by rw [hop]; exact fun h => by cases h) (calls_spec hop hc) (ACalls.mono (hC _ _ _ _ _ hr) fun e aw' he => ?_)
      exact he
    · cases h
  · cases h
  · rename_i hnc hnd
    exact Seg.val ho hg hd (fun c => by rw [hop]; exact hnd c) (eOp_spec (by rw [hop]; exact h))
theorem sOps_spec (hC : CS P C) {ops : Array Oper} (hN : dstsOk N ops = true) {k : List Item} : ∀ (l : List Oper) (i : Nat) (ρ ρ' : T Value) (M M' : Mem), ops.toList.drop i = l → sOps P C N l ρ M = some (ρ', M') →
    Seg P N (.inRegion ops (List.range' i l.length) :: k) k (slot ρ) (slot ρ') M.abs M'.abs
  | [], i, ρ, ρ', M, M', hl, h => by
    have h : some (ρ, M) = some (ρ', M') := h
    simp only [Option.some.injEq, Prod.mk.injEq] at h
    obtain ⟨rfl, rfl⟩ := h
    exact Seg.regionEnd
  | o :: l, i, ρ, ρ', M, M', hl, h => by
    have hi : i < ops.toList.length := by
      rcases Nat.lt_or_ge i ops.toList.length with h | h
      · exact h
      · rw [List.drop_eq_nil_of_le h] at hl; cases hl
    rw [List.drop_eq_getElem_cons hi] at hl
    injection hl with h1 h2
    have ho : ops[i]? = some o := by
      rw [← h1]
      have hi' : i < ops.size := by simpa using hi
      simp [hi']
    have h : (match sOp P C o ρ M with
      | none => none
      | some (v, M') => doV v fun v => doT (putS ρ o.dst v) fun ρ => doM M' fun M' => sOps P C N l ρ M') = some (ρ', M') := h
    split at h
    · cases h
    rename_i v M2 hv
    rw [doV_eq, doT_eq, doM_eq] at h
    exact (sOp_spec hC hN ho hv).trans (sOps_spec hC hN l (i + 1) _ _ _ _ h2 h)
theorem sRun_spec (hC : CS P C) {kk : List Item} : ∀ (n : Nat) (l : List Item) (ρ ρ' : T Value) (M M' : Mem), sRun P C N n l ρ M = some (ρ', M') → Seg P N (l ++ kk) kk (slot ρ) (slot ρ') M.abs M'.abs
  | 0, l, ρ, ρ', M, M', h => by cases h
  | n + 1, l, ρ, ρ', M, M', h0 => by
    have ih := sRun_spec hC (kk := kk) n
    have h : (match (generalizing := false) l with
      | [] => some (ρ, M)
      | .code c :: k => (match (generalizing := false) c with
        | .skip => sRun P C N n k ρ M
        | .seq x y => sRun P C N n (.code x :: .code y :: k) ρ M
        | .block id c => sRun P C N n (.code c :: .inBlock id :: k) ρ M
        | .cond c x y => (match okv P.globals.size (slot ρ) c with
          | some (.bool true) => sRun P C N n (.code x :: k) ρ M
          | some (.bool false) => sRun P C N n (.code y :: k) ρ M
          | _ => none)
        | .region _ ops false => bif dstsOk N ops then (match sOps P C N ops.toList ρ M with
          | some (ρ, M) => sRun P C N n k ρ M
          | none => none) else none
        | _ => none)
      | .inBlock _ :: k => sRun P C N n k ρ M
      | _ => none) = some (ρ', M') := h0
    clear h0
    split at h
    · simp only [Option.some.injEq, Prod.mk.injEq] at h
      obtain ⟨rfl, rfl⟩ := h
      exact .refl
    · split at h
      · exact (Seg.one fun _ _ _ _ => stepR_skip).trans (ih _ _ _ _ _ h)
      · exact (Seg.one fun _ _ _ _ => stepR_seq).trans (ih _ _ _ _ _ h)
      · exact (Seg.one fun _ _ _ _ => stepR_block).trans (ih _ _ _ _ _ h)
      · split at h
        · rename_i hc
          obtain ⟨c1, c2⟩ := okv_spec hc
          exact (Seg.cond c1 c2).trans (ih _ _ _ _ _ h)
        · rename_i hc
          obtain ⟨c1, c2⟩ := okv_spec hc
          exact (Seg.cond c1 c2).trans (ih _ _ _ _ _ h)
        · cases h
      · rename_i k0 c0 id ops
        rw [cond_some] at h
        obtain ⟨hN, h⟩ := h
        split at h
        · rename_i ρ2 M2 hs
          have := sOps_spec hC hN (k := k0 ++ kk) ops.toList 0 _ _ _ _ rfl hs
          rw [Array.length_toList, ← List.range_eq_range'] at this
          exact (Seg.region (id := id)).trans (this.trans (ih _ _ _ _ _ h))
        · cases h
      · cases h
    · exact (Seg.one fun _ _ _ _ => stepR_inBlock).trans (ih _ _ _ _ _ h)
    · cases h
end
end Go.Ri
set_option linter.unusedSimpArgs false
set_option linter.unusedVariables false
set_option linter.unusedSectionVars false
namespace Go.Ri
open Go Go.Am Go.RowKit
variable [SymE] [FT] [FTok]
abbrev OpD3 := Op × Option Tmp × Option (Nat × Bool)
def shp (ops : Array Oper) : List OpD3 := ops.toList.map fun o => (o.op, o.dst, o.guard)
theorem shp_get {ops : Array Oper} {l : List OpD3} (h : shp ops = l) {i : Nat} {op : Op} {d : Option Tmp} {g : Option (Nat × Bool)} (hi : l[i]? = some (op, d, g)) : ∃ o, ops[i]? = some o ∧ o.op = op ∧ o.dst = d ∧ o.guard = g := by
  subst h
  simp only [shp, List.getElem?_map, Option.map_eq_some_iff] at hi
  obtain ⟨o, h1, h2⟩ := hi
  simp only [Prod.mk.injEq] at h2
  exact ⟨o, by simpa using h1, h2.1, h2.2.1, h2.2.2⟩
theorem shp_size {ops : Array Oper} {l : List OpD3} (h : shp ops = l) : ops.size = l.length := by
  subst h; simp [shp]
def one64 : Operand := .const (.int .i64 1)
def zero64 : Operand := .const (.int .i64 0)
structure IsBack (P : Program) (fB : FuncId) (T e : TypeId) : Prop where
  ex : ∃ (fn : Func) (i0 i1 i2 i3 : Nat) (o0 o1 o2 o3 : Array Oper) (ti tj tk tl tm tn : TypeId) (ts : Array TypeId),
    P.funcs[fB]? = some fn ∧ (fn.name == "runtime.NumGoroutine") = false ∧ fn.ntmps = 19 ∧ fn.results = #[] ∧
    fn.body = some (.seq (.region i0 o0 false) (.block 0 (.loop (.seq (.seq (.region i1 o1 false) (.cond (.tmp 8) .skip (.exit 0))) (.seq (.block 1 (.seq (.region i3 o3 false) (.cond (.tmp 18) .ret .skip))) (.region i2 o2 false)))))) ∧
    shp o0 = [(.load T (.tmp 1), some 4, none), (.call ⟨.builtin .len, #[.tmp 4], #[T]⟩, some 5, none), (.binOp .sub ti (.tmp 5) one64 tj, some 6, none), (.assign (.tmp 6), some 3, none)] ∧
    shp o1 = [(.move (.tmp 3), some 7, none), (.binOp .geq tk (.tmp 7) zero64 tl, some 8, none)] ∧
    shp o3 = [(.move (.tmp 0), some 11, none), (.move (.tmp 3), some 12, none), (.load T (.tmp 1), some 13, none), (.move (.tmp 3), some 14, none), (.indexAddr T (.tmp 13) (.tmp 14), some 15, none), (.load e (.tmp 15), some 16, none),
      (.call ⟨.value (.tmp 11), #[.tmp 12, .tmp 16], ts⟩, some 17, none), (.unOp .not tm (.tmp 17), some 18, none)] ∧
    shp o2 = [(.move (.tmp 3), some 9, none), (.binOp .sub tn (.tmp 9) one64 tj, some 10, none), (.assign (.tmp 10), some 3, none)]
noncomputable def bkElem (P : Program) (M : Mem) (T e : TypeId) (sv : Value) (i : Nat) : Option Value := match eIxA P (fun t => Nat.rec (motive := fun _ => Value) sv (fun _ _ => .int .i64 (.ofNat i)) t) M T (.tmp 0) (.tmp 1) with
  | some (p, _) => (match eLoad P (fun _ => p) M e (.tmp 0) with
    | some (x, _) => some x
    | none => none)
  | none => none
theorem fw_small {n : Int} (h1 : -9223372036854775808 ≤ n) (h2 : n < 9223372036854775808) : fw .i64 n = n := by
  rw [fw_eq]
  simp only [IntKind.wrap, IntKind.bits, IntKind.signed]
  simp
  split <;> omega
theorem eBin_sub {P : Program} {ρ : Env} {M : Mem} {t : TypeId} {a : Nat} {n : Int} (h : ρ a = .int .i64 n) (t' : TypeId) : eOp P ρ M (.binOp .sub t (.tmp a) one64 t') = some (.int .i64 (fw .i64 (n - 1)), M) := by
  simp [eOp, eBin, okv, one64, plain, h, bin, binI, ar]
theorem eBin_geq {P : Program} {ρ : Env} {M : Mem} {t : TypeId} {a : Nat} {n : Int} (h : ρ a = .int .i64 n) (t' : TypeId) : eOp P ρ M (.binOp .geq t (.tmp a) zero64 t') = some (.bool (decide (0 ≤ n)), M) := by
  simp [eOp, eBin, okv, zero64, plain, h, bin, binI, ar]
theorem eIxA_eq {P : Program} {ρ ρ' : Env} {M : Mem} {T : TypeId} {a b c d : Nat} (h1 : ρ a = ρ' c) (h2 : ρ b = ρ' d) : eIxA P ρ M T (.tmp a) (.tmp b) = eIxA P ρ' M T (.tmp c) (.tmp d) := by
  simp only [eIxA, okv, h1, h2]
theorem eLoad_eq {P : Program} {ρ ρ' : Env} {M : Mem} {T : TypeId} {a c : Nat} (h1 : ρ a = ρ' c) : eLoad P ρ M T (.tmp a) = eLoad P ρ' M T (.tmp c) := by
  simp only [eLoad, okv, h1]
noncomputable def rnd (P : Program) (C : Caller) (N : Nat) (assign body : Code) (ρ : T Value) (M : Mem) : Option Mem := match sRun P C N 100 [.code assign] ρ M with
  | none => none
  | some (ρ1, M1) => (match sRun P C N 100 [.code body] ρ1 M1 with
    | none => none
    | some (_, M2) => some M2)
noncomputable def bkRun (P : Program) (C : Caller) (N : Nat) (tS e : TypeId) (p1 p2 : Tmp) (assign body : Code) (bx : Nat) (ρ : T Value) (L : Nat) (i : Nat) : Mem → Option Mem := Nat.rec (motive := fun _ => Mem → Option Mem) (fun M => some M)
  (fun i ih M => match eLoad P (fun _ => .pointer (some ⟨bx, 0, none⟩)) M tS (.tmp 0) with
    | none => none
    | some (sv, _) => (match bkElem P M tS e sv i with
      | none => none
      | some x => (match rnd P C N assign body (putS (putS ρ (some p1) (.int .i64 (.ofNat i))) (some p2) x) M with
        | none => none
        | some M' => ih M'))) i
section
variable {P : Program}
theorem Seg.regionN {N n id : Nat} {k : List Item} {ρ : Env} {aw : AW} {ops : Array Oper} (h : ops.size = n) : Seg P N (.code (.region id ops false) :: k) (.inRegion ops (List.range n) :: k) ρ ρ aw aw := h ▸ Seg.region
variable {N : Nat} {ops : Array Oper} {sh : List OpD3} {i d : Nat} {rest : List Nat} {k : List Item} {ρ : Env} {M M' : Mem} {v : Value} {oq : Op}
theorem Seg.shp (h : shp ops = sh) (hi : sh[i]? = some (oq, some d, none)) (hd : d < N) (hnd : ∀ c, oq ≠ .defer c) (he : eOp P ρ M oq = some (v, M')) : Seg P N (.inRegion ops (i :: rest) :: k) (.inRegion ops rest :: k) ρ (ρ.put (some d) v) M.abs M'.abs := by
  obtain ⟨o, h1, h2, h3, h4⟩ := shp_get h hi
  exact Seg.op h1 h2 h3 h4 hd hnd he
end
theorem put_ne (ρ : Env) {d t : Nat} (v : Value) (h : t ≠ d) : (ρ.put (some d) v) t = ρ t := by rw [Env.put_some]; exact if_neg h
theorem ev_put (ρ : Env) (d : Nat) (v : Value) : Env.eval (ρ.put (some d) v) (.tmp d) = v := by
  show (ρ.put (some d) v) d = v
  rw [Env.put_some]; exact if_pos rfl
theorem put_eq (ρ : Env) (d : Nat) (v : Value) : (ρ.put (some d) v) d = v := by rw [Env.put_some]; exact if_pos rfl
section
variable {P : Program} {C : Caller}
abbrev lpB (i1 i2 i3 : Nat) (o1 o2 o3 : Array Oper) : Code := .seq (.seq (.region i1 o1 false) (.cond (.tmp 8) .skip (.exit 0))) (.seq (.block 1 (.seq (.region i3 o3 false) (.cond (.tmp 18) .ret .skip))) (.region i2 o2 false))
abbrev lpH (i1 i2 i3 : Nat) (o1 o2 o3 : Array Oper) : List Item := [.code (lpB i1 i2 i3 o1 o2 o3), .inLoop (lpB i1 i2 i3 o1 o2 o3), .inBlock 0]
theorem seg_head {i1 i2 i3 : Nat} {o1 o2 o3 : Array Oper} {tk tl : TypeId} (h1 : shp o1 = [(.move (.tmp 3), some 7, none), (.binOp .geq tk (.tmp 7) zero64 tl, some 8, none)]) {ρ : Env} {M : Mem} {n : Int} (h3 : ρ 3 = .int .i64 n) :
    Seg P 19 (lpH i1 i2 i3 o1 o2 o3) (.code (if decide (0 ≤ n) then .skip else .exit 0) :: .code (.seq (.block 1 (.seq (.region i3 o3 false) (.cond (.tmp 18) .ret .skip))) (.region i2 o2 false)) :: [.inLoop (lpB i1 i2 i3 o1 o2 o3), .inBlock 0])
      ρ ((ρ.put (some 7) (ρ 3)).put (some 8) (.bool (decide (0 ≤ n)))) M.abs M.abs := by
  refine (Seg.one fun _ _ _ _ => stepR_seq).trans ((Seg.one fun _ _ _ _ => stepR_seq).trans ((Seg.regionN (shp_size h1)).trans ?_))
  refine (Seg.shp (N := 19) (i := 0) (rest := [1]) h1 rfl (by decide) (fun c => by simp) (v := ρ 3) (M' := M) rfl).trans ?_
  refine (Seg.shp (N := 19) (i := 1) (rest := []) h1 rfl (by decide) (fun c => by simp) (M' := M) (eBin_geq (n := n) (by rw [put_eq, h3]) _)).trans ?_
  exact Seg.regionEnd.trans (Seg.cond rfl (ev_put _ _ _))
theorem seg_mid {i1 i2 i3 : Nat} {o1 o2 o3 : Array Oper} {T e tm : TypeId} {ts : Array TypeId}
    (h3 : shp o3 = [(.move (.tmp 0), some 11, none), (.move (.tmp 3), some 12, none), (.load T (.tmp 1), some 13, none), (.move (.tmp 3), some 14, none), (.indexAddr T (.tmp 13) (.tmp 14), some 15, none), (.load e (.tmp 15), some 16, none),
      (.call ⟨.value (.tmp 11), #[.tmp 12, .tmp 16], ts⟩, some 17, none), (.unOp .not tm (.tmp 17), some 18, none)])
    {ρ : Env} {M : Mem} {i bx : Nat} {sv x : Value} {k : List Item} (q1 : ρ 1 = .pointer (some ⟨bx, 0, none⟩)) (q3 : ρ 3 = .int .i64 (.ofNat i)) {M1 : Mem} (hs : eLoad P (fun _ => .pointer (some ⟨bx, 0, none⟩)) M T (.tmp 0) = some (sv, M1))
    (hx : bkElem P M T e sv i = some x) :
    ∃ ρ', Seg P 19 (.code .skip :: .code (.seq (.block 1 (.seq (.region i3 o3 false) (.cond (.tmp 18) .ret .skip))) (.region i2 o2 false)) :: k)
      (.inRegion o3 [6, 7] :: .code (.cond (.tmp 18) .ret .skip) :: .inBlock 1 :: .code (.region i2 o2 false) :: k) ρ ρ' M.abs M.abs ∧ ρ' 0 = ρ 0 ∧ ρ' 1 = ρ 1 ∧ ρ' 3 = ρ 3 ∧ ρ' 11 = ρ 0 ∧ ρ' 12 = ρ 3 ∧ ρ' 16 = x := by
  have hM1 : M1 = M := quiet_spec (P := P) (ρ := fun _ => .pointer (some ⟨bx, 0, none⟩)) (op := .load T (.tmp 0)) rfl hs
  subst hM1
  unfold bkElem at hx
  split at hx
  · rename_i p Mp hp
    split at hx
    · rename_i y My hy
      simp only [Option.some.injEq] at hx
      subst hx
      have hMp : Mp = M1 := quiet_spec (P := P) (ρ := fun t => Nat.rec (motive := fun _ => Value) sv (fun _ _ => .int .i64 (.ofNat i)) t) (op := .indexAddr T (.tmp 0) (.tmp 1)) rfl hp
      have hMy : My = M1 := quiet_spec (P := P) (ρ := fun _ => p) (op := .load e (.tmp 0)) rfl hy
      subst hMp
      subst hMy
      refine ⟨((((((ρ.put (some 11) (ρ 0)).put (some 12) (ρ 3)).put (some 13) sv).put (some 14) (ρ 3)).put (some 15) p).put (some 16) y), ?_, ?_⟩
      · refine (Seg.one fun _ _ _ _ => stepR_skip).trans ?_
        refine (Seg.one fun _ _ _ _ => stepR_seq).trans ?_
        refine (Seg.one fun _ _ _ _ => stepR_block).trans ?_
        refine (Seg.one fun _ _ _ _ => stepR_seq).trans ?_
        refine (Seg.regionN (shp_size h3)).trans ?_
        refine (Seg.shp (N := 19) (i := 0) (rest := [1, 2, 3, 4, 5, 6, 7]) h3 rfl (by decide) (fun c => by simp) (v := ρ 0) (M' := My) rfl).trans ?_
        refine (Seg.shp (N := 19) (i := 1) (rest := [2, 3, 4, 5, 6, 7]) h3 rfl (by decide) (fun c => by simp) (v := ρ 3) (M' := My) ?_).trans ?_
        · show some _ = some _
          rw [put_ne _ _ (by decide)]
        refine (Seg.shp (N := 19) (i := 2) (rest := [3, 4, 5, 6, 7]) h3 rfl (by decide) (fun c => by simp) (v := sv) (M' := My) ?_).trans ?_
        · show eLoad P _ My T (.tmp 1) = _
          rw [← hs]; exact eLoad_eq (by rw [put_ne _ _ (by decide), put_ne _ _ (by decide), q1])
        refine (Seg.shp (N := 19) (i := 3) (rest := [4, 5, 6, 7]) h3 rfl (by decide) (fun c => by simp) (v := ρ 3) (M' := My) ?_).trans ?_
        · show some _ = some _
          rw [put_ne _ _ (by decide), put_ne _ _ (by decide), put_ne _ _ (by decide)]
        refine (Seg.shp (N := 19) (i := 4) (rest := [5, 6, 7]) h3 rfl (by decide) (fun c => by simp) (v := p) (M' := My) ?_).trans ?_
        · show eIxA P _ My T (.tmp 13) (.tmp 14) = _
          rw [← hp]
          refine eIxA_eq ?_ ?_
          · show _ = sv
            rw [put_ne _ _ (by decide), put_eq]
          · show _ = Value.int .i64 (.ofNat i)
            rw [put_eq, q3]
        refine Seg.shp (N := 19) (i := 5) (rest := [6, 7]) h3 rfl (by decide) (fun c => by simp) (v := y) (M' := My) ?_
        show eLoad P _ My e (.tmp 15) = _
        rw [← hy]; exact eLoad_eq (by rw [put_eq])
      · refine ⟨?_, ?_, ?_, ?_, ?_, put_eq _ _ _⟩
        all_goals simp only [Env.put_some]
        all_goals rfl
    · cases hx
  · cases hx
theorem seg_tail {i1 i2 i3 : Nat} {o1 o2 o3 : Array Oper} {T e tm tn tj : TypeId} {ts : Array TypeId}
    (h3 : shp o3 = [(.move (.tmp 0), some 11, none), (.move (.tmp 3), some 12, none), (.load T (.tmp 1), some 13, none), (.move (.tmp 3), some 14, none), (.indexAddr T (.tmp 13) (.tmp 14), some 15, none), (.load e (.tmp 15), some 16, none),
      (.call ⟨.value (.tmp 11), #[.tmp 12, .tmp 16], ts⟩, some 17, none), (.unOp .not tm (.tmp 17), some 18, none)])
    (h2 : shp o2 = [(.move (.tmp 3), some 9, none), (.binOp .sub tn (.tmp 9) one64 tj, some 10, none), (.assign (.tmp 10), some 3, none)])
    {ρ : Env} {M : Mem} {n : Int} (q3 : ρ 3 = .int .i64 n) (q17 : ρ 17 = .bool true) :
    ∃ ρ', Seg P 19 (.inRegion o3 [7] :: .code (.cond (.tmp 18) .ret .skip) :: .inBlock 1 :: .code (.region i2 o2 false) :: [.inLoop (lpB i1 i2 i3 o1 o2 o3), .inBlock 0]) (lpH i1 i2 i3 o1 o2 o3) ρ ρ' M.abs M.abs ∧ ρ' 0 = ρ 0 ∧ ρ' 1 = ρ 1 ∧ ρ' 3 = .int .i64 (fw .i64 (n - 1)) := by
  refine ⟨((((ρ.put (some 18) (.bool false)).put (some 9) (.int .i64 n)).put (some 10) (.int .i64 (fw .i64 (n - 1)))).put (some 3) (.int .i64 (fw .i64 (n - 1)))), ?_, ?_⟩
  · refine (Seg.shp (N := 19) (i := 7) (rest := []) h3 rfl (by decide) (fun c => by simp) (v := .bool false) (M' := M) (by simp [eOp, eUn, okv, q17])).trans ?_
    refine Seg.regionEnd.trans ?_
    refine (Seg.cond (q := false) rfl (ev_put _ _ _)).trans ?_
    refine (Seg.one fun _ _ _ _ => stepR_skip).trans ?_
    refine (Seg.one fun _ _ _ _ => stepR_inBlock).trans ?_
    refine (Seg.regionN (shp_size h2)).trans ?_
    refine (Seg.shp (N := 19) (i := 0) (rest := [1, 2]) h2 rfl (by decide) (fun c => by simp) (v := .int .i64 n) (M' := M) ?_).trans ?_
    · show some _ = some _
      rw [put_ne _ _ (by decide), q3]
    refine (Seg.shp (N := 19) (i := 1) (rest := [2]) h2 rfl (by decide) (fun c => by simp) (M' := M) (eBin_sub (n := n) (put_eq _ _ _) _)).trans ?_
    refine (Seg.shp (N := 19) (i := 2) (rest := []) h2 rfl (by decide) (fun c => by simp) (v := .int .i64 (fw .i64 (n - 1))) (M' := M) ?_).trans ?_
    · show some _ = some _
      rw [put_eq]
    exact Seg.regionEnd.trans (Seg.one fun _ _ _ _ => stepR_inLoop)
  · refine ⟨?_, ?_, put_eq _ _ _⟩
    all_goals simp only [Env.put_some]
    all_goals rfl
end
end Go.Ri
set_option linter.unusedSimpArgs false
set_option linter.unusedVariables false
set_option linter.unusedSectionVars false
namespace Go.Ri
open Go Go.Am Go.RowKit
variable [SymE] [FT] [FTok]
section
variable {P : Program} {C : Caller}
theorem step_yield {b : Frame} {a : Act} {ops : Array Oper} {i : Nat} {rest : List Nat} {k : List Item} {cs : List Frame} {w : World} {o : Oper} {l : Nat} {r : Loop} {t11 t12 t16 p1 p2 : Nat} {ts : Array TypeId}
    (ho : ops[i]? = some o) (hop : o.op = .call ⟨.value (.tmp t11), #[.tmp t12, .tmp t16], ts⟩) (hg : o.guard = none) (h11 : a.tmps.getD t11 undef = .func (.yield l) #[] #[]) (hl : w.heap[l]? = some (.loop r)) (hp : r.params = #[p1, p2]) :
    step P (lone (b.atR a (.inRegion ops (i :: rest) :: k)) cs w) =
      .next (lone (Frame.round l r.fn ((r.tmps.setIfInBounds p1 (a.tmps.getD t12 undef)).setIfInBounds p2 (a.tmps.getD t16 undef)) r.assign r.body .normal) (b.atR a (.inRegion ops (i :: rest) :: k) :: cs) w) := by
  have hst := stepGR_op (P := P) (b := b) (k := k) (cs := cs) (w := w) (rest := rest) ho (wantedN hg ops a.tmps)
  rw [Oper.semAt_eq _ _ _ (fun c => by rw [hop]; simp)] at hst
  have hrun : (execOp a.eval o).run P w = .ok (.round l r.fn ((r.tmps.setIfInBounds p1 (a.tmps.getD t12 undef)).setIfInBounds p2 (a.tmps.getD t16 undef)) r.assign r.body) w := by
    have hy := run_yield (P := P) (w := w) (args := #[a.tmps.getD t12 undef, a.tmps.getD t16 undef]) hl (by rw [hp]; rfl)
    rw [hp] at hy
    simp only [execOp, hop, resolve, Sem.run_bind, Act.eval, h11, Deferred.ofValue, Sem.run_pure, Result.andThen_ok, invoke, List.map_toArray, List.map_cons, List.map_nil, Array.append_eq_append, Array.empty_append]
    have e : (#[] ++ [a.tmps.getD t12 undef, a.tmps.getD t16 undef].toArray : Array Value) = #[a.tmps.getD t12 undef, a.tmps.getD t16 undef] := by simp
    have hz : (#[p1, p2] : Array Tmp).zip #[a.tmps.getD t12 undef, a.tmps.getD t16 undef] = #[(p1, a.tmps.getD t12 undef), (p2, a.tmps.getD t16 undef)] := by
      apply Array.toList_inj.1
      simp [Array.toList_zip]
    rw [hy, hz]
    simp
  exact step_lone_go (by rw [hst]; simp [stepG.apply, hrun, Frame.atR])
structure Inv (P : Program) (base : Nat → Prop) (ws : World) (M : Mem) (s : Inj) (l : Nat) (r : Loop) (w : World) : Prop where
  rel : Rel P.globals.size base ws s M.abs w
  rcd : w.heap[l]? = some (.loop r)
theorem rnd_spec (hC : CS P C) {N : Nat} {assign body : Code} {ρ : T Value} {M M' : Mem} (h : rnd P C N assign body ρ M = some M') {base : Nat → Prop} {ws w : World} {s : Inj} {l : Nat} {r : Loop} (hi : Inv P base ws M s l r w) (hls : ws.heap.size ≤ l) (hlb : ¬ base l)
    (hr : r.state = .ready) (hra : r.assign = assign) (hrb : r.body = body) (hrp : r.pending = none) {tmps : Array Value} (he : ∀ t, VR s (slot ρ t) (tmps.getD t undef)) (hn : tmps.size = N) (c : Frame) (cs : List Frame) :
    ∃ s' w', s.le s' ∧ Steps P (lone (Frame.round l r.fn tmps r.assign r.body .normal) (c :: cs) w) (lone (c.finish (.bool true)) cs w') ∧ Inv P base ws M' s' l r w' := by
  unfold rnd at h
  split at h
  · cases h
  rename_i ρ1 M1 h1
  split at h
  · cases h
  rename_i ρ2 M2 h2
  simp only [Option.some.injEq] at h; subst h
  let b : Frame := { (default : Frame) with fn := r.fn, kind := .normal, roundOf := some l }
  have hb0 : Frame.round l r.fn tmps r.assign r.body .normal = b.atR { tmps := tmps, defers := [] } ([.code assign] ++ [.beginRound, .code body]) := by
    simp [Frame.round, Frame.atR, b, hra, hrb]
  rw [hb0]
  obtain ⟨s1, a1, w1, k1, k2, k3, k4, k5, k6⟩ := sRun_spec hC (N := N) (kk := [.beginRound, .code body]) 100 _ _ _ _ _ h1 base s { tmps := tmps, defers := [] } w b (c :: cs) hi.rel.re he hn
  have hl1 : w1.heap[l]? = some (.loop r) := k3.below.other l _ hi.rcd rfl
  have hbr := run_beginRound (P := P) hl1 hr
  have hs1 : step P (lone (b.atR a1 [.beginRound, .code body]) (c :: cs) w1) = .next (lone (b.atR a1 [.code body]) (c :: cs) _) := stepR_beginRound (l := l) rfl hbr
  have hrel1 : Rel P.globals.size base ws s1 M1.abs (w1.putObj l (.loop { r with state := .busy })) := (hi.rel.back k3).putObj hl1 rfl hls hlb _
  obtain ⟨s2, a2, w2, j1, j2, j3, j4, j5, j6⟩ := sRun_spec hC (N := N) (kk := []) 100 _ _ _ _ _ h2 base s1 a1 _ b (c :: cs) hrel1.re k4 k5
  have hlt : l < w1.heap.size := (Array.getElem?_eq_some_iff.1 hl1).1
  have hl2 : w2.heap[l]? = some (.loop { r with state := .busy }) := j3.below.other l _ (World.putObj_heap_same hlt) rfl
  have her := run_endRound (P := P) none hl2
  have hs2 : step P (lone (b.atR a2 []) (c :: cs) w2) = .next (lone (c.finish (.bool true)) cs _) := stepR_round_end (l := l) rfl rfl her
  have hlt2 : l < w2.heap.size := (Array.getElem?_eq_some_iff.1 hl2).1
  have hrr : ({ ({ r with state := .busy } : Loop) with state := if (none : Option Code).isNone then .ready else .done, pending := none } : Loop) = r := by
    cases r; simp only at hr hrp; subst hr; subst hrp; rfl
  refine ⟨s2, _, Inj.le_trans k1 j1, Steps.trans k2 (.head hs1 (Steps.trans (by simpa using j2) (.one hs2))), (hrel1.back j3).putObj hl2 rfl hls hlb _, ?_⟩
  rw [World.putObj_heap_same hlt2, hrr]
theorem back_loop (hC : CS P C) {N : Nat} {T e tk tl tm tn tj : TypeId} {ts : Array TypeId} {i1 i2 i3 : Nat} {o1 o2 o3 : Array Oper} {p1 p2 : Nat} {assign body : Code} {bx L : Nat} {ρ : Go.Ri.T Value} (hp1 : p1 < N) (hp2 : p2 < N)
    (h1 : shp o1 = [(.move (.tmp 3), some 7, none), (.binOp .geq tk (.tmp 7) zero64 tl, some 8, none)])
    (h3 : shp o3 = [(.move (.tmp 0), some 11, none), (.move (.tmp 3), some 12, none), (.load T (.tmp 1), some 13, none), (.move (.tmp 3), some 14, none), (.indexAddr T (.tmp 13) (.tmp 14), some 15, none), (.load e (.tmp 15), some 16, none),
      (.call ⟨.value (.tmp 11), #[.tmp 12, .tmp 16], ts⟩, some 17, none), (.unOp .not tm (.tmp 17), some 18, none)])
    (h2 : shp o2 = [(.move (.tmp 3), some 9, none), (.binOp .sub tn (.tmp 9) one64 tj, some 10, none), (.assign (.tmp 10), some 3, none)])
    {base : Nat → Prop} {ws : World} {l : Nat} {r : Loop} (hls : ws.heap.size ≤ l) (hlb : ¬ base l) (hr : r.state = .ready) (hra : r.assign = assign) (hrb : r.body = body) (hrp : r.pending = none) (hrn : r.tmps.size = N) (hrs : r.params = #[p1, p2]) :
    ∀ (i : Nat) (M M' : Mem), i ≤ 4611686018427387904 → bkRun P C N T e p1 p2 assign body bx ρ L i M = some M' → ∀ {s : Inj} {w : World} (hi : Inv P base ws M s l r w) (hrt : ∀ t, VR s (slot ρ t) (r.tmps.getD t undef)) {ρB : Env} {aB : Act}
      (he : ∀ t, VR s (ρB t) (aB.tmps.getD t undef)) (hn : aB.tmps.size = 19) (q0 : ρB 0 = .func (.yield l) #[] #[]) (q1 : ρB 1 = .pointer (some ⟨bx, 0, none⟩)) (q3 : ρB 3 = .int .i64 ((i : Int) - 1)) (b : Frame) (cs : List Frame),
      ∃ s' w' aB', s.le s' ∧ Steps P (lone (b.atR aB (lpH i1 i2 i3 o1 o2 o3)) cs w) (lone (b.atR aB' []) cs w') ∧ Inv P base ws M' s' l r w' ∧ aB'.defers = aB.defers ∧ aB'.tmps.size = 19
  | 0, M, M', _, h, s, w, hi, hrt, ρB, aB, he, hn, q0, q1, q3, b, cs => by
    have h : some M = some M' := h
    simp only [Option.some.injEq] at h; subst h
    obtain ⟨s1, a1, w1, k1, k2, k3, k4, k5, k6⟩ := seg_head (P := P) (i1 := i1) (i2 := i2) (i3 := i3) (o2 := o2) (o3 := o3) (M := M) h1 q3 base s aB w b cs hi.rel.re he hn
    have hx : step P (lone (b.atR a1 (.code (.exit 0) :: .code (.seq (.block 1 (.seq (.region i3 o3 false) (.cond (.tmp 18) .ret .skip))) (.region i2 o2 false)) :: [.inLoop (lpB i1 i2 i3 o1 o2 o3), .inBlock 0])) cs w1) = .next (lone (b.atR a1 []) cs w1) := stepR_exit rfl
    refine ⟨s1, w1, a1, k1, Steps.trans k2 (.one hx), ⟨hi.rel.back k3, k3.below.other l _ hi.rcd rfl⟩, k6, k5⟩
  | i + 1, M, M', hle, h, s, w, hi, hrt, ρB, aB, he, hn, q0, q1, q3, b, cs => by
    have h : (match eLoad P (fun _ => .pointer (some ⟨bx, 0, none⟩)) M T (.tmp 0) with
      | none => none
      | some (sv, _) => (match bkElem P M T e sv i with
        | none => none
        | some x => (match rnd P C N assign body (putS (putS ρ (some p1) (.int .i64 (.ofNat i))) (some p2) x) M with
          | none => none
          | some M' => bkRun P C N T e p1 p2 assign body bx ρ L i M'))) = some M' := h
    split at h
    · cases h
    rename_i sv M1 hsv
    split at h
    · cases h
    rename_i x hx
    split at h
    · cases h
    rename_i M2 hrnd
    have q3' : ρB 3 = .int .i64 (.ofNat i) := by rw [q3]; congr 1; simp
    obtain ⟨s1, a1, w1, k1, k2, k3, k4, k5, k6⟩ := seg_head (P := P) (i1 := i1) (i2 := i2) (i3 := i3) (o2 := o2) (o3 := o3) (M := M) h1 q3' base s aB w b cs hi.rel.re he hn
    have hdec : decide (0 ≤ Int.ofNat i) = true := by simp
    rw [hdec] at k2 k4
    simp only [if_true] at k2
    have e0 : ∀ t, t ≠ 7 → t ≠ 8 → ((ρB.put (some 7) (ρB 3)).put (some 8) (.bool true)) t = ρB t := fun t t7 t8 => by rw [put_ne _ _ t8, put_ne _ _ t7]
    obtain ⟨ρ8, hmid, m0, m1, m3, m11, m12, m16⟩ := seg_mid (P := P) (i1 := i1) (o1 := o1) (i3 := i3) (i2 := i2) (o2 := o2) (k := [.inLoop (lpB i1 i2 i3 o1 o2 o3), .inBlock 0]) h3 (ρ := (ρB.put (some 7) (ρB 3)).put (some 8) (.bool true)) (by rw [e0 1 (by decide) (by decide)]; exact q1) (by rw [e0 3 (by decide) (by decide)]; exact q3') hsv hx
    rw [e0 0 (by decide) (by decide)] at m0 m11
    rw [e0 1 (by decide) (by decide)] at m1
    rw [e0 3 (by decide) (by decide)] at m3 m12
    obtain ⟨s2, a2, w2, j1, j2, j3, j4, j5, j6⟩ := hmid base s1 a1 w1 b cs k3.re k4 k5
    have hi2 : Inv P base ws M s2 l r w2 := ⟨(hi.rel.back k3).back j3, j3.below.other l _ (k3.below.other l _ hi.rcd rfl) rfl⟩
    obtain ⟨o, g1, g2, g3, g4⟩ := shp_get (i := 6) h3 rfl
    have h11 : a2.tmps.getD 11 undef = .func (.yield l) #[] #[] := by
      have := j4 11
      rw [m11, q0] at this
      obtain ⟨a', c', e1, e2, e3⟩ := this.func_inv
      rw [e1]
      have ea : a' = #[] := by
        have hh := e2.length
        exact Array.toList_eq_nil_iff.1 (List.length_eq_zero_iff.1 hh.symm)
      have ec : c' = #[] := by
        have hh := e3.length
        exact Array.toList_eq_nil_iff.1 (List.length_eq_zero_iff.1 hh.symm)
      rw [ea, ec]
    have hy := step_yield (P := P) (b := b) (a := a2) (rest := [7]) (k := .code (.cond (.tmp 18) .ret .skip) :: .inBlock 1 :: .code (.region i2 o2 false) :: [.inLoop (lpB i1 i2 i3 o1 o2 o3), .inBlock 0]) (cs := cs) g1 g2 g4 h11 hi2.rcd hrs
    have henv : ∀ t, VR s2 (slot (putS (putS ρ (some p1) (.int .i64 (.ofNat i))) (some p2) x) t) (((r.tmps.setIfInBounds p1 (a2.tmps.getD 12 undef)).setIfInBounds p2 (a2.tmps.getD 16 undef)).getD t undef) := by
      rw [slot_put, slot_put]
      have b1 : VR s2 (.int .i64 (.ofNat i)) (a2.tmps.getD 12 undef) := by have := j4 12; rw [m12, q3'] at this; exact this
      have b2 : VR s2 x (a2.tmps.getD 16 undef) := by have := j4 16; rw [m16] at this; exact this
      have c1 := put_env (a := { tmps := r.tmps, defers := [] }) (dst := some p1) (fun t => ((hrt t).mono k1).mono j1) (fun d hd => by obtain rfl := Option.some.inj hd; rw [hrn]; exact hp1) b1
      exact put_env (a := ({ tmps := r.tmps, defers := [] } : Act).put (some p1) (a2.tmps.getD 12 undef)) (dst := some p2) c1 (fun d hd => by obtain rfl := Option.some.inj hd; rw [put_size, hrn]; exact hp2) b2
    obtain ⟨s3, w3, n1, n2, n3⟩ := rnd_spec hC hrnd hi2 hls hlb hr hra hrb hrp henv (by simp [hrn]) (b.atR a2 (.inRegion o3 [6, 7] :: .code (.cond (.tmp 18) .ret .skip) :: .inBlock 1 :: .code (.region i2 o2 false) :: [.inLoop (lpB i1 i2 i3 o1 o2 o3), .inBlock 0])) cs
    rw [Frame.finish_atR, g1] at n2
    simp only [Option.bind_some, g3] at n2
    have he3 : ∀ t, VR s3 ((ρ8.put (some 17) (.bool true)) t) ((a2.put (some 17) (.bool true)).tmps.getD t undef) := put_env (fun t => (j4 t).mono n1) (fun d hd => by obtain rfl := Option.some.inj hd; rw [j5]; decide) (.bool true)
    obtain ⟨ρ9, htail, u0, u1, u3⟩ := seg_tail (P := P) (i1 := i1) (i2 := i2) (i3 := i3) (o1 := o1) (M := M2) h3 h2 (ρ := ρ8.put (some 17) (.bool true)) (n := (i : Int)) (by rw [put_ne _ _ (by decide), m3, q3']; rfl) (put_eq _ _ _)
    obtain ⟨s4, a4, w4, v1, v2, v3, v4, v5, v6⟩ := htail base s3 (a2.put (some 17) (.bool true)) w3 b cs n3.rel.re he3 (by rw [put_size]; exact j5)
    rw [put_ne _ _ (by decide), m0, q0] at u0
    rw [put_ne _ _ (by decide), m1, q1] at u1
    rw [fw_small (by omega) (by omega)] at u3
    obtain ⟨s5, w5, a5, x1, x2, x3, x4, x5⟩ := back_loop hC hp1 hp2 h1 h3 h2 hls hlb hr hra hrb hrp hrn hrs i M2 M' (by omega) h ⟨n3.rel.back v3, v3.below.other l _ n3.rcd rfl⟩ (fun t => ((((hrt t).mono k1).mono j1).mono n1).mono v1) v4 v5 u0 u1 u3 b cs
    refine ⟨s5, w5, a5, Inj.le_trans k1 (Inj.le_trans j1 (Inj.le_trans n1 (Inj.le_trans v1 x1))), Steps.trans k2 (Steps.trans j2 (.head hy (Steps.trans n2 (Steps.trans v2 x2)))), x3, ?_, x5⟩
    rw [x4, v6, put_defers, j6, k6]
theorem _root_.Go.Am.Rel.allocObj {G : Nat} {base : Nat → Prop} {w0 w : World} {s : Inj} {aw : AW} (h : Rel G base w0 s aw w) (o : Obj) : Rel G base w0 s aw (w.alloc o) := by
  refine ⟨h.fresh, h.mfresh, fun b B hB => ?_, h.sep, fun k hk => by have := h.hbase k hk; simp only [World.size_alloc]; omega, h.glob, h.below.alloc h.hbase o, h.maps.to rfl (Nat.le_refl _) map_alloc⟩
  obtain ⟨e, cs, fz, h1, h2, h3, h4⟩ := h.blk b B hB
  exact ⟨e, cs, fz, h1, h2, by rw [Below.heap_alloc _ _ _ (Array.getElem?_eq_some_iff.1 h3).1]; exact h3, h4⟩
theorem eLen_slice {ρ : Env} {M : Mem} {T el : TypeId} {q : Option Addr} {L c : Nat} (hT : P.underlying T = some (.slice el)) (h : ρ 4 = .slice q L c) : eOp P ρ M (.call ⟨.builtin .len, #[.tmp 4], #[T]⟩) = some (.int .i64 (.ofNat L), M) := by
  show eLen P ρ M #[T] (.tmp 4) = _
  simp [eLen, hT, okv, h]
theorem ago_back (hC : CS P C) {fB : FuncId} {T e el : TypeId} (hB : IsBack P fB T e) {N : Nat} {k : List Item} {ρ : Go.Ri.T Value} {ds : List Deferred} {M M1 M' : Mem} {R : ADone → Env → List Deferred → AW → Prop} {g : Operand} {p1 p2 : Nat} {assign body : Code} {bx L c : Nat} {q : Option Addr}
    (hg : okv P.globals.size (slot ρ) g = some (.func (.func fB) ⟨[]⟩ ⟨[.pointer (some ⟨bx, 0, none⟩)]⟩)) (hT : P.underlying T = some (.slice el))
    (hs : eLoad P (fun _ => .pointer (some ⟨bx, 0, none⟩)) M T (.tmp 0) = some (.slice q L c, M1)) (hL : L ≤ 4611686018427387904) (hp1 : p1 < N) (hp2 : p2 < N)
    (hr : bkRun P C N T e p1 p2 assign body bx ρ L L M = some M') (h : AGo P N k (slot ρ) ds M'.abs R) : AGo P N (.code (.rangeFunc g #[p1, p2] assign body) :: k) (slot ρ) ds M.abs R := by
  obtain ⟨fn, i0, i1, i2, i3, o0, o1, o2, o3, ti, tj, tk, tl, tm, tn, ts, hfn, hname, hnt, hres, hbody, h0, h1, h3, h2⟩ := hB.ex
  intro base w0 s a w b cs hst
  have hM1 : M1 = M := quiet_spec (P := P) (ρ := fun _ => .pointer (some ⟨bx, 0, none⟩)) (op := .load T (.tmp 0)) rfl hs
  subst hM1
  let b0 : Frame := { b with roundOf := none }
  have hat : ∀ (a : Act) (t : List Item), b.at a t = b0.atR a t := fun a t => (Frame.atR_of_none (b := b0) rfl a t).symm
  obtain ⟨g1, g2⟩ := okv_spec hg
  have hv := hst.eval g1
  rw [g2] at hv
  obtain ⟨a', c', e1, e2, e3⟩ := hv.func_inv
  have ea : a' = #[] := Array.toList_eq_nil_iff.1 (List.length_eq_zero_iff.1 e2.length.symm)
  subst ea
  obtain ⟨x, rfl⟩ : ∃ x, c' = #[x] := by
    have := e3.length
    rcases c' with ⟨l⟩
    match l, this with
    | [x], _ => exact ⟨x, rfl⟩
  have hx : VR s (.pointer (some ⟨bx, 0, none⟩)) x := by cases e3 with | cons h t => exact h
  let wd : World := w.alloc (.deferred (some []))
  let l : Nat := w.heap.size + 1
  let r : Loop := { state := .ready, pending := none, fn := b0.fn, tmps := a.tmps, params := #[p1, p2], assign, body, defers := w.heap.size }
  let w1 : World := wd.alloc (.loop r)
  let mk : Deferred := { target := .collected w.heap.size, args := #[] }
  have hel : (Instr.enterLoop b0.fn a.tmps #[p1, p2] assign body b0.roundOf).run P w = .ok (l, [mk]) w1 := run_enterLoop_outer ..
  have hres' : (resolve a.eval (rangeCall g l) 0).run P w1 = .ok { target := .fn (.func fB) #[x], args := #[.func (.yield l) #[] #[]] } w1 := by
    have hc : a.eval (.const (.func (.yield l) #[] #[])) = .func (.yield l) #[] #[] := rfl
    simp [resolve, rangeCall, e1, hc, Deferred.ofValue]
  have hinv : (invoke (.fn (.func fB) #[x]) #[.func (.yield l) #[] #[]]).run P w1 = .ok (.enter fB #[.func (.yield l) #[] #[], x]) w1 := by
    simp only [invoke]
    rw [run_callFunc hfn hname hbody]
    rfl
  have hs0 := stepR_rangeFunc (P := P) (b := b0) (a := a) (k := k) (cs := cs) (w := w) hel hres' hinv
  have hsz : wd.heap.size = l := by simp [wd, l]
  have hr1 : Rel P.globals.size base wd s M1.abs w1 := (hst.rel.re.allocObj _).re.allocObj _
  have hrd : w1.heap[l]? = some (.loop r) := by
    rw [← hsz]; exact World.alloc_heap_new wd _
  have hlb : ¬ base l := fun hb => by have := hst.rel.hbase l hb; simp only [l] at this; omega
  obtain ⟨henv, hnn⟩ := init_env (s := s) (args := [.func (.yield l) #[] #[], .pointer (some ⟨bx, 0, none⟩)]) (args' := [.func (.yield l) #[] #[], x]) (N := 19) (.cons (.func _ .nil .nil) (.cons hx .nil)) (by simp)
  let b2 : Frame := { (default : Frame) with fn := fB, kind := .normal, roundOf := none }
  let a2 : Act := { tmps := #[.func (.yield l) #[] #[], x] ++ Array.replicate (19 - 2) undef, defers := [] }
  have henter : Frame.enter P fB #[.func (.yield l) #[] #[], x] .normal = b2.atR a2 [.code (.seq (.region i0 o0 false) (.block 0 (.loop (lpB i1 i2 i3 o1 o2 o3))))] := by
    simp [Frame.enter, Frame.atR, hfn, hbody, hnt, b2, a2]
  have seg0 : Seg P 19 [.code (.seq (.region i0 o0 false) (.block 0 (.loop (lpB i1 i2 i3 o1 o2 o3))))] (lpH i1 i2 i3 o1 o2 o3) (Env.init [.func (.yield l) #[] #[], .pointer (some ⟨bx, 0, none⟩)])
      (((((Env.init [.func (.yield l) #[] #[], .pointer (some ⟨bx, 0, none⟩)]).put (some 4) (.slice q L c)).put (some 5) (.int .i64 (.ofNat L))).put (some 6) (.int .i64 (fw .i64 (.ofNat L - 1)))).put (some 3) (.int .i64 (fw .i64 (.ofNat L - 1)))) M1.abs M1.abs := by
    refine (Seg.one fun _ _ _ _ => stepR_seq).trans ?_
    refine (Seg.regionN (shp_size h0)).trans ?_
    refine (Seg.shp (N := 19) (i := 0) (rest := [1, 2, 3]) h0 rfl (by decide) (fun c => by simp) (v := .slice q L c) (M' := M1) ?_).trans ?_
    · show eLoad P _ M1 T (.tmp 1) = _
      rw [← hs]; exact eLoad_eq rfl
    refine (Seg.shp (N := 19) (i := 1) (rest := [2, 3]) h0 rfl (by decide) (fun c => by simp) (M' := M1) (eLen_slice hT (put_eq _ _ _))).trans ?_
    refine (Seg.shp (N := 19) (i := 2) (rest := [3]) h0 rfl (by decide) (fun c => by simp) (M' := M1) (eBin_sub (n := .ofNat L) (put_eq _ _ _) _)).trans ?_
    refine (Seg.shp (N := 19) (i := 3) (rest := []) h0 rfl (by decide) (fun c => by simp) (v := .int .i64 (fw .i64 (.ofNat L - 1))) (M' := M1) ?_).trans ?_
    · show some _ = some _
      rw [put_eq]
    refine Seg.regionEnd.trans ?_
    exact (Seg.one fun _ _ _ _ => stepR_block).trans (Seg.one fun _ _ _ _ => stepR_loop)
  obtain ⟨s1, a3, w2, k1, k2, k3, k4, k5, k6⟩ := seg0 base s a2 w1 b2 (b0.atR { a with defers := [mk] ++ a.defers } (.inRangeFunc l :: k) :: cs) hr1.re henv hnn
  obtain ⟨s2, w3, a4, j1, j2, j3, j4, j5⟩ := back_loop hC hp1 hp2 h1 h3 h2 (Nat.le_of_eq hsz) hlb rfl rfl rfl rfl hst.size rfl L M1 M' hL hr ⟨hr1.back k3, k3.below.other l _ hrd rfl⟩ (fun t => (hst.env t).mono k1) k4 k5
    (by simp only [Env.put_some]; rfl) (by simp only [Env.put_some]; rfl) (by rw [put_eq, fw_small (by have : (0 : Int) ≤ Int.ofNat L := Int.natCast_nonneg L; omega) (by have : Int.ofNat L = (L : Int) := rfl; omega)]; rfl) b2 (b0.atR { a with defers := [mk] ++ a.defers } (.inRangeFunc l :: k) :: cs)
  have hs1 : step P (lone (b2.atR a4 []) (b0.atR { a with defers := [mk] ++ a.defers } (.inRangeFunc l :: k) :: cs) w3) = .next (lone { b2.atR a4 [] with mode := .returning } _ w3) := stepR_end rfl
  obtain ⟨v', hv1, _⟩ := ares_0 (P := P) (N := 19) (ρ := fun _ => undef) (aw := M'.abs) hres base wd s2 (Array.replicate 19 undef) w3 j3.rel (fun t => by
    have : (Array.replicate 19 undef).getD t undef = undef := by simp [Array.getD]
    rw [this]; exact VR.undef) (by simp)
  have hlv : Frame.leaving P { b2.atR a4 [] with mode := .returning } w3 (.returned v') := by
    refine ⟨rfl, by show a4.defers = []; rw [j4, k6], rfl, fn, hfn, ?_⟩
    have hi : ∀ t1 t2, results fn t1 = results fn t2 := fun t1 t2 => by unfold results; rw [hres]; simp
    rw [hi _ (Array.replicate 19 undef)]
    exact hv1
  have hs2 := step_leave_returned (c := b0.atR { a with defers := [mk] ++ a.defers } (.inRangeFunc l :: k)) (cs := cs) hlv
  rw [finish_atR_inRangeFunc] at hs2
  have hend := run_endLoop (P := P) j3.rcd (by simp [r])
  have hs3 := stepR_endRangeFunc (P := P) (b := b0) (a := { a with defers := [mk] ++ a.defers }) (k := k) (cs := cs) hend
  have hr4 : Rel P.globals.size base wd s2 M'.abs (w3.putObj l (.loop { r with state := .exhausted })) := j3.rel.putObj j3.rcd rfl (Nat.le_of_eq hsz) hlb _
  have hwd : Keep base w wd := (Keep.refl base w).alloc hst.rel.hbase _
  have hold : ∀ (r' : Nat) (o : Obj), wd.heap[r']? = some o → sto o = false → (w3.putObj l (.loop { r with state := .exhausted })).heap[r']? = some o := fun r' o ho hc => hr4.below.other r' o ho hc
  have hst4 : St P.globals.size base w0 s2 (slot ρ) N ds M'.abs { a with defers := [mk] ++ a.defers } (w3.putObj l (.loop { r with state := .exhausted })) := by
    refine ⟨?_, fun t => ((hst.env t).mono k1).mono j1, hst.size, .mark _ ((hst.dfr.mono k1).mono j1), ?_, ?_⟩
    · exact ⟨hr4.fresh, hr4.mfresh, hr4.blk, hr4.sep, hr4.hbase, hr4.glob, (hst.rel.below.trans hwd).trans hr4.below, hr4.maps⟩
    · intro r' hr'
      have hr' : r' ∈ w.heap.size :: marks a.defers := hr'
      rcases List.mem_cons.1 hr' with rfl | hr'
      · refine ⟨⟨hst.rel.below.size, fun hb => Nat.lt_irrefl _ (hst.rel.hbase _ hb)⟩, hold _ _ (World.alloc_heap_new w _) rfl⟩
      · obtain ⟨m1, m2⟩ := hst.mrk r' hr'
        exact ⟨m1, hold _ _ (hwd.other r' _ m2 rfl) rfl⟩
    · show (w.heap.size :: marks a.defers).Nodup
      refine List.nodup_cons.2 ⟨fun hm => ?_, hst.nd⟩
      have := (Array.getElem?_eq_some_iff.1 (hst.mrk _ hm).2).1
      omega
  obtain ⟨m, t', a5, w5, q1, s5, d5, ρ5, ds5, aw5, q2, q3⟩ := h base w0 s2 _ _ b cs hst4
  refine ⟨m, t', a5, w5, ?_, s5, d5, ρ5, ds5, aw5, Inj.le_trans k1 (Inj.le_trans j1 q2), q3⟩
  rw [hat]
  refine .head hs0 ?_
  rw [henter]
  refine Steps.trans k2 (Steps.trans j2 (.head hs1 (.head hs2 (.head hs3 ?_))))
  rw [hat] at q1
  exact q1
end
end Go.Ri
set_option linter.unusedSimpArgs false
set_option linter.unusedVariables false
set_option linter.unusedSectionVars false
namespace Go.Ri
open Go Go.Am Go.RowKit
variable [SymE]
variable [FT] [FTok]
def dCells {H : Type} : Nat → DataW H → Option (List Value)
  | 0, _ => none
  | n + 1, d => match d with
    | .lit (.int k m) => some [.int k m]
    | .lit (.string l) => some [.string ⟨⟨l⟩⟩]
    | .lit (.bool b) => some [.bool b]
    | .agg ds => all n ds
    | _ => none
where
  all {H : Type} (n : Nat) : List (DataW H) → Option (List Value)
  | [] => some []
  | d :: r => match dCells n d, all n r with
    | some a, some b => some (a ++ b)
    | _, _ => none
noncomputable def mem0 (G : Nat) (l : List (Nat × List Value × TypeId)) : Mem := ⟨List.rec (motive := fun _ => T (Option RB)) .leaf (fun p _ ih => T.dn ih fun t => T.set (some ⟨T.ofL p.2.1 0 .leaf, p.2.1.length, p.2.2, 0, false, 0⟩) t p.1) l, G, .leaf⟩
end Go.Ri
set_option linter.unusedSimpArgs false
set_option linter.unusedVariables false
set_option linter.unusedSectionVars false
namespace Go.Ri
open Go Go.Am Go.RowKit
variable [SymE]
variable [FT] [FTok]
theorem _root_.Go.Am.Rel.later {G : Nat} {base : Nat → Prop} {w0 w w' : World} {s : Inj} {aw : AW} (h : Rel G base w0 s aw w) (hb : Keep (· < w.heap.size) w w') : Rel G base w0 s aw w' where
  fresh := h.fresh
  mfresh := h.mfresh
  blk b B hB := by
    obtain ⟨e, cs, fz, h1, h2, h3, h4⟩ := h.blk b B hB
    refine ⟨e, cs, fz, h1, h2, ?_, h4⟩
    rw [hb.block _ (Array.getElem?_eq_some_iff.1 h3).1]
    exact h3
  sep := h.sep
  hbase := fun k hk => Nat.lt_of_lt_of_le (h.hbase k hk) hb.size
  glob := h.glob
  below := h.below.trans (hb.mono h.hbase)
  maps := h.maps.to rfl (Nat.le_refl _) fun k xs ck hk => by
    rw [hb.block k (Array.getElem?_eq_some_iff.1 hk).1]; exact hk
theorem plain_ER {s t : Inj} {v : Value} {e : Ending} (hp : plain v = true) (h : ER s (.returned v) e) : ER t (.returned v) e := by
  cases h with
  | returned h =>
    have := VR.eq_of_plain h hp
    subst this
    exact .returned (VR.ofPlain hp)
end Go.Ri
namespace Go.Ri
open Go Go.Am Go.RowKit
variable [SymE]
theorem mem0_abs {G : Nat} : ∀ (l : List (Nat × List Value × TypeId)) (b : Nat) (B : Blk), (mem0 G l).abs.m b = some B → ∃ p ∈ l, p.1 = b ∧ B = ⟨p.2.1, p.2.2, 0, false, 0⟩
  | [], b, B, h => by
    have : (mem0 G []).abs.m b = none := by simp [Mem.abs, Mem.at, mem0, T.get_leaf]
    rw [this] at h; cases h
  | p :: l, b, B, h => by
    have hbl : (mem0 G (p :: l)).bl = T.set (some ⟨T.ofL p.2.1 0 .leaf, p.2.1.length, p.2.2, 0, false, 0⟩) (mem0 G l).bl p.1 := by
      rfl
    simp only [Mem.abs, Mem.at, hbl, T.get_set] at h
    by_cases hb : b = p.1
    · rw [if_pos hb] at h
      simp only [Option.map_some, Option.some.injEq] at h
      refine ⟨p, by simp, hb.symm, ?_⟩
      rw [← h]
      simp only [RB.abs, Blk.mk.injEq, and_true]
      apply List.ext_getElem?
      intro k
      simp only [List.getElem?_map]
      rcases Nat.lt_or_ge k p.2.1.length with hk | hk
      · rw [List.getElem?_range hk]
        simp only [Option.map_some, T.get_ofL]
        rw [if_pos (by omega), Nat.sub_zero, List.getElem?_eq_getElem hk]; rfl
      · rw [List.getElem?_eq_none (by simp; omega), List.getElem?_eq_none hk]; rfl
    · rw [if_neg hb] at h
      obtain ⟨q, hq, h1, h2⟩ := mem0_abs l b B h
      exact ⟨q, by simp [hq], h1, h2⟩
end Go.Ri
set_option linter.unusedSimpArgs false
set_option linter.unusedVariables false
set_option linter.unusedSectionVars false
namespace Go.Ri
open Go Go.Am Go.RowKit
noncomputable def cellsD {H : Type} (P : Program) : Nat → TypeId → DataW H → Option (List Value)
  | 0, _, _ => none
  | m + 1, t, d => match P.underlying t, d with
    | some .bool, .lit (.bool b) => some [.bool b]
    | some (.int k), .lit (.int k' n) => if k' = k then some [.int k n] else none
    | some .string, .lit (.string l) => some [.string ⟨⟨l⟩⟩]
    | some (.array n e), .agg ds => if ds.length = n ∧ P.cellsOf t = n * P.cellsOf e then all m e ds else none
    | _, _ => none
where
  all {H : Type} (m : Nat) (e : TypeId) : List (DataW H) → Option (List Value)
  | [] => some []
  | d :: r => match cellsD P m e d, all m e r with
    | some a, some b => if a.length = P.cellsOf e then some (a ++ b) else none
    | _, _ => none
theorem cellsD_spec {H : Type} {enc : TypeId × Value → H} {P : Program} {w : World} {base : Nat} {spare : Nat → Bool} {held : Bool} : ∀ {m fuel : Nat} {t : TypeId} {d : DataW H} {l cs : List Value} {p : List MemPlace}, cellsD P m t d = some l →
    DataW.trod enc P w base spare held fuel t cs = some (d, p) → cs = l
  | 0, _, _, _, _, _, _, h, _ => by simp [cellsD] at h
  | m + 1, fuel, t, d, l, cs, p, h, hd => by
    unfold cellsD at h
    split at h
    · rename_i b hu
      simp only [Option.some.injEq] at h; subst h
      obtain ⟨b', rfl, e⟩ := DataW.trod_bool hu hd
      simp only [Prod.mk.injEq, DataW.lit.injEq, Lit.bool.injEq] at e
      rw [e.1]
    · rename_i k k' n hu
      split at h
      · rename_i hk; subst hk
        simp only [Option.some.injEq] at h; subst h
        obtain ⟨b', rfl, e, _⟩ := DataW.trod_int hu hd
        simp only [Prod.mk.injEq, DataW.lit.injEq, Lit.int.injEq, true_and] at e
        rw [e.1]
      · cases h
    · rename_i s hu
      simp only [Option.some.injEq] at h; subst h
      obtain ⟨b', rfl, e, _⟩ := DataW.trod_string hu hd
      simp only [Prod.mk.injEq, DataW.lit.injEq, Lit.string.injEq] at e
      rw [e.1]
    · rename_i n e ds hu
      split at h
      · rename_i hn
        obtain ⟨hn1, hn2⟩ := hn
        obtain ⟨xs, q, rfl, hx, hlen, hxn, hel⟩ := DataW.trod_array hu hd
        simp only [Prod.mk.injEq, DataW.agg.injEq] at hx
        have key : ∀ (ds : List (DataW H)) (cs l : List Value), (∀ i d, ds[i]? = some d → ∃ p, DataW.trod enc P w base spare held q e ((cs.drop (i * P.cellsOf e)).take (P.cellsOf e)) = some (d, p)) → cs.length = ds.length * P.cellsOf e →
            cellsD.all P m e ds = some l → cs = l := by
          intro ds
          induction ds with
          | nil =>
            intro cs l _ hl ha
            simp only [cellsD.all, Option.some.injEq] at ha
            simp at hl
            rw [← ha, hl]
          | cons d r ih =>
            intro cs l hh hl ha
            rw [cellsD.all] at ha
            split at ha
            · rename_i a b h1 h2
              split at ha
              · rename_i hal
                simp only [Option.some.injEq] at ha
                subst ha
                obtain ⟨p0, e0⟩ := hh 0 d rfl
                simp only [Nat.zero_mul, List.drop_zero] at e0
                have ea := cellsD_spec h1 e0
                have eb := ih (cs.drop (P.cellsOf e)) b (fun i d' hd' => by
                  obtain ⟨p', e'⟩ := hh (i + 1) d' (by simpa using hd')
                  rw [Nat.add_mul, Nat.one_mul, Nat.add_comm, ← List.drop_drop] at e'
                  exact ⟨p', e'⟩) (by rw [List.length_drop, hl, List.length_cons, Nat.add_mul]; omega) h2
                rw [← ea, ← eb, List.take_append_drop]
              · cases ha
            · cases ha
        refine key ds cs l (fun i d' hd' => ?_) (by rw [hlen, hn2, hn1]) h
        have hi : i < n := by
          have := (List.getElem?_eq_some_iff.1 hd').1
          omega
        have := hel i hi
        rw [hx.1, List.getElem?_map] at hd'
        cases hxi : xs[i]? with
        | none => rw [hxi] at hd'; cases hd'
        | some x =>
          rw [hxi] at hd' this
          simp only [Option.map_some, Option.some.injEq] at hd'
          obtain ⟨x1, x2⟩ := x
          simp only at hd'
          subst hd'
          exact ⟨x2, this⟩
      · cases h
    · cases h
variable [SymE]
theorem laid_cells {P : Program} {W : World} {L : List (String × DataW Unit)} {ps : List MemPlace} (hL : DataW.LaidVars P W L ps) {n : String} {d : DataW Unit} (hm : (n, d) ∈ L) {g t m : Nat} {cells : List Value}
    (hg : P.globalNamed n = some g) (ht : (P.globals[g]?).map (·.type) = some t) (hc : cellsD P m t d = some cells) : ∃ t1 cs fz, W.heap[g]? = some (.cells cs t1 fz) ∧ cs.toList = cells := by
  obtain ⟨g', t', cs, fuel, p, h1, h2, h3, h4⟩ := laid_get hL n d hm
  obtain rfl := Option.some.inj (hg.symm.trans h1)
  obtain rfl := Option.some.inj (ht.symm.trans h2)
  obtain ⟨t1, fz, h5⟩ := var_heap hg h3
  exact ⟨t1, cs, fz, h5, cellsD_spec hc h4⟩
theorem rel_mem0 {G : Nat} {W : World} {l : List (Nat × List Value × TypeId)} (h : ∀ p ∈ l, p.1 < G ∧ (∃ cs fz, W.heap[p.1]? = some (.cells cs p.2.2 fz) ∧ cs.toList = p.2.1) ∧ plains p.2.1 = true) :
    Rel G (· < W.heap.size) W (inj0 G W []) (mem0 G l).abs W := by
  have r := rel_start G W []
  refine ⟨r.fresh, fun b hb => ?_, fun b B hB => ?_, fun b1 b2 B1 B2 e1 e2 _ hB1 _ _ _ hrw => ?_, r.hbase, r.glob, r.below, Maps.none fun b => T.get_leaf b⟩
  · cases hB : (mem0 G l).abs.m b with
    | none => rfl
    | some B =>
      obtain ⟨p, hp, rfl, _⟩ := mem0_abs l b B hB
      have := (h p hp).1
      have hb' : G ≤ p.1 := hb
      omega
  · obtain ⟨p, hp, rfl, rfl⟩ := mem0_abs l b B hB
    obtain ⟨h1, ⟨cs, fz, h2, h3⟩, h4⟩ := h p hp
    have hsz : cs.size = csz W p.1 := by simp [csz, h2]
    have hl : cs.size = p.2.1.length := by rw [← h3]; simp
    refine ⟨⟨p.1, 0, csz W p.1, 0⟩, cs, fz, by simp [inj0, h1], ⟨rfl, (fun h => by cases h), fun _ => ⟨rfl, by simp only; omega⟩⟩, h2, hsz, by simp only; omega, fun i v hi => ⟨v, ?_, ?_⟩, fun h => by cases h⟩
    · simp only at hi ⊢
      rw [Nat.zero_add, ← hi, ← h3]; simp
    · refine VR.ofPlain ?_
      have key : ∀ (l : List Value) (i : Nat), plains l = true → l[i]? = some v → plain v = true := by
        intro l
        induction l with
        | nil => intro i _ h; simp at h
        | cons x l ih =>
          intro i hp h
          simp only [plains, Bool.and_eq_true] at hp
          cases i with
          | zero => simp at h; subst h; exact hp.1
          | succ i => exact ih i hp.2 (by simpa using h)
      exact key _ i h4 hi
  · obtain ⟨p, hp, rfl, rfl⟩ := mem0_abs l b1 B1 hB1
    cases hrw
structure Facts where
  bins : List (BinOp × Value × Value × Value) := []
  uns : List (UnOp × Value × Value) := []
  convs : List (IntKind × Value × Value) := []
  lens : List (Value × Value) := []
noncomputable def lookB (l : List (BinOp × Value × Value × Value)) (op : BinOp) (u w : Value) : Option Value := List.rec (motive := fun _ => Option Value) none
  (fun e _ ih => bif decide (e.1 = op) && (vEq 2 e.2.1 u && vEq 2 e.2.2.1 w) then some e.2.2.2 else ih) l
noncomputable def lookU (l : List (UnOp × Value × Value)) (op : UnOp) (u : Value) : Option Value := List.rec (motive := fun _ => Option Value) none
  (fun e _ ih => bif decide (e.1 = op) && vEq 2 e.2.1 u then some e.2.2 else ih) l
noncomputable def lookC (l : List (IntKind × Value × Value)) (j : IntKind) (u : Value) : Option Value := List.rec (motive := fun _ => Option Value) none
  (fun e _ ih => bif decide (e.1 = j) && vEq 2 e.2.1 u then some e.2.2 else ih) l
noncomputable def lookL (l : List (Value × Value)) (u : Value) : Option Value := List.rec (motive := fun _ => Option Value) none
  (fun e _ ih => bif vEq 2 e.1 u then some e.2 else ih) l
@[reducible] noncomputable def ftOf (F : Facts) : FT := { bin := lookB F.bins, un := lookU F.uns, conv := lookC F.convs, len := lookL F.lens }
theorem lookB_spec {op : BinOp} {u w v : Value} : ∀ {l : List (BinOp × Value × Value × Value)}, lookB l op u w = some v → (op, u, w, v) ∈ l
  | [], h => by cases h
  | (op', u', w', v') :: l, h => by
    have h : (bif decide (op' = op) && (vEq 2 u' u && vEq 2 w' w) then some v' else lookB l op u w) = some v := h
    cases hb : decide (op' = op) && (vEq 2 u' u && vEq 2 w' w) with
    | true =>
      rw [hb] at h
      simp only [cond_true, Option.some.injEq] at h
      simp only [Bool.and_eq_true, decide_eq_true_eq] at hb
      rw [hb.1, vEq_spec _ _ _ hb.2.1, vEq_spec _ _ _ hb.2.2, h]
      exact List.mem_cons_self ..
    | false =>
      rw [hb] at h
      exact List.mem_cons_of_mem _ (lookB_spec h)
theorem lookU_spec {op : UnOp} {u v : Value} : ∀ {l : List (UnOp × Value × Value)}, lookU l op u = some v → (op, u, v) ∈ l
  | [], h => by cases h
  | (op', u', v') :: l, h => by
    have h : (bif decide (op' = op) && vEq 2 u' u then some v' else lookU l op u) = some v := h
    cases hb : decide (op' = op) && vEq 2 u' u with
    | true =>
      rw [hb] at h
      simp only [cond_true, Option.some.injEq] at h
      simp only [Bool.and_eq_true, decide_eq_true_eq] at hb
      rw [hb.1, vEq_spec _ _ _ hb.2, h]
      exact List.mem_cons_self ..
    | false =>
      rw [hb] at h
      exact List.mem_cons_of_mem _ (lookU_spec h)
theorem lookC_spec {op : IntKind} {u v : Value} : ∀ {l : List (IntKind × Value × Value)}, lookC l op u = some v → (op, u, v) ∈ l
  | [], h => by cases h
  | (op', u', v') :: l, h => by
    have h : (bif decide (op' = op) && vEq 2 u' u then some v' else lookC l op u) = some v := h
    cases hb : decide (op' = op) && vEq 2 u' u with
    | true =>
      rw [hb] at h
      simp only [cond_true, Option.some.injEq] at h
      simp only [Bool.and_eq_true, decide_eq_true_eq] at hb
      rw [hb.1, vEq_spec _ _ _ hb.2, h]
      exact List.mem_cons_self ..
    | false =>
      rw [hb] at h
      exact List.mem_cons_of_mem _ (lookC_spec h)
theorem lookL_spec {u v : Value} : ∀ {l : List (Value × Value)}, lookL l u = some v → (u, v) ∈ l
  | [], h => by cases h
  | (u', v') :: l, h => by
    have h : (bif vEq 2 u' u then some v' else lookL l u) = some v := h
    cases hb : vEq 2 u' u with
    | true =>
      rw [hb] at h
      simp only [cond_true, Option.some.injEq] at h
      rw [vEq_spec _ _ _ hb, h]
      exact List.mem_cons_self ..
    | false =>
      rw [hb] at h
      exact List.mem_cons_of_mem _ (lookL_spec h)
noncomputable def conv0 (j : IntKind) : Value → Option Value
  | .int _ m => some (.int j (fw j m))
  | _ => none
noncomputable def len0 : Value → Option Value
  | .string ⟨⟨l⟩⟩ => some (.int .i64 (.ofNat l.length))
  | _ => none
structure Facts.ok (F : Facts) : Prop where
  bins : ∀ e ∈ F.bins, bin0 e.1 (den e.2.1) (den e.2.2.1) = some (den e.2.2.2)
  uns : ∀ e ∈ F.uns, un0 e.1 (den e.2.1) = some (den e.2.2)
  convs : ∀ e ∈ F.convs, conv0 e.1 (den e.2.1) = some (den e.2.2)
  lens : ∀ e ∈ F.lens, len0 (den e.1) = some (den e.2)
theorem ftOk {F : Facts} (h : F.ok) : @FTok _ (ftOf F) := @FTok.mk _ (ftOf F)
  (fun op u w v hl => h.bins _ (lookB_spec hl))
  (fun op u v hl => h.uns _ (lookU_spec hl))
  (fun j u v hl => by
    have := h.convs _ (lookC_spec hl)
    simp only at this
    unfold conv0 at this
    split at this
    · rename_i k m he
      simp only [Option.some.injEq] at this
      exact ⟨k, m, he, this.symm⟩
    · cases this)
  (fun u v hl => by
    have := h.lens _ (lookL_spec hl)
    simp only at this
    unfold len0 at this
    split at this
    · rename_i l he
      simp only [Option.some.injEq] at this
      exact ⟨l, he, this.symm⟩
    · cases this)
  (fun _ _ _ h => by cases h) (fun _ _ _ _ h => by cases h) (fun _ _ _ h => by cases h)
noncomputable def retB : Option (AEnd × Mem) → Bool
  | some (.returned (.bool b), _) => b
  | _ => false
theorem retB_some {x : Option (AEnd × Mem)} (h : retB x = true) : ∃ M', x = some (.returned (.bool true), M') := by
  unfold retB at h
  split at h
  · rename_i b M'
    subst h; exact ⟨M', rfl⟩
  · cases h
end Go.Ri
set_option linter.unusedSimpArgs false
set_option linter.unusedVariables false
set_option linter.unusedSectionVars false
namespace Go.Ri
open Go Go.Am Go.RowKit
variable [SymE]
theorem args_in {P : Program} {H : Type} {enc : TypeId × Value → H} {W : World} {l : List TypeId} (hl : okTypes P l = true) {ts : List TypeId} {vs : List Value} {ds : List (DataW H)} {ps : List MemPlace} (hts : (ts.all fun t => l.contains t) = true)
    (hA : DataW.TrodAll enc P W 0 (fun _ => true) true ts vs ds ps) (hw : (DataW.weightsEach P ts ds).all (· ≤ reachBytes) = true)
    (hv : ∀ (j : Nat) t v, ts[j]? = some t → vs[j]? = some v → ∃ base, Value.okWide P W .any base t v) : ∃ (s : Inj) (aw : AW) (vs' : List Value), ArgsIn P aw ts vs' ∧ VRs s vs' vs := by
  have r0 : Rel P.globals.size (· < W.heap.size) W (inj0 P.globals.size W []) (mem0 P.globals.size []).abs W := rel_mem0 (l := []) (fun p hp => by cases hp)
  obtain ⟨s', aw', vs', _, _, _, _, h5, h6⟩ := open_args hl ts vs ds ps hts hA hw hv _ _ r0 (fun c C hc => by
    obtain ⟨p, hp, _⟩ := mem0_abs [] c C hc
    cases hp)
  exact ⟨s', aw', vs', h6, h5⟩
end Go.Ri
