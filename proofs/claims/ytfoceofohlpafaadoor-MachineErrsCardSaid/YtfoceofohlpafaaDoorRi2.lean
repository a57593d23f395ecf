/- The interpreter: its memory, its values. -/
import Derived.Test.YtfoceofohlpafaaDoorRi1
set_option linter.unusedSimpArgs false
set_option linter.unusedVariables false
set_option linter.unusedSectionVars false
namespace Go.Ri
open Go Go.Am Go.RowKit
variable [SymE]

structure RB where
  cells : T Value
  len : Nat
  elem : TypeId
  esz : Nat
  rw : Bool
structure Mem where
  bl : T (Option RB)
  next : Nat
noncomputable def RB.abs (b : RB) : Blk := ⟨(List.range b.len).map fun i => (b.cells.get i).getD undef, b.elem, b.esz, b.rw, 0⟩
noncomputable def Mem.at (M : Mem) (b : Nat) : Option RB := match M.bl.get b with
  | some x => x
  | none => none
noncomputable def Mem.abs (M : Mem) : AW := ⟨fun b => (M.at b).map RB.abs, M.next⟩
theorem RB.abs_len (b : RB) : b.abs.cells.length = b.len := by simp [RB.abs]
theorem RB.abs_get (b : RB) {i : Nat} {v : Value} (hi : i < b.len) (h : b.cells.get i = some v) : b.abs.cells[i]? = some v := by
  simp [RB.abs, hi, h]
theorem Mem.abs_m (M : Mem) {b : Nat} {B : RB} (h : M.at b = some B) : M.abs.m b = some B.abs := by simp [Mem.abs, h]

/-! reading -/
noncomputable def RB.getN (B : RB) (n : Nat) : Nat → Option (List Value) := Nat.rec (motive := fun _ => Nat → Option (List Value)) (fun _ => some [])
  (fun _ ih i => match B.cells.get i with
    | none => none
    | some v => match ih (Nat.succ i) with
      | none => none
      | some l => some (v :: l)) n
theorem RB.getN_zero (B : RB) (i : Nat) : B.getN 0 i = some [] := rfl
theorem RB.getN_succ (B : RB) (n i : Nat) : B.getN (n + 1) i = match B.cells.get i with
    | none => none
    | some v => match B.getN n (i + 1) with
      | none => none
      | some l => some (v :: l) := rfl
theorem RB.getN_spec {M : Mem} {b : Nat} {B : RB} (hB : M.at b = some B) : ∀ {n i : Nat} {l : List Value}, i + n ≤ B.len → B.getN n i = some l → M.abs.getN b i n = some l
  | 0, i, l, _, h => by rw [RB.getN_zero] at h; exact h
  | n + 1, i, l, hl, h => by
    rw [RB.getN_succ] at h
    cases hc : B.cells.get i with
    | none => rw [hc] at h; cases h
    | some v =>
      rw [hc] at h
      simp only at h
      cases hr : B.getN n (i + 1) with
      | none => rw [hr] at h; cases h
      | some r =>
        rw [hr] at h
        simp only [Option.some.injEq] at h
        subst h
        refine Am.getN_cons ?_ (RB.getN_spec hB (by omega) hr)
        rw [AW.get, M.abs_m hB]
        exact B.abs_get (by omega) hc
noncomputable def Mem.get (M : Mem) (b i : Nat) : Option Value := match M.at b with
  | none => none
  | some B => bif Nat.blt i B.len then B.cells.get i else none
noncomputable def Mem.getN (M : Mem) (b i n : Nat) : Option (List Value) := match M.at b with
  | none => none
  | some B => bif Nat.ble (i + n) B.len then B.getN n i else none
theorem Mem.get_spec {M : Mem} {b i : Nat} {v : Value} (h : M.get b i = some v) : M.abs.get b i = some v := by
  unfold Mem.get at h
  cases hB : M.at b with
  | none => rw [hB] at h; cases h
  | some B =>
    rw [hB] at h
    simp only [cond_eq_ite, Nat.blt_eq] at h
    split at h
    · rename_i hi
      rw [AW.get, M.abs_m hB]; exact B.abs_get hi h
    · cases h
theorem Mem.getN_spec {M : Mem} {b i n : Nat} {l : List Value} (h : M.getN b i n = some l) : M.abs.getN b i n = some l := by
  unfold Mem.getN at h
  cases hB : M.at b with
  | none => rw [hB] at h; cases h
  | some B =>
    rw [hB] at h
    simp only [cond_eq_ite, Nat.ble_eq] at h
    split at h
    · rename_i hi
      exact RB.getN_spec hB hi h
    · cases h

/-! writing -/
/-- a block in place, done at once -/
noncomputable def Mem.put (M : Mem) (b : Nat) (B : Option RB) : Mem := match T.set B M.bl b with
  | .leaf => M
  | .node x y z => ⟨.node x y z, M.next⟩
theorem Mem.put_eq (M : Mem) (b : Nat) (B : Option RB) : M.put b B = ⟨T.set B M.bl b, M.next⟩ := by
  unfold Mem.put
  cases h : T.set B M.bl b with
  | leaf => exact absurd h (T.set_ne_leaf _ _ _)
  | node x y z => rfl
theorem Mem.at_put (M : Mem) (b c : Nat) (B : Option RB) : (M.put b B).at c = if c = b then B else M.at c := by
  rw [Mem.put_eq]
  unfold Mem.at
  rw [T.get_set]
  by_cases h : c = b
  · rw [if_pos h, if_pos h]
  · rw [if_neg h, if_neg h]
theorem Mem.put_next (M : Mem) (b : Nat) (B : Option RB) : (M.put b B).next = M.next := by rw [Mem.put_eq]
noncomputable def Mem.setN (M : Mem) (b i : Nat) (vs : List Value) : Option Mem := match M.at b with
  | none => none
  | some B => bif B.rw && (Nat.ble (i + vs.length) B.len && vs.all one) then (match T.ofL vs i B.cells with
      | .leaf => none
      | .node x y z => some (M.put b (some ⟨.node x y z, B.len, B.elem, B.esz, true⟩))) else none
theorem putL_get : ∀ (vs cs : List Value) (i k : Nat), i + vs.length ≤ cs.length → (putL cs i vs)[k]? = if i ≤ k ∧ k < i + vs.length then vs[k - i]? else cs[k]?
  | [], cs, i, k, _ => by rw [if_neg (by simp)]; rfl
  | v :: vs, cs, i, k, h => by
    simp only [List.length_cons] at h
    show (putL (cs.set i v) (i + 1) vs)[k]? = _
    rw [putL_get vs (cs.set i v) (i + 1) k (by simp; omega)]
    simp only [List.length_cons]
    by_cases e : k = i
    · subst e
      rw [if_neg (by omega), if_pos (by omega)]
      simp [List.getElem?_set_self (show k < cs.length by omega)]
    · rw [List.getElem?_set_ne (fun x => e x.symm)]
      by_cases h : i ≤ k ∧ k < i + (vs.length + 1)
      · rw [if_pos h, if_pos (by omega)]
        obtain ⟨d, hd⟩ : ∃ d, k - i = d + 1 := ⟨k - i - 1, by omega⟩
        rw [hd, List.getElem?_cons_succ, show k - (i + 1) = d by omega]
      · rw [if_neg h, if_neg (by omega)]
theorem putL_length : ∀ (vs cs : List Value) (i : Nat), (putL cs i vs).length = cs.length
  | [], cs, i => rfl
  | v :: vs, cs, i => by
    show (putL (cs.set i v) (i + 1) vs).length = _
    rw [putL_length vs]; simp
theorem Mem.setN_spec {M M' : Mem} {b i : Nat} {vs : List Value} (h : M.setN b i vs = some M') : M'.abs = M.abs.setN b i vs ∧ M.abs.wr b i vs.length ∧ vs.all one = true := by
  unfold Mem.setN at h
  cases hB : M.at b with
  | none => rw [hB] at h; cases h
  | some B =>
    rw [hB] at h
    simp only [cond_eq_ite, Bool.and_eq_true, Nat.ble_eq] at h
    split at h
    · rename_i hc
      obtain ⟨h1, h2, h3⟩ := hc
      cases ht : T.ofL vs i B.cells with
      | leaf => rw [ht] at h; cases h
      | node x y z =>
        rw [ht] at h
        simp only [Option.some.injEq] at h
        subst h
        rw [← ht]
        refine ⟨?_, ⟨B.abs, M.abs_m hB, h1, by rw [B.abs_len]; exact h2, Nat.zero_le _⟩, h3⟩
        rw [setN_lay vs (M.abs_m hB)]
        refine AW.ext' ?_ (by simp [Mem.abs, Mem.put_next])
        funext c
        simp only [Mem.abs, AW.lay, Mem.at_put]
        by_cases hc : c = b
        · subst hc
          simp only [if_true, Option.map_some, Option.some.injEq]
          simp only [RB.abs, Blk.mk.injEq, and_true, true_and, h1]
          apply List.ext_getElem?
          intro k
          rw [putL_get _ _ _ _ (by simp; exact h2)]
          simp only [List.getElem?_map]
          rcases Nat.lt_or_ge k B.len with hk | hk
          · rw [List.getElem?_range hk]
            simp only [Option.map_some, T.get_ofL]
            by_cases hr : i ≤ k ∧ k < i + vs.length
            · rw [if_pos hr, if_pos hr, List.getElem?_eq_getElem (by omega)]; rfl
            · rw [if_neg hr, if_neg hr]
          · rw [List.getElem?_eq_none (by simp; omega), if_neg (by omega)]; rfl
        · simp [hc]
    · cases h
noncomputable def Mem.alloc (M : Mem) (cs : List Value) (el esz : Nat) : Mem := match T.set (some (⟨T.ofL cs 0 .leaf, cs.length, el, esz, true⟩ : RB)) M.bl M.next with
  | .leaf => M
  | .node x y z => ⟨.node x y z, Nat.succ M.next⟩
theorem Mem.alloc_eq (M : Mem) (cs : List Value) (el esz : Nat) : M.alloc cs el esz = ⟨T.set (some (⟨T.ofL cs 0 .leaf, cs.length, el, esz, true⟩ : RB)) M.bl M.next, M.next + 1⟩ := by
  unfold Mem.alloc
  generalize hB : (some (⟨T.ofL cs 0 .leaf, cs.length, el, esz, true⟩ : RB)) = B
  cases h : T.set B M.bl M.next with
  | leaf => exact absurd h (T.set_ne_leaf _ _ _)
  | node x y z => rfl
theorem Mem.alloc_spec (M : Mem) (cs : List Value) (el esz : Nat) : (M.alloc cs el esz).abs = M.abs.alloc cs el esz := by
  rw [Mem.alloc_eq]
  refine AW.ext' ?_ rfl
  funext c
  show Option.map RB.abs (Mem.at _ c) = if c = M.next then some ⟨cs, el, esz, true, 0⟩ else Option.map RB.abs (M.at c)
  unfold Mem.at
  simp only [T.get_set]
  by_cases hc : c = M.next
  · subst hc
    simp only [if_true, Option.map_some, Option.some.injEq]
    simp only [RB.abs, Blk.mk.injEq, and_true]
    apply List.ext_getElem?
    intro k
    simp only [List.getElem?_map]
    rcases Nat.lt_or_ge k cs.length with hk | hk
    · rw [List.getElem?_range hk]
      simp only [Option.map_some, T.get_ofL]
      rw [if_pos (by omega), Nat.sub_zero, List.getElem?_eq_getElem hk]; rfl
    · rw [List.getElem?_eq_none (by simp; omega), List.getElem?_eq_none hk]; rfl
  · simp only [if_neg hc]
noncomputable def Mem.kill (M : Mem) (b : Nat) : Mem := M.put b none
theorem Mem.kill_spec (M : Mem) (b : Nat) : (M.kill b).abs = M.abs.kill b := by
  refine AW.ext' ?_ (by simp [Mem.abs, Mem.kill, Mem.put_next])
  funext c
  simp only [Mem.abs, Mem.kill, AW.kill, Mem.at_put]
  by_cases hc : c = b
  · simp [hc]
  · simp [hc]

/-! slots -/
noncomputable def slot (ρ : T Value) (t : Nat) : Value := Option.rec (motive := fun _ => Value) undef (fun v => v) (T.get ρ t)
noncomputable def envOf (ρ : T Value) : Env := fun t => slot ρ t
noncomputable def okv (G : Nat) (ρ : Env) : Operand → Option Value
  | .tmp t => some (ρ t)
  | .const v => bif plain v then some v else none
  | .global g => bif Nat.blt g G then some (.pointer (some ⟨g, 0, none⟩)) else none
  | .func f => some (.func (.func f) #[] #[])
theorem okv_spec {G : Nat} {ρ : Env} {x : Operand} {v : Value} (h : okv G ρ x = some v) : okOpd G x = true ∧ ρ.eval x = v := by
  cases x with
  | tmp t => simp only [okv, Option.some.injEq] at h; exact ⟨rfl, h⟩
  | const u =>
    simp only [okv, cond_eq_ite] at h
    split at h
    · rename_i hp; simp only [Option.some.injEq] at h; exact ⟨hp, h⟩
    · cases h
  | global g =>
    simp only [okv, cond_eq_ite, Nat.blt_eq] at h
    split at h
    · rename_i hp; simp only [Option.some.injEq] at h; exact ⟨by simp [okOpd, hp], h⟩
    · cases h
  | func f => simp only [okv, Option.some.injEq] at h; exact ⟨rfl, h⟩
noncomputable def okvs (G : Nat) (ρ : Env) : List Operand → Option (List Value) := List.rec (motive := fun _ => Option (List Value)) (some [])
  fun x _ ih => match okv G ρ x with
    | none => none
    | some v => match ih with
      | none => none
      | some l => some (v :: l)
theorem okvs_spec {G : Nat} {ρ : Env} : ∀ {xs : List Operand} {l : List Value}, okvs G ρ xs = some l → xs.all (okOpd G) = true ∧ xs.map ρ.eval = l
  | [], l, h => by
    have h : some [] = some l := h
    simp only [Option.some.injEq] at h; subst h; exact ⟨rfl, rfl⟩
  | x :: xs, l, h => by
    have h : (match okv G ρ x with
      | none => none
      | some v => match okvs G ρ xs with
        | none => none
        | some l => some (v :: l)) = some l := h
    cases hx : okv G ρ x with
    | none => rw [hx] at h; cases h
    | some v =>
      rw [hx] at h
      simp only at h
      cases hr : okvs G ρ xs with
      | none => rw [hr] at h; cases h
      | some r =>
        rw [hr] at h
        simp only [Option.some.injEq] at h
        subst h
        obtain ⟨a1, a2⟩ := okv_spec hx
        obtain ⟨b1, b2⟩ := okvs_spec hr
        exact ⟨by simp [a1]; simpa using b1, by simp [a2, b2]⟩
/-- a slot is written; the table is done at once -/
noncomputable def putS (ρ : T Value) (d : Option Tmp) (v : Value) : T Value := match d with
  | none => ρ
  | some t => T.set v ρ t
theorem putS_spec (ρ : T Value) (d : Option Tmp) (v : Value) : envOf (putS ρ d v) = (envOf ρ).put d v := by
  cases d with
  | none => rfl
  | some t =>
    rw [Env.put_some]
    funext k
    simp only [putS, envOf, slot, T.get_set]
    by_cases h : k = t
    · rw [if_pos h, if_pos h]
    · rw [if_neg h, if_neg h]

/-! values, done: what goes on gets a value that is worked out -/
section
variable {R : Type}
noncomputable def doN (n : Nat) (k : Nat → R) : R := Nat.rec (motive := fun _ => R) (k 0) (fun m _ => k (Nat.succ m)) n
theorem doN_eq (n : Nat) (k : Nat → R) : doN n k = k n := by cases n <;> rfl
noncomputable def doI (n : Int) (k : Int → R) : R := match n with
  | .ofNat m => doN m fun m => k (.ofNat m)
  | .negSucc m => doN m fun m => k (.negSucc m)
theorem doI_eq (n : Int) (k : Int → R) : doI n k = k n := by cases n <;> simp [doI, doN_eq]
noncomputable def doL {α : Type} (l : List α) : (List α → R) → R := List.rec (motive := fun _ => (List α → R) → R) (fun k => k []) (fun a _ ih k => ih fun r => k (a :: r)) l
theorem doL_eq {α : Type} : ∀ (l : List α) (k : List α → R), doL l k = k l
  | [], k => rfl
  | a :: l, k => doL_eq l fun r => k (a :: r)
noncomputable def doV (v : Value) (k : Value → R) : R := match v with
  | .bool b => (match b with | true => k (.bool true) | false => k (.bool false))
  | .int q n => doI n fun n => k (.int q n)
  | .pointer (some ⟨b, o, none⟩) => doN b fun b => doN o fun o => k (.pointer (some ⟨b, o, none⟩))
  | .slice (some ⟨b, o, none⟩) l c => doN b fun b => doN o fun o => doN l fun l => doN c fun c => k (.slice (some ⟨b, o, none⟩) l c)
  | .string ⟨⟨l⟩⟩ => doL l fun l => k (.string ⟨⟨l⟩⟩)
  | .agg ⟨l⟩ => doL l fun l => k (.agg ⟨l⟩)
  | .tuple ⟨l⟩ => doL l fun l => k (.tuple ⟨l⟩)
  | .func fn ⟨a⟩ ⟨c⟩ => doL a fun a => doL c fun c => k (.func fn ⟨a⟩ ⟨c⟩)
  | v => k v
theorem doV_eq (v : Value) (k : Value → R) : doV v k = k v := by
  unfold doV
  split
  · rename_i b; cases b <;> rfl
  all_goals simp only [doN_eq, doI_eq, doL_eq]
end
end Go.Ri
