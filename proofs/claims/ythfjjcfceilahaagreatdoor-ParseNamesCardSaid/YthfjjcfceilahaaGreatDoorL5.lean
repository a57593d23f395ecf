/- The library of this claim, part 5: values alike, an abstract memory, operations, regions, an interpreter that the kernel runs. -/
import Derived.Test.YthfjjcfceilahaaGreatDoorL4
set_option linter.unusedSimpArgs false
set_option linter.unusedVariables false
set_option linter.unusedSectionVars false
namespace Go.Am
open Go Go.RowKit
variable [SymE]
structure Hp (aw0 : AW) (own : List Nat) (ro : List (Nat × Blk)) (aw : AW) (l : List (Nat × Blk)) : Prop where
  nd : (l.map (·.1)).Nodup
  at_ : ∀ p ∈ l, aw.m p.1 = some p.2 ∧ p.1 < aw.next
  mine : ∀ p ∈ l, p.1 ∈ own ∨ aw0.next ≤ p.1
  le : aw0.next ≤ aw.next
  keep : ∀ b, b < aw0.next → b ∉ own → aw.m b = aw0.m b
  ro_ : ∀ p ∈ ro, aw0.m p.1 = some p.2 ∧ p.1 < aw0.next ∧ p.1 ∉ own
  rok : ∀ b B, aw.m b = some B → B.rw = false → ∃ B0, aw0.m b = some B0 ∧ B0.rw = false
inductive At : List (Nat × Blk) → Nat → Blk → Prop
  | here {l : List (Nat × Blk)} {b : Nat} {B : Blk} : At ((b, B) :: l) b B
  | there {x : Nat × Blk} {l : List (Nat × Blk)} {b : Nat} {B : Blk} (h : At l b B) : At (x :: l) b B
theorem At.mem {l : List (Nat × Blk)} {b : Nat} {B : Blk} (h : At l b B) : (b, B) ∈ l := by
  induction h with
  | here => simp
  | there _ ih => exact List.mem_cons_of_mem _ ih
inductive Up : List (Nat × Blk) → Nat → Blk → Blk → List (Nat × Blk) → Prop
  | here {l : List (Nat × Blk)} {b : Nat} {B B' : Blk} : Up ((b, B) :: l) b B B' ((b, B') :: l)
  | there {x : Nat × Blk} {l l' : List (Nat × Blk)} {b : Nat} {B B' : Blk} (h : Up l b B B' l') : Up (x :: l) b B B' (x :: l')
inductive Out : List (Nat × Blk) → Nat → Blk → List (Nat × Blk) → Prop
  | here {l : List (Nat × Blk)} {b : Nat} {B : Blk} : Out ((b, B) :: l) b B l
  | there {x : Nat × Blk} {l l' : List (Nat × Blk)} {b : Nat} {B : Blk} (h : Out l b B l') : Out (x :: l) b B (x :: l')
theorem Up.at_ {l l' : List (Nat × Blk)} {b : Nat} {B B' : Blk} (h : Up l b B B' l') : At l b B := by
  induction h with
  | here => exact .here
  | there _ ih => exact .there ih
theorem Up.ids {l l' : List (Nat × Blk)} {b : Nat} {B B' : Blk} (h : Up l b B B' l') : l'.map (·.1) = l.map (·.1) := by
  induction h with
  | here => rfl
  | there _ ih => simp [ih]
theorem Up.get {l l' : List (Nat × Blk)} {b : Nat} {B B' : Blk} (h : Up l b B B' l') (hn : (l.map (·.1)).Nodup) : ∀ p ∈ l', p = (b, B') ∨ (p ∈ l ∧ p.1 ≠ b) := by
  induction h with
  | here =>
    rename_i l b B B'
    intro p hp
    simp only [List.map_cons, List.nodup_cons] at hn
    rcases List.mem_cons.1 hp with rfl | hp
    · exact .inl rfl
    · exact .inr ⟨List.mem_cons_of_mem _ hp, fun h => hn.1 (h ▸ List.mem_map.2 ⟨p, hp, rfl⟩)⟩
  | there h ih =>
    rename_i x l l' b B B'
    intro p hp
    simp only [List.map_cons, List.nodup_cons] at hn
    rcases List.mem_cons.1 hp with rfl | hp
    · exact .inr ⟨by simp, fun he => hn.1 (he ▸ List.mem_map.2 ⟨_, h.at_.mem, rfl⟩)⟩
    · rcases ih hn.2 p hp with h | ⟨h1, h2⟩
      · exact .inl h
      · exact .inr ⟨List.mem_cons_of_mem _ h1, h2⟩
theorem Out.at_ {l l' : List (Nat × Blk)} {b : Nat} {B : Blk} (h : Out l b B l') : At l b B := by
  induction h with
  | here => exact .here
  | there _ ih => exact .there ih
theorem Out.get {l l' : List (Nat × Blk)} {b : Nat} {B : Blk} (h : Out l b B l') (hn : (l.map (·.1)).Nodup) : (l'.map (·.1)).Nodup ∧ ∀ p ∈ l', p ∈ l ∧ p.1 ≠ b := by
  induction h with
  | here =>
    rename_i l b B
    simp only [List.map_cons, List.nodup_cons] at hn
    exact ⟨hn.2, fun p hp => ⟨List.mem_cons_of_mem _ hp, fun h => hn.1 (h ▸ List.mem_map.2 ⟨p, hp, rfl⟩)⟩⟩
  | there h ih =>
    rename_i x l l' b B
    simp only [List.map_cons, List.nodup_cons] at hn ⊢
    obtain ⟨i1, i2⟩ := ih hn.2
    refine ⟨⟨fun hx => hn.1 ?_, i1⟩, fun p hp => ?_⟩
    · obtain ⟨p, hp, he⟩ := List.mem_map.1 hx
      exact List.mem_map.2 ⟨p, (i2 p hp).1, he⟩
    · rcases List.mem_cons.1 hp with rfl | hp
      · exact ⟨by simp, fun he => hn.1 (he ▸ List.mem_map.2 ⟨_, h.at_.mem, rfl⟩)⟩
      · exact ⟨List.mem_cons_of_mem _ (i2 p hp).1, (i2 p hp).2⟩
inductive Put : List Value → Nat → List Value → List Value → Prop
  | nil {r : List Value} : Put r 0 [] r
  | cons {c v : Value} {r r' vs : List Value} (h : Put r 0 vs r') : Put (c :: r) 0 (v :: vs) (v :: r')
  | skip {c : Value} {r r' vs : List Value} {i : Nat} (h : Put r i vs r') : Put (c :: r) (i + 1) vs (c :: r')
section
variable {aw0 aw : AW} {own : List Nat} {ro l l' : List (Nat × Blk)} {b i n off size : Nat} {B B' : Blk} {v p : Value} {k : IntKind} {cs cs' : List Value}
theorem Hp.m (M : Hp aw0 own ro aw l) (h : At l b B) : aw.m b = some B := (M.at_ _ h.mem).1
theorem Hp.r (M : Hp aw0 own ro aw l) (h : At ro b B) : aw.m b = some B := by
  obtain ⟨h1, h2, h3⟩ := M.ro_ _ h.mem
  rw [M.keep _ h2 h3]; exact h1
theorem Hp.init (hn : (l.map (·.1)).Nodup) (ha : ∀ p ∈ l, aw.m p.1 = some p.2 ∧ p.1 < aw.next) (hr : ∀ p ∈ ro, aw.m p.1 = some p.2 ∧ p.1 < aw.next ∧ p.1 ∉ l.map (·.1)) : Hp aw (l.map (·.1)) ro aw l :=
  ⟨hn, ha, fun p hp => .inl (List.mem_map.2 ⟨p, hp, rfl⟩), Nat.le_refl _, fun _ _ _ => rfl, hr, fun b B h1 h2 => ⟨B, h1, h2⟩⟩
theorem get_m (h : aw.m b = some B) (hc : B.cells[i]? = some v) : aw.get b i = some v := by simp [AW.get, h, hc]
theorem setN_m : ∀ (vs : List Value) (aw : AW) (b i c : Nat), (aw.setN b i vs).m c = if c = b then (aw.m b).map fun B => { B with cells := (List.range vs.length).foldl (fun cs j => cs.set (i + j) (vs.getD j undef)) B.cells } else aw.m c := by
  intro vs
  induction vs with
  | nil => intro aw b i c; simp [AW.setN]; intro h; subst h; cases aw.m c <;> rfl
  | cons v vs ih =>
    intro aw b i c
    rw [AW.setN, ih]
    simp only [AW.set]
    split
    · rename_i h
      simp only [if_true, Option.map_map]
      congr 1
      funext B
      simp only [Function.comp, List.length_cons]
      congr 1
      rw [List.range_succ_eq_map, List.foldl_cons, List.foldl_map]
      simp only [Nat.add_zero, List.getD_cons_zero]
      congr 1
      funext cs j
      simp only [List.getD_cons_succ]
      congr 1
      omega
    · rfl
theorem setN_next (vs : List Value) : ∀ (aw : AW) (b i : Nat), (aw.setN b i vs).next = aw.next := by
  induction vs with
  | nil => intros; rfl
  | cons v vs ih => intro aw b i; rw [AW.setN, ih]; rfl
theorem Put.fold {cs vs cs' : List Value} {i : Nat} (h : Put cs i vs cs') : (List.range vs.length).foldl (fun cs j => cs.set (i + j) (vs.getD j undef)) cs = cs' := by
  induction h with
  | nil => rfl
  | cons h ih =>
    rename_i c v r r' vs
    rw [List.length_cons, List.range_succ_eq_map, List.foldl_cons, List.foldl_map]
    simp only [Nat.zero_add, List.getD_cons_zero, List.set_cons_zero]
    have key : ∀ (l : List Nat) (x : List Value), l.foldl (fun cs j => cs.set (j + 1) ((v :: vs).getD (j + 1) undef)) (v :: x) = v :: l.foldl (fun cs j => cs.set j (vs.getD j undef)) x := by
      intro l
      induction l with
      | nil => intro x; rfl
      | cons a l ihl => intro x; simp only [List.foldl_cons, List.set_cons_succ, List.getD_cons_succ]; exact ihl _
    rw [key]
    have e : (fun (cs : List Value) (j : Nat) => cs.set j (vs.getD j undef)) = fun cs j => cs.set (0 + j) (vs.getD j undef) := by funext cs j; rw [Nat.zero_add]
    rw [e, ih]
  | skip h ih =>
    rename_i c r r' vs i
    have key : ∀ (l : List Nat) (x : List Value), l.foldl (fun cs j => cs.set (i + 1 + j) (vs.getD j undef)) (c :: x) = c :: l.foldl (fun cs j => cs.set (i + j) (vs.getD j undef)) x := by
      intro l
      induction l with
      | nil => intro x; rfl
      | cons a l ihl =>
        intro x
        simp only [List.foldl_cons]
        rw [show i + 1 + a = (i + a) + 1 by omega, List.set_cons_succ]
        exact ihl _
    rw [key, ih]
theorem Put.len {cs vs cs' : List Value} {i : Nat} (h : Put cs i vs cs') : i + vs.length ≤ cs.length := by
  induction h with
  | nil => simp
  | cons _ ih => simp at ih ⊢; omega
  | skip _ ih => simp at ih ⊢; omega
theorem Hp.set (M : Hp aw0 own ro aw l) (hp : Put B.cells i cs cs') (hu : Up l b B ⟨cs', B.elem, B.esz, B.rw, B.fz⟩ l') : Hp aw0 own ro (aw.setN b i cs) l' := by
  have hb := M.m hu.at_
  have hmine := M.mine _ hu.at_.mem
  refine ⟨hu.ids ▸ M.nd, fun p hp' => ?_, fun p hp' => ?_, by rw [setN_next]; exact M.le, fun c hc hne => ?_, M.ro_, fun c C h1 h2 => ?_⟩
  · rw [setN_m, setN_next]
    rcases hu.get M.nd p hp' with rfl | ⟨h1, h2⟩
    · simp only [if_true, hb, Option.map_some, hp.fold]
      exact ⟨trivial, (M.at_ _ hu.at_.mem).2⟩
    · rw [if_neg h2]; exact M.at_ p h1
  · rcases hu.get M.nd p hp' with rfl | ⟨h1, h2⟩
    · exact hmine
    · exact M.mine p h1
  · rw [setN_m, if_neg, M.keep c hc hne]
    rintro rfl
    rcases hmine with h | h
    · exact hne h
    · exact absurd hc (by simp at h; omega)
  · rw [setN_m] at h1
    split at h1
    · rename_i e
      subst e
      rw [hb] at h1
      simp only [Option.map_some, Option.some.injEq] at h1
      subst h1
      exact M.rok _ _ hb h2
    · exact M.rok _ _ h1 h2
theorem Hp.alloc (M : Hp aw0 own ro aw l) (elem esz : Nat) : Hp aw0 own ro (aw.alloc cs elem esz) ((aw.next, ⟨cs, elem, esz, true, 0⟩) :: l) := by
  refine ⟨?_, fun p hp => ?_, fun p hp => ?_, Nat.le_succ_of_le M.le, fun c hc hne => ?_, M.ro_, fun c C h1 h2 => ?_⟩
  · simp only [List.map_cons, List.nodup_cons]
    refine ⟨fun h => ?_, M.nd⟩
    obtain ⟨p, hp, he⟩ := List.mem_map.1 h
    exact absurd (M.at_ p hp).2 (by rw [he]; exact Nat.lt_irrefl _)
  · rcases List.mem_cons.1 hp with rfl | hp
    · simp [AW.alloc]
    · obtain ⟨h1, h2⟩ := M.at_ p hp
      simp only [AW.alloc]
      rw [if_neg (by omega)]
      exact ⟨h1, by omega⟩
  · rcases List.mem_cons.1 hp with rfl | hp
    · exact .inr M.le
    · exact M.mine p hp
  · simp only [AW.alloc]
    rw [if_neg (by have := M.le; omega)]
    exact M.keep c hc hne
  · simp only [AW.alloc] at h1
    split at h1
    · simp only [Option.some.injEq] at h1
      subst h1; cases h2
    · exact M.rok _ _ h1 h2
theorem Hp.kill (M : Hp aw0 own ro aw l) (hu : Out l b B l') : Hp aw0 own ro (aw.kill b) l' := by
  obtain ⟨h1, h2⟩ := hu.get M.nd
  refine ⟨h1, fun p hp => ?_, fun p hp => M.mine p (h2 p hp).1, M.le, fun c hc hne => ?_, M.ro_, fun c C g1 g2 => ?_⟩
  · simp only [AW.kill]
    rw [if_neg (h2 p hp).2]
    exact M.at_ p (h2 p hp).1
  · simp only [AW.kill]
    rw [if_neg, M.keep c hc hne]
    rintro rfl
    rcases M.mine _ hu.at_.mem with h | h
    · exact hne h
    · exact absurd hc (by simp at h; omega)
  · simp only [AW.kill] at g1
    split at g1
    · cases g1
    · exact M.rok _ _ g1 g2
theorem Hp.drop (M : Hp aw0 own ro aw l) (hu : Out l b B l') : Hp aw0 own ro aw l' := by
  obtain ⟨h1, h2⟩ := hu.get M.nd
  exact ⟨h1, fun p hp => M.at_ p (h2 p hp).1, fun p hp => M.mine p (h2 p hp).1, M.le, M.keep, M.ro_, M.rok⟩
theorem Hp.perm (M : Hp aw0 own ro aw l) (h : l.Perm l') : Hp aw0 own ro aw l' :=
  ⟨(h.map _).nodup_iff.1 M.nd, fun p hp => M.at_ p (h.mem_iff.2 hp), fun p hp => M.mine p (h.mem_iff.2 hp), M.le, M.keep, M.ro_, M.rok⟩
theorem Out.perm {l l' : List (Nat × Blk)} (h : Out l b B l') : l.Perm ((b, B) :: l') := by
  induction h with
  | here => exact List.Perm.refl _
  | there _ ih => exact (List.Perm.cons _ ih).trans (List.Perm.swap _ _ _)
theorem Hp.call {aw' : AW} {l1 l2 l1' ro' : List (Nat × Blk)} (M : Hp aw0 own ro aw (l1 ++ l2)) (C : Hp aw (l1.map (·.1)) ro' aw' l1') : Hp aw0 own ro aw' (l1' ++ l2) := by
  have hnd := M.nd
  rw [List.map_append, List.nodup_append] at hnd
  refine ⟨?_, fun p hp => ?_, fun p hp => ?_, Nat.le_trans M.le C.le, fun c hc hne => ?_, M.ro_, fun b B h1 h2 => (by
    obtain ⟨B1, g1, g2⟩ := C.rok b B h1 h2
    exact M.rok b B1 g1 g2)⟩
  · rw [List.map_append, List.nodup_append]
    refine ⟨C.nd, hnd.2.1, fun x hx y hy => ?_⟩
    obtain ⟨p, hp, rfl⟩ := List.mem_map.1 hx
    obtain ⟨q, hq, rfl⟩ := List.mem_map.1 hy
    rcases C.mine p hp with h | h
    · exact hnd.2.2 _ h _ (List.mem_map.2 ⟨q, hq, rfl⟩)
    · have := (M.at_ q (List.mem_append.2 (.inr hq))).2
      omega
  · rcases List.mem_append.1 hp with hp | hp
    · exact C.at_ p hp
    · obtain ⟨h1, h2⟩ := M.at_ p (List.mem_append.2 (.inr hp))
      rw [C.keep _ h2 (fun h => hnd.2.2 _ h _ (List.mem_map.2 ⟨p, hp, rfl⟩) rfl)]
      exact ⟨h1, Nat.lt_of_lt_of_le h2 C.le⟩
  · rcases List.mem_append.1 hp with hp | hp
    · rcases C.mine p hp with h | h
      · obtain ⟨q, hq, he⟩ := List.mem_map.1 h
        have := M.mine q (List.mem_append.2 (.inl hq))
        rw [he] at this; exact this
      · exact .inr (Nat.le_trans M.le h)
    · exact M.mine p (List.mem_append.2 (.inr hp))
  · rw [C.keep c (Nat.lt_of_lt_of_le hc M.le), M.keep c hc hne]
    intro h
    obtain ⟨q, hq, he⟩ := List.mem_map.1 h
    rcases M.mine q (List.mem_append.2 (.inl hq)) with h | h
    · exact hne (he ▸ h)
    · rw [he] at h; omega
inductive In (aw : AW) (b : Nat) (B : Blk) : Prop
  | mk (h : aw.m b = some B)
theorem Hp.im (M : Hp aw0 own ro aw l) (h : At l b B) : In aw b B := ⟨M.m h⟩
inductive Cell : List Value → Nat → Value → Prop
  | here {v : Value} {r : List Value} : Cell (v :: r) 0 v
  | there {c v : Value} {r : List Value} {i : Nat} (h : Cell r i v) : Cell (c :: r) (i + 1) v
theorem Cell.get {cs : List Value} {i : Nat} {v : Value} (h : Cell cs i v) : cs[i]? = some v := by
  induction h with
  | here => rfl
  | there _ ih => simpa using ih
theorem In.get (h : In aw b B) (hc : Cell B.cells i v) : aw.get b i = some v := get_m h.1 hc.get
theorem fldA_x {K : Value → Prop} (h : K (.pointer (some ⟨b, i + off, none⟩))) : fldA (.pointer (some ⟨b, i, none⟩)) off K := ⟨b, i, _, rfl, rfl, h⟩
theorem ptr_x {K : Nat → Nat → Prop} (h : K b i) : ptr (.pointer (some ⟨b, i, none⟩)) K := ⟨b, i, rfl, h⟩
theorem ldI_x {K : Int → Prop} {n : Int} (hi : In aw b B) (hc : Cell B.cells i (.int k n)) (h : K n) : ldI k aw (.pointer (some ⟨b, i, none⟩)) K := ⟨b, i, n, rfl, hi.get hc, h⟩
theorem ldS_x {K : ByteArray → Prop} {n : ByteArray} (hi : In aw b B) (hc : Cell B.cells i (.string n)) (h : K n) : ldS aw (.pointer (some ⟨b, i, none⟩)) K := ⟨b, i, n, rfl, hi.get hc, h⟩
theorem ldV_x {K : Value → Prop} {n : Value} (hi : In aw b B) (hc : Cell B.cells i n) (h : K n) : ldV aw (.pointer (some ⟨b, i, none⟩)) K := ⟨b, i, n, rfl, hi.get hc, h⟩
theorem gI_x {K : Int → Prop} {n : Int} (hi : In aw b B) (hc : Cell B.cells i (.int k n)) (h : K n) : gI k aw b i K := ⟨n, hi.get hc, h⟩
theorem gS_x {K : ByteArray → Prop} {n : ByteArray} (hi : In aw b B) (hc : Cell B.cells i (.string n)) (h : K n) : gS aw b i K := ⟨n, hi.get hc, h⟩
theorem gV_x {K : Value → Prop} {n : Value} (hi : In aw b B) (hc : Cell B.cells i n) (h : K n) : gV aw b i K := ⟨n, hi.get hc, h⟩
theorem st_x {K : AW → Prop} (M : Hp aw0 own ro aw l) (hu : Up l b B ⟨cs', B.elem, B.esz, true, 0⟩ l') (hp : Put B.cells i cs cs') (hrw : B.rw = true) (hfz : B.fz = 0) (ho : cs.all one = true)
    (h : ∀ aw', Hp aw0 own ro aw' l' → K aw') : st aw (.pointer (some ⟨b, i, none⟩)) cs K := by
  obtain ⟨cells, elem, esz, rw, fz⟩ := B
  simp only at hrw hfz hp hu
  subst hrw; subst hfz
  exact ⟨b, i, _, rfl, ⟨_, M.m hu.at_, rfl, hp.len, rfl⟩, ho, rfl, h _ (M.set hp hu)⟩
theorem alc_x {K : Value → AW → Prop} {t e : Nat} (M : Hp aw0 own ro aw l) (h : ∀ b aw', Hp aw0 own ro aw' ((b, ⟨cs, t, e, true, 0⟩) :: l) → K (.pointer (some ⟨b, 0, none⟩)) aw') : alc aw cs t e K := ⟨_, _, rfl, rfl, h _ _ (M.alloc t e)⟩
theorem alcS_x {K : Value → AW → Prop} {t e n : Nat} (M : Hp aw0 own ro aw l) (h : ∀ b aw', Hp aw0 own ro aw' ((b, ⟨cs, t, e, true, 0⟩) :: l) → K (.slice (some ⟨b, 0, none⟩) n n) aw') : alcS aw cs t e n K := ⟨_, _, rfl, rfl, h _ _ (M.alloc t e)⟩
theorem slen_x {K : Int → Prop} {q : Option Addr} {n c : Nat} (h : K (n : Int)) : slen (.slice q n c) K := ⟨q, n, c, _, rfl, rfl, h⟩
theorem ixS_x {K : Value → Prop} {n c : Nat} {j : Int} (h0 : 0 ≤ j) (h1 : j < n) (h : K (.pointer (some ⟨b, i + j.toNat * size, none⟩))) : ixS (.slice (some ⟨b, i, none⟩) n c) j size K := ⟨b, i, n, c, _, rfl, h0, h1, rfl, h⟩
theorem cnd_1x {q : Bool} {X Y : Prop} (hb : q = true) (h : X) : cnd q X Y := by subst hb; exact ⟨fun _ => h, (fun h' => Bool.noConfusion h')⟩
theorem cnd_0x {q : Bool} {X Y : Prop} (hb : q = false) (h : Y) : cnd q X Y := by subst hb; exact ⟨(fun h' => Bool.noConfusion h'), fun _ => h⟩
end
end Go.Am
set_option linter.unusedSimpArgs false
set_option linter.unusedVariables false
set_option linter.unusedSectionVars false
namespace Go.Am
open Go Go.RowKit
variable [SymE]
section
universe u
variable {α : Type u} {aw0 aw : AW} {own : List Nat} {ro l l' : List (Nat × Blk)} {b i n c k m off size el bytes : Nat} {B B' : Blk} {v p xv : Value} {cs os : List Value}
theorem getN_m (h : aw.m b = some B) : ∀ {n i : Nat}, i + n ≤ B.cells.length → aw.getN b i n = some ((B.cells.drop i).take n)
  | 0, i, _ => by simp [AW.getN]
  | n + 1, i, hl => by
    have hi : i < B.cells.length := by omega
    have e : aw.get b i = some B.cells[i] := by simp [AW.get, h, hi]
    simp only [AW.getN, e, getN_m h (n := n) (i := i + 1) (by omega), Option.map_some]
    rw [List.drop_eq_getElem_cons hi, List.take_succ_cons]
inductive Seg : List Value → Nat → Nat → List Value → Prop
  | nil {r : List Value} : Seg r 0 0 []
  | take {c : Value} {r s : List Value} {n : Nat} (h : Seg r 0 n s) : Seg (c :: r) 0 (n + 1) (c :: s)
  | drop {c : Value} {r s : List Value} {i n : Nat} (h : Seg r i n s) : Seg (c :: r) (i + 1) n s
theorem Seg.spec {r s : List Value} {i n : Nat} (h : Seg r i n s) : i + n ≤ r.length ∧ (r.drop i).take n = s := by
  induction h with
  | nil => simp
  | take _ ih => simp at ih ⊢; exact ⟨by omega, ih.2⟩
  | drop _ ih => simp at ih ⊢; exact ⟨by omega, ih.2⟩
theorem src_x (hi : In aw b B) (hl : i + n * size ≤ B.cells.length) (hc : (B.cells.drop i).take (n * size) = cs) : Src aw size (.slice (some ⟨b, i, none⟩) n c) n cs := by
  subst hc; exact .slice (getN_m hi.1 hl)
theorem src_s (hi : In aw b B) (hm : n * size = m) (h : Seg B.cells i m cs) : Src aw size (.slice (some ⟨b, i, none⟩) n c) n cs := by
  obtain ⟨h1, h2⟩ := h.spec
  subst hm
  exact src_x hi h1 h2
theorem app_nil {K : Value → AW → Prop} (M : Hp aw0 own ro aw l) (hs : Src aw size xv n cs) (h0 : 0 < n) (hb : (2 * n + 768) * bytes ≤ 2 ^ 48)
    (h : ∀ b aw', Hp aw0 own ro aw' ((b, ⟨cs, el, size, true, 0⟩) :: l) → K (.slice (some ⟨b, 0, none⟩) n UNK) aw') : app aw el size bytes (.slice none 0 0) xv K := by
  have := App.grows (el := el) (bytes := bytes) (q := none) (l := 0) (c := 0) (aw := aw) (xv := xv) (.nil) hs (by unfold UNK; omega) (by omega) (by simpa using hb)
  rw [List.nil_append, Nat.zero_add] at this
  exact ⟨_, _, this, h _ _ (M.alloc el size)⟩
theorem app_mv {K : Value → AW → Prop} (M : Hp aw0 own ro aw l) (ho : Out l b ⟨os, el, size, true, 0⟩ l') (hn : n * size ≤ os.length) (hs : Src aw size xv k cs) (h1 : cs.all one = true) (hb : (2 * (n + k) + 768) * bytes ≤ 2 ^ 48)
    (h : ∀ b aw', Hp aw0 own ro aw' ((b, ⟨os.take (n * size) ++ cs, el, size, true, 0⟩) :: l') → K (.slice (some ⟨b, 0, none⟩) (n + k) UNK) aw') : app aw el size bytes (.slice (some ⟨b, 0, none⟩) n UNK) xv K := by
  have hB := M.m ho.at_
  have hg : aw.getN b 0 (n * size) = some (os.take (n * size)) := by
    rw [getN_m hB (by simpa using hn)]; simp
  exact ⟨_, _, .moves hg hs (Nat.le_refl _) hB rfl rfl rfl rfl h1 hb, h _ _ ((M.kill ho).alloc el size)⟩
inductive SlP (el size : Nat) : Value → Nat → List Value → List (Nat × Blk) → Prop
  | nil : SlP el size (.slice none 0 0) 0 [] []
  | some {b n : Nat} {os : List Value} (h : n * size ≤ os.length) : SlP el size (.slice (some ⟨b, 0, none⟩) n UNK) n os [(b, ⟨os, el, size, true, 0⟩)]
theorem SlP.len {L : List (Nat × Blk)} (h : SlP el size v n os L) : n * size ≤ os.length := by
  cases h with
  | nil => simp
  | some h => exact h
theorem SlP.val {L : List (Nat × Blk)} (h : SlP el size v n os L) : ∃ q c, v = .slice q n c := by
  cases h with
  | nil => exact ⟨_, _, rfl⟩
  | some h => exact ⟨_, _, rfl⟩
theorem app_p {L : List (Nat × Blk)} {K : Value → AW → Prop} (hp : SlP el size v n os L) (M : Hp aw0 own ro aw (L ++ l)) (hs : Src aw size xv k cs) (h0 : 0 < k) (h1 : cs.all one = true) (hb : (2 * (n + k) + 768) * bytes ≤ 2 ^ 48)
    (h : ∀ b aw', Hp aw0 own ro aw' ((b, ⟨os.take (n * size) ++ cs, el, size, true, 0⟩) :: l) → K (.slice (some ⟨b, 0, none⟩) (n + k) UNK) aw') : app aw el size bytes v xv K := by
  cases hp with
  | nil =>
    refine app_nil M hs h0 (by rw [Nat.zero_add] at hb; exact hb) fun b aw' M => ?_
    have := h b aw' (by simpa using M)
    rwa [Nat.zero_add] at this
  | some hl => exact app_mv M .here hl hs h1 hb h
end
end Go.Am
set_option linter.unusedVariables false
set_option linter.unusedSimpArgs false
namespace Go.Ri
open Go Go.Am
@[reducible] def symOf (l : List (IntKind × Int)) : SymE := ⟨fun i => .int (l.getD i (.i64, 0)).1 (l.getD i (.i64, 0)).2, fun i => .inl ⟨_, _, rfl⟩⟩
end Go.Ri
