/- The library of this claim, part 5: values alike, an abstract memory, operations, regions, an interpreter that the kernel runs. -/
import Derived.Test.YtfgihmgeplcfoaaGreatDoorL4
set_option linter.unusedSimpArgs false
set_option linter.unusedVariables false
set_option linter.unusedSectionVars false
namespace Go.Am
open Go Go.RowKit
variable [SymE]
structure Hp (aw0 : AW) (own : List Nat) (ro : List (Nat × Blk)) (aw : AW) (l : List (Nat × Blk)) : Prop where
  nd : (l.map (·.1)).Nodup
  at_ : ∀ p ∈ l, aw.m p.1 = some p.2 ∧ p.1 < aw.next
  mine : ∀ p ∈ l, p.1 ∈ own ∨ aw0.next ≤ p.1
  le : aw0.next ≤ aw.next
  keep : ∀ b, b < aw0.next → b ∉ own → aw.m b = aw0.m b
  ro_ : ∀ p ∈ ro, aw0.m p.1 = some p.2 ∧ p.1 < aw0.next ∧ p.1 ∉ own
  rok : ∀ b B, aw.m b = some B → B.rw = false → ∃ B0, aw0.m b = some B0 ∧ B0.rw = false
inductive At : List (Nat × Blk) → Nat → Blk → Prop
  | here {l : List (Nat × Blk)} {b : Nat} {B : Blk} : At ((b, B) :: l) b B
  | there {x : Nat × Blk} {l : List (Nat × Blk)} {b : Nat} {B : Blk} (h : At l b B) : At (x :: l) b B
theorem At.mem {l : List (Nat × Blk)} {b : Nat} {B : Blk} (h : At l b B) : (b, B) ∈ l := by
  induction h with
  | here => simp
  | there _ ih => exact List.mem_cons_of_mem _ ih
inductive Up : List (Nat × Blk) → Nat → Blk → Blk → List (Nat × Blk) → Prop
  | here {l : List (Nat × Blk)} {b : Nat} {B B' : Blk} : Up ((b, B) :: l) b B B' ((b, B') :: l)
  | there {x : Nat × Blk} {l l' : List (Nat × Blk)} {b : Nat} {B B' : Blk} (h : Up l b B B' l') : Up (x :: l) b B B' (x :: l')
inductive Out : List (Nat × Blk) → Nat → Blk → List (Nat × Blk) → Prop
  | here {l : List (Nat × Blk)} {b : Nat} {B : Blk} : Out ((b, B) :: l) b B l
  | there {x : Nat × Blk} {l l' : List (Nat × Blk)} {b : Nat} {B : Blk} (h : Out l b B l') : Out (x :: l) b B (x :: l')
theorem Up.at_ {l l' : List (Nat × Blk)} {b : Nat} {B B' : Blk} (h : Up l b B B' l') : At l b B := by
  induction h with
  | here => exact .here
  | there _ ih => exact .there ih
theorem Up.ids {l l' : List (Nat × Blk)} {b : Nat} {B B' : Blk} (h : Up l b B B' l') : l'.map (·.1) = l.map (·.1) := by
  induction h with
  | here => rfl
  | there _ ih => simp [ih]
theorem Up.get {l l' : List (Nat × Blk)} {b : Nat} {B B' : Blk} (h : Up l b B B' l') (hn : (l.map (·.1)).Nodup) : ∀ p ∈ l', p = (b, B') ∨ (p ∈ l ∧ p.1 ≠ b) := by
  induction h with
  | here =>
    rename_i l b B B'
    intro p hp
    simp only [List.map_cons, List.nodup_cons] at hn
    rcases List.mem_cons.1 hp with rfl | hp
    · exact .inl rfl
    · exact .inr ⟨List.mem_cons_of_mem _ hp, fun h => hn.1 (h ▸ List.mem_map.2 ⟨p, hp, rfl⟩)⟩
  | there h ih =>
    rename_i x l l' b B B'
    intro p hp
    simp only [List.map_cons, List.nodup_cons] at hn
    rcases List.mem_cons.1 hp with rfl | hp
    · exact .inr ⟨by simp, fun he => hn.1 (he ▸ List.mem_map.2 ⟨_, h.at_.mem, rfl⟩)⟩
    · rcases ih hn.2 p hp with h | ⟨h1, h2⟩
      · exact .inl h
      · exact .inr ⟨List.mem_cons_of_mem _ h1, h2⟩
theorem Out.at_ {l l' : List (Nat × Blk)} {b : Nat} {B : Blk} (h : Out l b B l') : At l b B := by
  induction h with
  | here => exact .here
  | there _ ih => exact .there ih
theorem Out.get {l l' : List (Nat × Blk)} {b : Nat} {B : Blk} (h : Out l b B l') (hn : (l.map (·.1)).Nodup) : (l'.map (·.1)).Nodup ∧ ∀ p ∈ l', p ∈ l ∧ p.1 ≠ b := by
  induction h with
  | here =>
    rename_i l b B
    simp only [List.map_cons, List.nodup_cons] at hn
    exact ⟨hn.2, fun p hp => ⟨List.mem_cons_of_mem _ hp, fun h => hn.1 (h ▸ List.mem_map.2 ⟨p, hp, rfl⟩)⟩⟩
  | there h ih =>
    rename_i x l l' b B
    simp only [List.map_cons, List.nodup_cons] at hn ⊢
    obtain ⟨i1, i2⟩ := ih hn.2
    refine ⟨⟨fun hx => hn.1 ?_, i1⟩, fun p hp => ?_⟩
    · obtain ⟨p, hp, he⟩ := List.mem_map.1 hx
      exact List.mem_map.2 ⟨p, (i2 p hp).1, he⟩
    · rcases List.mem_cons.1 hp with rfl | hp
      · exact ⟨by simp, fun he => hn.1 (he ▸ List.mem_map.2 ⟨_, h.at_.mem, rfl⟩)⟩
      · exact ⟨List.mem_cons_of_mem _ (i2 p hp).1, (i2 p hp).2⟩
inductive Put : List Value → Nat → List Value → List Value → Prop
  | nil {r : List Value} : Put r 0 [] r
  | cons {c v : Value} {r r' vs : List Value} (h : Put r 0 vs r') : Put (c :: r) 0 (v :: vs) (v :: r')
  | skip {c : Value} {r r' vs : List Value} {i : Nat} (h : Put r i vs r') : Put (c :: r) (i + 1) vs (c :: r')
section
variable {aw0 aw : AW} {own : List Nat} {ro l l' : List (Nat × Blk)} {b i n off size : Nat} {B B' : Blk} {v p : Value} {k : IntKind} {cs cs' : List Value}
theorem Hp.m (M : Hp aw0 own ro aw l) (h : At l b B) : aw.m b = some B := (M.at_ _ h.mem).1
theorem Hp.init (hn : (l.map (·.1)).Nodup) (ha : ∀ p ∈ l, aw.m p.1 = some p.2 ∧ p.1 < aw.next) (hr : ∀ p ∈ ro, aw.m p.1 = some p.2 ∧ p.1 < aw.next ∧ p.1 ∉ l.map (·.1)) : Hp aw (l.map (·.1)) ro aw l :=
  ⟨hn, ha, fun p hp => .inl (List.mem_map.2 ⟨p, hp, rfl⟩), Nat.le_refl _, fun _ _ _ => rfl, hr, fun b B h1 h2 => ⟨B, h1, h2⟩⟩
theorem get_m (h : aw.m b = some B) (hc : B.cells[i]? = some v) : aw.get b i = some v := by simp [AW.get, h, hc]
theorem setN_m : ∀ (vs : List Value) (aw : AW) (b i c : Nat), (aw.setN b i vs).m c = if c = b then (aw.m b).map fun B => { B with cells := (List.range vs.length).foldl (fun cs j => cs.set (i + j) (vs.getD j undef)) B.cells } else aw.m c := by
  intro vs
  induction vs with
  | nil => intro aw b i c; simp [AW.setN]; intro h; subst h; cases aw.m c <;> rfl
  | cons v vs ih =>
    intro aw b i c
    rw [AW.setN, ih]
    simp only [AW.set]
    split
    · rename_i h
      simp only [if_true, Option.map_map]
      congr 1
      funext B
      simp only [Function.comp, List.length_cons]
      congr 1
      rw [List.range_succ_eq_map, List.foldl_cons, List.foldl_map]
      simp only [Nat.add_zero, List.getD_cons_zero]
      congr 1
      funext cs j
      simp only [List.getD_cons_succ]
      congr 1
      omega
    · rfl
theorem setN_next (vs : List Value) : ∀ (aw : AW) (b i : Nat), (aw.setN b i vs).next = aw.next := by
  induction vs with
  | nil => intros; rfl
  | cons v vs ih => intro aw b i; rw [AW.setN, ih]; rfl
theorem Put.fold {cs vs cs' : List Value} {i : Nat} (h : Put cs i vs cs') : (List.range vs.length).foldl (fun cs j => cs.set (i + j) (vs.getD j undef)) cs = cs' := by
  induction h with
  | nil => rfl
  | cons h ih =>
    rename_i c v r r' vs
    rw [List.length_cons, List.range_succ_eq_map, List.foldl_cons, List.foldl_map]
    simp only [Nat.zero_add, List.getD_cons_zero, List.set_cons_zero]
    have key : ∀ (l : List Nat) (x : List Value), l.foldl (fun cs j => cs.set (j + 1) ((v :: vs).getD (j + 1) undef)) (v :: x) = v :: l.foldl (fun cs j => cs.set j (vs.getD j undef)) x := by
      intro l
      induction l with
      | nil => intro x; rfl
      | cons a l ihl => intro x; simp only [List.foldl_cons, List.set_cons_succ, List.getD_cons_succ]; exact ihl _
    rw [key]
    have e : (fun (cs : List Value) (j : Nat) => cs.set j (vs.getD j undef)) = fun cs j => cs.set (0 + j) (vs.getD j undef) := by funext cs j; rw [Nat.zero_add]
    rw [e, ih]
  | skip h ih =>
    rename_i c r r' vs i
    have key : ∀ (l : List Nat) (x : List Value), l.foldl (fun cs j => cs.set (i + 1 + j) (vs.getD j undef)) (c :: x) = c :: l.foldl (fun cs j => cs.set (i + j) (vs.getD j undef)) x := by
      intro l
      induction l with
      | nil => intro x; rfl
      | cons a l ihl =>
        intro x
        simp only [List.foldl_cons]
        rw [show i + 1 + a = (i + a) + 1 by omega, List.set_cons_succ]
        exact ihl _
    rw [key, ih]
theorem Put.len {cs vs cs' : List Value} {i : Nat} (h : Put cs i vs cs') : i + vs.length ≤ cs.length := by
  induction h with
  | nil => simp
  | cons _ ih => simp at ih ⊢; omega
  | skip _ ih => simp at ih ⊢; omega
theorem Hp.set (M : Hp aw0 own ro aw l) (hp : Put B.cells i cs cs') (hu : Up l b B ⟨cs', B.elem, B.esz, B.rw, B.fz⟩ l') : Hp aw0 own ro (aw.setN b i cs) l' := by
  have hb := M.m hu.at_
  have hmine := M.mine _ hu.at_.mem
  refine ⟨hu.ids ▸ M.nd, fun p hp' => ?_, fun p hp' => ?_, by rw [setN_next]; exact M.le, fun c hc hne => ?_, M.ro_, fun c C h1 h2 => ?_⟩
  · rw [setN_m, setN_next]
    rcases hu.get M.nd p hp' with rfl | ⟨h1, h2⟩
    · simp only [if_true, hb, Option.map_some, hp.fold]
      exact ⟨trivial, (M.at_ _ hu.at_.mem).2⟩
    · rw [if_neg h2]; exact M.at_ p h1
  · rcases hu.get M.nd p hp' with rfl | ⟨h1, h2⟩
    · exact hmine
    · exact M.mine p h1
  · rw [setN_m, if_neg, M.keep c hc hne]
    rintro rfl
    rcases hmine with h | h
    · exact hne h
    · exact absurd hc (by simp at h; omega)
  · rw [setN_m] at h1
    split at h1
    · rename_i e
      subst e
      rw [hb] at h1
      simp only [Option.map_some, Option.some.injEq] at h1
      subst h1
      exact M.rok _ _ hb h2
    · exact M.rok _ _ h1 h2
theorem Hp.alloc (M : Hp aw0 own ro aw l) (elem esz : Nat) : Hp aw0 own ro (aw.alloc cs elem esz) ((aw.next, ⟨cs, elem, esz, true, 0⟩) :: l) := by
  refine ⟨?_, fun p hp => ?_, fun p hp => ?_, Nat.le_succ_of_le M.le, fun c hc hne => ?_, M.ro_, fun c C h1 h2 => ?_⟩
  · simp only [List.map_cons, List.nodup_cons]
    refine ⟨fun h => ?_, M.nd⟩
    obtain ⟨p, hp, he⟩ := List.mem_map.1 h
    exact absurd (M.at_ p hp).2 (by rw [he]; exact Nat.lt_irrefl _)
  · rcases List.mem_cons.1 hp with rfl | hp
    · simp [AW.alloc]
    · obtain ⟨h1, h2⟩ := M.at_ p hp
      simp only [AW.alloc]
      rw [if_neg (by omega)]
      exact ⟨h1, by omega⟩
  · rcases List.mem_cons.1 hp with rfl | hp
    · exact .inr M.le
    · exact M.mine p hp
  · simp only [AW.alloc]
    rw [if_neg (by have := M.le; omega)]
    exact M.keep c hc hne
  · simp only [AW.alloc] at h1
    split at h1
    · simp only [Option.some.injEq] at h1
      subst h1; cases h2
    · exact M.rok _ _ h1 h2
theorem Hp.kill (M : Hp aw0 own ro aw l) (hu : Out l b B l') : Hp aw0 own ro (aw.kill b) l' := by
  obtain ⟨h1, h2⟩ := hu.get M.nd
  refine ⟨h1, fun p hp => ?_, fun p hp => M.mine p (h2 p hp).1, M.le, fun c hc hne => ?_, M.ro_, fun c C g1 g2 => ?_⟩
  · simp only [AW.kill]
    rw [if_neg (h2 p hp).2]
    exact M.at_ p (h2 p hp).1
  · simp only [AW.kill]
    rw [if_neg, M.keep c hc hne]
    rintro rfl
    rcases M.mine _ hu.at_.mem with h | h
    · exact hne h
    · exact absurd hc (by simp at h; omega)
  · simp only [AW.kill] at g1
    split at g1
    · cases g1
    · exact M.rok _ _ g1 g2
theorem Hp.drop (M : Hp aw0 own ro aw l) (hu : Out l b B l') : Hp aw0 own ro aw l' := by
  obtain ⟨h1, h2⟩ := hu.get M.nd
  exact ⟨h1, fun p hp => M.at_ p (h2 p hp).1, fun p hp => M.mine p (h2 p hp).1, M.le, M.keep, M.ro_, M.rok⟩
theorem Hp.perm (M : Hp aw0 own ro aw l) (h : l.Perm l') : Hp aw0 own ro aw l' :=
  ⟨(h.map _).nodup_iff.1 M.nd, fun p hp => M.at_ p (h.mem_iff.2 hp), fun p hp => M.mine p (h.mem_iff.2 hp), M.le, M.keep, M.ro_, M.rok⟩
inductive In (aw : AW) (b : Nat) (B : Blk) : Prop
  | mk (h : aw.m b = some B)
theorem Hp.im (M : Hp aw0 own ro aw l) (h : At l b B) : In aw b B := ⟨M.m h⟩
inductive Cell : List Value → Nat → Value → Prop
  | here {v : Value} {r : List Value} : Cell (v :: r) 0 v
  | there {c v : Value} {r : List Value} {i : Nat} (h : Cell r i v) : Cell (c :: r) (i + 1) v
theorem Cell.get {cs : List Value} {i : Nat} {v : Value} (h : Cell cs i v) : cs[i]? = some v := by
  induction h with
  | here => rfl
  | there _ ih => simpa using ih
theorem In.get (h : In aw b B) (hc : Cell B.cells i v) : aw.get b i = some v := get_m h.1 hc.get
theorem nck_x {K : Prop} (h : K) : nck (.pointer (some ⟨b, i, none⟩)) K := ⟨⟨b, i, rfl⟩, h⟩
theorem fldA_x {K : Value → Prop} (h : K (.pointer (some ⟨b, i + off, none⟩))) : fldA (.pointer (some ⟨b, i, none⟩)) off K := ⟨b, i, _, rfl, rfl, h⟩
theorem ptr_x {K : Nat → Nat → Prop} (h : K b i) : ptr (.pointer (some ⟨b, i, none⟩)) K := ⟨b, i, rfl, h⟩
theorem ldI_x {K : Int → Prop} {n : Int} (hi : In aw b B) (hc : Cell B.cells i (.int k n)) (h : K n) : ldI k aw (.pointer (some ⟨b, i, none⟩)) K := ⟨b, i, n, rfl, hi.get hc, h⟩
theorem ldB_x {K : Bool → Prop} {n : Bool} (hi : In aw b B) (hc : Cell B.cells i (.bool n)) (h : K n) : ldB aw (.pointer (some ⟨b, i, none⟩)) K := ⟨b, i, n, rfl, hi.get hc, h⟩
theorem ldS_x {K : ByteArray → Prop} {n : ByteArray} (hi : In aw b B) (hc : Cell B.cells i (.string n)) (h : K n) : ldS aw (.pointer (some ⟨b, i, none⟩)) K := ⟨b, i, n, rfl, hi.get hc, h⟩
theorem ldV_x {K : Value → Prop} {n : Value} (hi : In aw b B) (hc : Cell B.cells i n) (h : K n) : ldV aw (.pointer (some ⟨b, i, none⟩)) K := ⟨b, i, n, rfl, hi.get hc, h⟩
theorem gI_x {K : Int → Prop} {n : Int} (hi : In aw b B) (hc : Cell B.cells i (.int k n)) (h : K n) : gI k aw b i K := ⟨n, hi.get hc, h⟩
theorem gS_x {K : ByteArray → Prop} {n : ByteArray} (hi : In aw b B) (hc : Cell B.cells i (.string n)) (h : K n) : gS aw b i K := ⟨n, hi.get hc, h⟩
theorem gV_x {K : Value → Prop} {n : Value} (hi : In aw b B) (hc : Cell B.cells i n) (h : K n) : gV aw b i K := ⟨n, hi.get hc, h⟩
theorem again_x {K : Prop} (hi : In aw b B) (hc : Cell B.cells i v) (h : K) : again1 aw (.pointer (some ⟨b, i, none⟩)) v ∧ K :=
  ⟨fun b' i' he => by injection he with he; injection he with he; injection he with h1 h2; subst h1; subst h2; exact hi.get hc, h⟩
theorem st_x {K : AW → Prop} (M : Hp aw0 own ro aw l) (hu : Up l b B ⟨cs', B.elem, B.esz, true, 0⟩ l') (hp : Put B.cells i cs cs') (hrw : B.rw = true) (hfz : B.fz = 0) (ho : cs.all one = true)
    (h : ∀ aw', Hp aw0 own ro aw' l' → K aw') : st aw (.pointer (some ⟨b, i, none⟩)) cs K := by
  obtain ⟨cells, elem, esz, rw, fz⟩ := B
  simp only at hrw hfz hp hu
  subst hrw; subst hfz
  exact ⟨b, i, _, rfl, ⟨_, M.m hu.at_, rfl, hp.len, rfl⟩, ho, rfl, h _ (M.set hp hu)⟩
theorem alc_x {K : Value → AW → Prop} {t e : Nat} (M : Hp aw0 own ro aw l) (h : ∀ b aw', Hp aw0 own ro aw' ((b, ⟨cs, t, e, true, 0⟩) :: l) → K (.pointer (some ⟨b, 0, none⟩)) aw') : alc aw cs t e K := ⟨_, _, rfl, rfl, h _ _ (M.alloc t e)⟩
theorem alcS_x {K : Value → AW → Prop} {t e n : Nat} (M : Hp aw0 own ro aw l) (h : ∀ b aw', Hp aw0 own ro aw' ((b, ⟨cs, t, e, true, 0⟩) :: l) → K (.slice (some ⟨b, 0, none⟩) n n) aw') : alcS aw cs t e n K := ⟨_, _, rfl, rfl, h _ _ (M.alloc t e)⟩
theorem slen_x {K : Int → Prop} {q : Option Addr} {n c : Nat} (h : K (n : Int)) : slen (.slice q n c) K := ⟨q, n, c, _, rfl, rfl, h⟩
theorem cnd_1x {q : Bool} {X Y : Prop} (hb : q = true) (h : X) : cnd q X Y := by subst hb; exact ⟨fun _ => h, (fun h' => Bool.noConfusion h')⟩
theorem cnd_0x {q : Bool} {X Y : Prop} (hb : q = false) (h : Y) : cnd q X Y := by subst hb; exact ⟨(fun h' => Bool.noConfusion h'), fun _ => h⟩
theorem nilB_x {K : Bool → Prop} {d : TypeDesc} {u c : Value} {q : Bool} (h1 : nilFits d u c = true) (h2 : (isNil u).getD false = q) (h : K q) : nilB d u c K := ⟨q, h1, h2.symm, h⟩
end
end Go.Am
set_option linter.unusedSimpArgs false
set_option linter.unusedVariables false
set_option linter.unusedSectionVars false
namespace Go.Am
open Go Go.RowKit
variable [SymE]
section
universe u
variable {α : Type u} {aw0 aw : AW} {own : List Nat} {ro l l' : List (Nat × Blk)} {b i n c k m off size el bytes : Nat} {B B' : Blk} {v p xv : Value} {cs os : List Value}
theorem getN_m (h : aw.m b = some B) : ∀ {n i : Nat}, i + n ≤ B.cells.length → aw.getN b i n = some ((B.cells.drop i).take n)
  | 0, i, _ => by simp [AW.getN]
  | n + 1, i, hl => by
    have hi : i < B.cells.length := by omega
    have e : aw.get b i = some B.cells[i] := by simp [AW.get, h, hi]
    simp only [AW.getN, e, getN_m h (n := n) (i := i + 1) (by omega), Option.map_some]
    rw [List.drop_eq_getElem_cons hi, List.take_succ_cons]
theorem Hp.dropL : ∀ {L : List (Nat × Blk)}, Hp aw0 own ro aw (L ++ l) → Hp aw0 own ro aw l
  | [], M => M
  | _ :: L, M => Hp.dropL (L := L) (M.drop .here)
inductive Seg : List Value → Nat → Nat → List Value → Prop
  | nil {r : List Value} : Seg r 0 0 []
  | take {c : Value} {r s : List Value} {n : Nat} (h : Seg r 0 n s) : Seg (c :: r) 0 (n + 1) (c :: s)
  | drop {c : Value} {r s : List Value} {i n : Nat} (h : Seg r i n s) : Seg (c :: r) (i + 1) n s
theorem src_x (hi : In aw b B) (hl : i + n * size ≤ B.cells.length) (hc : (B.cells.drop i).take (n * size) = cs) : Src aw size (.slice (some ⟨b, i, none⟩) n c) n cs := by
  subst hc; exact .slice (getN_m hi.1 hl)
theorem app_nil {K : Value → AW → Prop} (M : Hp aw0 own ro aw l) (hs : Src aw size xv n cs) (h0 : 0 < n) (hb : (2 * n + 768) * bytes ≤ 2 ^ 48)
    (h : ∀ b aw', Hp aw0 own ro aw' ((b, ⟨cs, el, size, true, 0⟩) :: l) → K (.slice (some ⟨b, 0, none⟩) n UNK) aw') : app aw el size bytes (.slice none 0 0) xv K := by
  have := App.grows (el := el) (bytes := bytes) (q := none) (l := 0) (c := 0) (aw := aw) (xv := xv) (.nil) hs (by unfold UNK; omega) (by omega) (by simpa using hb)
  rw [List.nil_append, Nat.zero_add] at this
  exact ⟨_, _, this, h _ _ (M.alloc el size)⟩
theorem app_none {K : Value → AW → Prop} {q : Option Addr} (hs : Src aw size xv 0 cs) (h : K (.slice q n c) aw) : app aw el size bytes (.slice q n c) xv K := ⟨_, _, .none hs, h⟩
theorem app_mv {K : Value → AW → Prop} (M : Hp aw0 own ro aw l) (ho : Out l b ⟨os, el, size, true, 0⟩ l') (hn : n * size ≤ os.length) (hs : Src aw size xv k cs) (h1 : cs.all one = true) (hb : (2 * (n + k) + 768) * bytes ≤ 2 ^ 48)
    (h : ∀ b aw', Hp aw0 own ro aw' ((b, ⟨os.take (n * size) ++ cs, el, size, true, 0⟩) :: l') → K (.slice (some ⟨b, 0, none⟩) (n + k) UNK) aw') : app aw el size bytes (.slice (some ⟨b, 0, none⟩) n UNK) xv K := by
  have hB := M.m ho.at_
  have hg : aw.getN b 0 (n * size) = some (os.take (n * size)) := by
    rw [getN_m hB (by simpa using hn)]; simp
  exact ⟨_, _, .moves hg hs (Nat.le_refl _) hB rfl rfl rfl rfl h1 hb, h _ _ ((M.kill ho).alloc el size)⟩
inductive SlP (el size : Nat) : Value → Nat → List Value → List (Nat × Blk) → Prop
  | nil : SlP el size (.slice none 0 0) 0 [] []
  | some {b n : Nat} {os : List Value} (h : n * size ≤ os.length) : SlP el size (.slice (some ⟨b, 0, none⟩) n UNK) n os [(b, ⟨os, el, size, true, 0⟩)]
theorem SlP.len {L : List (Nat × Blk)} (h : SlP el size v n os L) : n * size ≤ os.length := by
  cases h with
  | nil => simp
  | some h => exact h
theorem SlP.val {L : List (Nat × Blk)} (h : SlP el size v n os L) : ∃ q c, v = .slice q n c := by
  cases h with
  | nil => exact ⟨_, _, rfl⟩
  | some h => exact ⟨_, _, rfl⟩
theorem app_p {L : List (Nat × Blk)} {K : Value → AW → Prop} (hp : SlP el size v n os L) (M : Hp aw0 own ro aw (L ++ l)) (hs : Src aw size xv k cs) (h0 : 0 < k) (h1 : cs.all one = true) (hb : (2 * (n + k) + 768) * bytes ≤ 2 ^ 48)
    (h : ∀ b aw', Hp aw0 own ro aw' ((b, ⟨os.take (n * size) ++ cs, el, size, true, 0⟩) :: l) → K (.slice (some ⟨b, 0, none⟩) (n + k) UNK) aw') : app aw el size bytes v xv K := by
  cases hp with
  | nil =>
    refine app_nil M hs h0 (by rw [Nat.zero_add] at hb; exact hb) fun b aw' M => ?_
    have := h b aw' (by simpa using M)
    rwa [Nat.zero_add] at this
  | some hl => exact app_mv M .here hl hs h1 hb h
end
end Go.Am
set_option linter.unusedSimpArgs false
set_option linter.unusedVariables false
namespace Go.Oc
def lowB (n : Nat) : List UInt8 := if n = 0 then [] else UInt8.ofNat (n % 256) :: lowB (n / 256)
termination_by n
decreasing_by omega
theorem lowB_zero : lowB 0 = [] := by unfold lowB; simp
theorem lowB_pos {n : Nat} (h : 0 < n) : lowB n = UInt8.ofNat (n % 256) :: lowB (n / 256) := by
  rw [lowB, if_neg (by omega)]
def be : Nat → List UInt8 → Nat
  | a, [] => a
  | a, b :: l => be (a * 256 + b.toNat) l
theorem be_append (a : Nat) (l m : List UInt8) : be a (l ++ m) = be (be a l) m := by
  induction l generalizing a with
  | nil => rfl
  | cons b l ih => exact ih _
theorem lowB_len {n k : Nat} (h : n < 256 ^ k) : (lowB n).length ≤ k := by
  induction k generalizing n with
  | zero => have : n = 0 := by simpa using h
            subst this; rw [lowB_zero]; simp
  | succ k ih =>
    by_cases h0 : n = 0
    · subst h0; rw [lowB_zero]; simp
    · rw [lowB_pos (by omega), List.length_cons]
      have := ih (n := n / 256) (by rw [Nat.pow_succ] at h; omega)
      omega
theorem be_lt (l : List UInt8) (a : Nat) : be a l < (a + 1) * 256 ^ l.length := by
  induction l generalizing a with
  | nil => simp [be]
  | cons b l ih =>
    have h := ih (a * 256 + b.toNat)
    have hb : b.toNat < 256 := b.toNat_lt
    rw [List.length_cons, Nat.pow_succ]
    calc be a (b :: l) < (a * 256 + b.toNat + 1) * 256 ^ l.length := h
      _ ≤ ((a + 1) * 256) * 256 ^ l.length := Nat.mul_le_mul_right _ (by omega)
      _ = (a + 1) * (256 ^ l.length * 256) := by rw [Nat.mul_assoc, Nat.mul_comm 256]
theorem lowB_be : ∀ (l : List UInt8), (∀ b, l.getLast? = some b → b ≠ 0) → lowB (be 0 l.reverse) = l
  | [], _ => lowB_zero
  | b :: l, h => by
    have hb : b.toNat < 256 := b.toNat_lt
    rw [List.reverse_cons, be_append]
    show lowB (be 0 l.reverse * 256 + b.toNat) = b :: l
    by_cases h0 : be 0 l.reverse * 256 + b.toNat = 0
    · -- then it is one nought
      exfalso
      have hl0 : be 0 l.reverse = 0 := by omega
      have hb0 : b = 0 := by
        have : b.toNat = 0 := by omega
        exact UInt8.toNat_inj.1 (by simpa using this)
      cases l with
      | nil => exact h b rfl hb0
      | cons c m =>
        have ih := lowB_be (c :: m) (fun d hd => h d (by rw [List.getLast?_cons_cons]; exact hd))
        rw [hl0, lowB_zero] at ih
        cases ih
    · rw [lowB_pos (by omega)]
      have e1 : (be 0 l.reverse * 256 + b.toNat) % 256 = b.toNat := by omega
      have e2 : (be 0 l.reverse * 256 + b.toNat) / 256 = be 0 l.reverse := by omega
      rw [e1, e2, lowB_be l (fun d hd => by
        cases l with
        | nil => cases hd
        | cons c m => exact h d (by rw [List.getLast?_cons_cons]; exact hd))]
      simp
def encU (n : Nat) : List UInt8 := UInt8.ofNat (lowB n).length :: (lowB n).reverse
theorem low8 {n : Nat} (h : n < 2 ^ 64) : (lowB n).length ≤ 8 := lowB_len (k := 8) h
theorem encU_len {n : Nat} (h : n < 2 ^ 64) : (encU n).length ≤ 9 := by
  have := low8 h
  simp [encU]; omega
def zig (n : Int) : Nat := if n < 0 then (-(n + 1)).toNat * 2 + 1 else n.toNat * 2
def zag (n : Nat) : Int := if n % 2 = 1 then -((n / 2 : Nat) : Int) - 1 else ((n / 2 : Nat) : Int)
theorem zig_lt {n : Int} (h1 : -9223372036854775808 ≤ n) (h2 : n < 9223372036854775808) : zig n < 2 ^ 64 := by
  unfold zig
  split <;> omega
def encB (l : List UInt8) : List UInt8 := encU l.length ++ l
def rdU : List UInt8 → Option (Nat × List UInt8)
  | [] => none
  | k :: r => if 8 < k.toNat ∨ r.length < k.toNat ∨ (0 < k.toNat ∧ r.head? = some 0) then none else some (be 0 (r.take k.toNat), r.drop k.toNat)
theorem rdU_lt {p r : List UInt8} {n : Nat} (h : rdU p = some (n, r)) : n < 2 ^ 64 := by
  unfold rdU at h
  split at h
  · cases h
  · rename_i k q
    split at h
    · cases h
    · rename_i hc
      simp only [Option.some.injEq, Prod.mk.injEq] at h
      obtain ⟨rfl, rfl⟩ := h
      have h1 := be_lt (q.take k.toNat) 0
      have h2 : (q.take k.toNat).length ≤ 8 := by rw [List.length_take]; omega
      have h3 : 256 ^ (q.take k.toNat).length ≤ 256 ^ 8 := Nat.pow_le_pow_right (by decide) h2
      have h4 : (256 : Nat) ^ 8 = 2 ^ 64 := by decide
      omega
theorem enc_rdU {p r : List UInt8} {n : Nat} (h : rdU p = some (n, r)) : p = encU n ++ r := by
  unfold rdU at h
  split at h
  · cases h
  · rename_i k q
    split at h
    · cases h
    · rename_i hc
      simp only [Option.some.injEq, Prod.mk.injEq] at h
      obtain ⟨rfl, rfl⟩ := h
      have hl : (q.take k.toNat).length = k.toNat := by rw [List.length_take]; omega
      have h1 : lowB (be 0 (q.take k.toNat)) = (q.take k.toNat).reverse := by
        have := lowB_be (q.take k.toNat).reverse (fun b hb => by
          rw [List.getLast?_reverse] at hb
          cases hq : q with
          | nil => rw [hq] at hb; simp at hb
          | cons x y =>
            rw [hq] at hb
            by_cases hk : k.toNat = 0
            · rw [hk] at hb; simp at hb
            · obtain ⟨j, hj⟩ : ∃ j, k.toNat = j + 1 := ⟨k.toNat - 1, by omega⟩
              rw [hj, List.take_succ_cons] at hb
              simp only [List.head?_cons, Option.some.injEq] at hb
              intro hz
              exact hc (.inr (.inr ⟨by omega, by rw [hq, List.head?_cons, hb, hz]⟩)))
        rwa [List.reverse_reverse] at this
      unfold encU
      rw [h1, List.reverse_reverse, List.length_reverse, hl, List.cons_append, List.take_append_drop]
      simp
abbrev St := Option (List UInt8)
def rU : St → Nat × St
  | none => (0, none)
  | some p => match rdU p with
    | none => (0, none)
    | some (n, r) => (n, some r)
def rI (s : St) : Int × St := (zag (rU s).1, (rU s).2)
def rUp (most : Nat) (s : St) : Nat × St := if (rU s).2 = none ∨ most < (rU s).1 then (0, none) else rU s
def rB (most : Nat) (s : St) : List UInt8 × St := match (rUp most s).2 with
  | none => ([], none)
  | some r => if r.length < (rUp most s).1 then ([], none) else (r.take (rUp most s).1, some (r.drop (rUp most s).1))
theorem rU_lt (s : St) : (rU s).1 < 2 ^ 64 := by
  cases s with
  | none => show 0 < 2 ^ 64; decide
  | some p =>
    show (match rdU p with | none => ((0, none) : Nat × St) | some (n, r) => (n, some r)).1 < _
    cases h : rdU p with
    | none => show 0 < 2 ^ 64; decide
    | some q => exact rdU_lt h
theorem rUp_le (most : Nat) (s : St) : (rUp most s).1 ≤ most := by
  unfold rUp
  split
  · exact Nat.zero_le _
  · omega
end Go.Oc
namespace Go.Oc
theorem lowB_div (n : Nat) : lowB (n / 256) = (lowB n).drop 1 := by
  by_cases h : n = 0
  · subst h; rw [lowB_zero]; rfl
  · rw [lowB_pos (n := n) (by omega)]; rfl
theorem lowB_divs (n : Nat) : ∀ i, lowB (n / 256 ^ i) = (lowB n).drop i
  | 0 => by simp
  | i + 1 => by
    rw [Nat.pow_succ, ← Nat.div_div_eq_div_mul, lowB_div, lowB_divs n i, List.drop_drop]
theorem low_pos (n i : Nat) : 0 < n / 256 ^ i ↔ i < (lowB n).length := by
  constructor
  · intro h
    have := lowB_divs n i
    rw [lowB_pos h] at this
    have hl := congrArg List.length this
    simp at hl
    omega
  · intro h
    apply Nat.pos_of_ne_zero
    intro h0
    have := lowB_divs n i
    rw [h0, lowB_zero] at this
    have hl := congrArg List.length this
    simp at hl
    omega
theorem low_get {n i : Nat} (h : i < (lowB n).length) : (lowB n)[i] = UInt8.ofNat (n / 256 ^ i % 256) := by
  have h1 := (low_pos n i).2 h
  have h2 := lowB_divs n i
  rw [lowB_pos h1, List.drop_eq_getElem_cons h] at h2
  injection h2 with h2 _
  exact h2.symm
theorem pow8 (k : Nat) : 2 ^ (8 * k) = 256 ^ k := by rw [Nat.pow_mul]
end Go.Oc
namespace Go.Oc
end Go.Oc
set_option linter.unusedSimpArgs false
set_option linter.unusedVariables false
set_option linter.unusedSectionVars false
namespace Go.Am
open Go Go.RowKit
variable [SymE]
inductive Rb (aw : AW) : Value → List UInt8 → Prop
  | nil : Rb aw (.slice none 0 0) []
  | emp {b off c : Nat} (hc : c < UNK ∨ ∃ B, aw.m b = some B ∧ B.esz = 1) : Rb aw (.slice (some ⟨b, off, none⟩) 0 c) []
  | «at» {b off c : Nat} {B : Blk} {bs : List UInt8} (hb : aw.m b = some B) (he : B.esz = 1) (hl : off + bs.length ≤ B.cells.length) (hc : (B.cells.drop off).take bs.length = bytesV bs) (hcap : c < UNK → bs.length ≤ c) : Rb aw (.slice (some ⟨b, off, none⟩) bs.length c) bs
section
variable {aw aw' aw0 : AW} {own : List Nat} {ro l L S S' : List (Nat × Blk)} {v w : Value} {bs cs : List UInt8} {k : Nat}
theorem bytesV_get (l : List UInt8) (i : Nat) : (bytesV l)[i]? = (l[i]?).map fun b => .int .u8 b.toNat := by simp [bytesV]
theorem bytesV_one (l : List UInt8) : (bytesV l).all one = true := by
  simp only [bytesV, List.all_eq_true, List.mem_map]
  rintro x ⟨b, _, rfl⟩
  rfl
theorem bytesV_app (l m : List UInt8) : bytesV (l ++ m) = bytesV l ++ bytesV m := by simp [bytesV]
theorem Rb.len (h : Rb aw v bs) : ∃ q c, v = .slice q bs.length c := by
  cases h with
  | nil => exact ⟨_, _, rfl⟩
  | emp => exact ⟨_, _, rfl⟩
  | «at» => exact ⟨_, _, rfl⟩
theorem Rb.lenV (h : Rb aw v bs) : Go.Am.lenV v = bs.length := by
  obtain ⟨q, c, rfl⟩ := h.len
  rfl
theorem Rb.src (h : Rb aw v bs) : Src aw 1 v bs.length (bytesV bs) := by
  cases h with
  | nil => exact .nil
  | emp => exact .slice (by simp [AW.getN, bytesV])
  | «at» hb he hl hc hcap => exact src_x ⟨hb⟩ (by omega) (by rw [Nat.mul_one]; exact hc)
theorem Rb.get (h : Rb aw v bs) {i : Nat} {x : UInt8} (hi : bs[i]? = some x) : ∃ b off c, v = .slice (some ⟨b, off, none⟩) bs.length c ∧ aw.get b (off + i * 1) = some (.int .u8 x.toNat) := by
  cases h with
  | nil => cases hi
  | emp => cases hi
  | «at» hb he hl hc hcap =>
    rename_i b off c B
    refine ⟨b, off, c, rfl, ?_⟩
    have hlt := (List.getElem?_eq_some_iff.1 hi).1
    have := congrArg (fun q => q[i]?) hc
    simp only [bytesV_get, hi, Option.map_some] at this
    rw [List.getElem?_take, if_pos hlt, List.getElem?_drop] at this
    rw [Nat.mul_one]
    exact get_m hb this
theorem Rb.cut (h : Rb aw v bs) {lo hi : Nat} (h1 : lo ≤ hi) (h2 : hi ≤ bs.length) : ∃ v', Cut aw 1 v (lo : Int) (hi : Int) v' ∧ Rb aw v' ((bs.drop lo).take (hi - lo)) := by
  cases h with
  | nil =>
    simp at h2
    subst h2
    obtain rfl : lo = 0 := by omega
    exact ⟨_, .nil, .nil⟩
  | emp hc =>
    rename_i b off c
    simp at h2
    subst h2
    obtain rfl : lo = 0 := by omega
    refine ⟨_, .some (Nat.le_refl _) (by split <;> omega) (fun hcc => hc.resolve_left (by omega)), ?_⟩
    simp only [Nat.sub_self, List.take_zero]
    refine .emp ?_
    rcases hc with hc | hc
    · left; unfold capOf; split <;> omega
    · exact .inr hc
  | «at» hb he hl hc hcap =>
    rename_i b off c B
    refine ⟨_, .some h1 (by split <;> first | omega | (rename_i hcc; have := hcap hcc; omega)) (fun _ => ⟨B, hb, he⟩), ?_⟩
    have hlen : ((bs.drop lo).take (hi - lo)).length = hi - lo := by simp; omega
    have hcells : (B.cells.drop (off + lo * 1)).take ((bs.drop lo).take (hi - lo)).length = bytesV ((bs.drop lo).take (hi - lo)) := by
      rw [hlen, Nat.mul_one]
      have e1 : bytesV ((bs.drop lo).take (hi - lo)) = ((bytesV bs).drop lo).take (hi - lo) := by simp [bytesV, List.map_take, List.map_drop]
      rw [e1, ← hc, List.drop_take, List.drop_drop, List.take_take]
      congr 1
      omega
    have := Rb.at (aw := aw) (b := b) (off := off + lo * 1) (c := capOf c lo) hb he (by rw [hlen]; omega) hcells (by
      rw [hlen]
      unfold capOf
      intro hq
      split at hq <;> rename_i hcc
      · have := hcap hcc
        simp only [hcc, if_true]
        omega
      · unfold UNK at *; omega)
    rw [hlen] at this
    exact this
def Rs (aw0 : AW) (own : List Nat) (ro S : List (Nat × Blk)) (v : Value) (bs : List UInt8) : Prop := ∀ (aw : AW) (L : List (Nat × Blk)), Hp aw0 own ro aw L → (∀ p ∈ S, p ∈ L) → Rb aw v bs
theorem Rs.more (h : Rs aw0 own ro S v bs) (hs : ∀ p ∈ S, p ∈ S') : Rs aw0 own ro S' v bs := fun aw L M hl => h aw L M fun p hp => hl p (hs p hp)
theorem Rs.first (h : Rb aw0 v bs) (ho : ∀ b off n c, v = .slice (some ⟨b, off, none⟩) n c → b < aw0.next ∧ b ∉ own) : Rs aw0 own ro S v bs := by
  intro aw L M _
  cases h with
  | nil => exact .nil
  | emp hc =>
    obtain ⟨h1, h2⟩ := ho _ _ _ _ rfl
    exact .emp (by rw [M.keep _ h1 h2]; exact hc)
  | «at» hb he hl hc hcap =>
    obtain ⟨h1, h2⟩ := ho _ _ _ _ rfl
    exact .at (by rw [M.keep _ h1 h2]; exact hb) he hl hc hcap
inductive Ob (el : Nat) : Value → List UInt8 → List (Nat × Blk) → Prop
  | nil : Ob el (.slice none 0 0) [] []
  | blk {b n c : Nat} {bs : List UInt8} (hn : n = bs.length) (hc : c = n ∨ c = UNK) : Ob el (.slice (some ⟨b, 0, none⟩) n c) bs [(b, ⟨bytesV bs, el, 1, true, 0⟩)]
theorem Ob.rs {el : Nat} (h : Ob el v bs L) : Rs aw0 own ro L v bs := by
  intro aw L' M hs
  cases h with
  | nil => exact .nil
  | blk hn hc =>
    subst hn
    have := (M.at_ _ (hs _ (List.mem_singleton.2 rfl))).1
    refine .at this rfl (by simp [bytesV]) (by rw [List.drop_zero, List.take_of_length_le (by simp [bytesV])]) (fun h => ?_)
    rcases hc with rfl | rfl
    · exact Nat.le_refl _
    · exact absurd h (Nat.lt_irrefl _)
theorem Ob.len {el : Nat} (h : Ob el v bs L) : ∃ q c, v = .slice q bs.length c := by
  cases h with
  | nil => exact ⟨_, _, rfl⟩
  | blk hn hc => subst hn; exact ⟨_, _, rfl⟩
theorem ix_b {X : Value → Prop} {j : Int} {i : Nat} {x : UInt8} {K : Int → Prop} (h : Rb aw v bs) (hj : j = (i : Int)) (hi : bs[i]? = some x) (hX : ∀ p, ldI .u8 aw p K → X p) (hK : K (x.toNat : Int)) : ixS v j 1 X := by
  subst hj
  obtain ⟨b, off, c, rfl, hg⟩ := h.get hi
  have hlt := (List.getElem?_eq_some_iff.1 hi).1
  exact ⟨b, off, bs.length, c, _, rfl, by omega, by omega, rfl, hX _ ⟨b, _, _, rfl, by simpa using hg, hK⟩⟩
theorem slen_b {X : Int → Prop} (h : Rb aw v bs) (hX : X (bs.length : Int)) : slen v X := by
  obtain ⟨q, c, rfl⟩ := h.len
  exact slen_x hX
theorem cut_b {X : Value → Prop} {a b : Int} {lo hi : Nat} (h : Rb aw v bs) (ha : a = (lo : Int)) (hb : b = (hi : Int)) (h1 : lo ≤ hi) (h2 : hi ≤ bs.length) (hX : ∀ v', Cut aw 1 v a b v' → Rb aw v' ((bs.drop lo).take (hi - lo)) → X v') : cutV aw 1 v a b X := by
  subst ha; subst hb
  obtain ⟨v', k1, k2⟩ := h.cut h1 h2
  exact ⟨v', k1, hX v' k1 k2⟩
theorem cut_rs {X : Value → Prop} {a b : Int} {lo hi : Nat} (hR : Rs aw0 own ro S v bs) (M : Hp aw0 own ro aw L) (hS : ∀ p ∈ S, p ∈ L) (ha : a = (lo : Int)) (hb : b = (hi : Int)) (h1 : lo ≤ hi) (h2 : hi ≤ bs.length)
    (hX : ∀ v', Rs aw0 own ro S v' ((bs.drop lo).take (hi - lo)) → X v') : cutV aw 1 v a b X := by
  subst ha; subst hb
  obtain ⟨v', k1, k2⟩ := (hR aw L M hS).cut h1 h2
  refine ⟨v', k1, hX v' fun aw2 L2 M2 hs2 => ?_⟩
  obtain ⟨v2, j1, j2⟩ := (hR aw2 L2 M2 hs2).cut h1 h2
  have : v2 = v' := by
    cases k1 with
    | nil => cases j1; rfl
    | some k1 k2 k3 =>
      generalize hlo : ((lo : Nat) : Int) = lo' at j1
      generalize hhi : ((hi : Nat) : Int) = hi' at j1
      cases j1
      simp only [Int.ofNat_inj, Int.natCast_inj] at hlo hhi
      subst hlo; subst hhi
      rfl
  rw [← this]; exact j2
theorem app_ob {K : Value → AW → Prop} {el : Nat} {xv : Value} (ho : Ob el v bs L) (M : Hp aw0 own ro aw (L ++ l)) (hs : Src aw 1 xv cs.length (bytesV cs)) (hlen : bs.length + cs.length < 2 ^ 44)
    (h : ∀ v' L' aw', Ob el v' (bs ++ cs) L' → (bs ≠ [] ∨ cs ≠ [] → v' ≠ .slice none 0 0) → Hp aw0 own ro aw' (L' ++ l) → K v' aw') : app aw el 1 1 v xv K := by
  by_cases h0 : cs = []
  · subst h0
    cases ho with
    | nil => exact app_none hs (h _ _ _ .nil (fun h => by simp at h) M)
    | blk hn hc => exact app_none hs (h _ _ _ (by rw [List.append_nil]; exact .blk hn hc) (fun _ => by simp) M)
  have hpos : 0 < cs.length := List.length_pos_iff.2 h0
  have hnew : ∀ b aw', Hp aw0 own ro aw' ((b, ⟨bytesV bs ++ bytesV cs, el, 1, true, 0⟩) :: l) → K (.slice (some ⟨b, 0, none⟩) (bs.length + cs.length) UNK) aw' := fun b aw' M' =>
    h _ _ _ (.blk (by simp) (.inr rfl)) (fun _ => by simp) (by rw [← bytesV_app] at M'; exact M')
  cases ho with
  | nil =>
    refine app_nil M hs hpos (by simp at hlen; omega) fun b aw' M' => ?_
    have := hnew b aw' (by simpa [bytesV] using M')
    simpa using this
  | blk hn hc =>
    rename_i b n c
    subst hn
    rcases hc with rfl | rfl
    · have hB := M.m .here
      have hsrc : Src aw 1 (.slice (some ⟨b, 0, none⟩) bs.length bs.length) bs.length (bytesV bs) := src_x ⟨hB⟩ (by simp [bytesV]) (by rw [List.drop_zero, List.take_of_length_le (by simp [bytesV])])
      have := App.grows (el := el) (bytes := 1) (c := bs.length) hsrc hs (by unfold UNK; omega) (by omega) (by omega)
      exact ⟨_, _, this, hnew _ _ ((M.alloc el 1).drop (.there .here))⟩
    · refine app_mv M .here (by simp [bytesV]) hs (bytesV_one _) (by omega) fun b' aw' M' => ?_
      have e : List.take (bs.length * 1) (bytesV bs) = bytesV bs := by rw [Nat.mul_one, List.take_of_length_le (by simp [bytesV])]
      rw [e] at M'
      exact hnew b' aw' M'
end
end Go.Am
set_option linter.unusedSimpArgs false
set_option linter.unusedVariables false
namespace Go.Am
open Go Go.Oc
theorem wrap_u64 (n : Int) : IntKind.u64.wrap n = n % 18446744073709551616 := by
  simp [IntKind.wrap, IntKind.bits, IntKind.signed]
theorem wrap_u8 (n : Int) : IntKind.u8.wrap n = n % 256 := by
  simp [IntKind.wrap, IntKind.bits, IntKind.signed]
theorem wrap_i64 (n : Int) : IntKind.i64.wrap n = (if n % 18446744073709551616 < 9223372036854775808 then n % 18446744073709551616 else n % 18446744073709551616 - 18446744073709551616) := by
  simp only [IntKind.wrap, IntKind.bits, IntKind.signed]
  simp
  split <;> split <;> omega
theorem i64_nat {n : Nat} (h : n < 2 ^ 63) : IntKind.i64.wrap (n : Int) = n := IntWalk.i64_in _ (by omega)
theorem u64_nat {n : Nat} (h : n < 2 ^ 64) : IntKind.u64.wrap (n : Int) = n := by rw [wrap_u64]; omega
theorem u8_nat (n : Nat) : IntKind.u8.wrap (n : Int) = ((n % 256 : Nat) : Int) := by rw [wrap_u8]; omega
theorem fdiv_nat (n k : Nat) : Int.fdiv (n : Int) (2 ^ k) = ((n / 2 ^ k : Nat) : Int) := by
  have e : (2 : Int) ^ k = ((2 ^ k : Nat) : Int) := by simp
  rw [e]
  exact Int.ofNat_fdiv n (2 ^ k) |>.symm
section
variable {m n : Nat}
theorem or_nat (hm : m < 18446744073709551616) (hn : n < 18446744073709551616) : bitsOf .or .u64 (m : Int) (n : Int) = ((m ||| n : Nat) : Int) := by
  show IntKind.u64.wrap (((BitVec.ofInt 64 (m : Int) ||| BitVec.ofInt 64 (n : Int)).toNat : Nat) : Int) = _
  rw [wrap_u64, BitVec.toNat_or]
  simp only [BitVec.toNat_ofInt]
  have h : (m ||| n) < 2 ^ 64 := Nat.or_lt_two_pow (by omega) (by omega)
  have e1 : ((m : Int) % ((2 ^ 64 : Nat) : Int)).toNat = m := by omega
  have e2 : ((n : Int) % ((2 ^ 64 : Nat) : Int)).toNat = n := by omega
  rw [e1, e2]
  omega
theorem and_nat (hm : m < 18446744073709551616) (hn : n < 18446744073709551616) : bitsOf .and .u64 (m : Int) (n : Int) = ((m &&& n : Nat) : Int) := by
  show IntKind.u64.wrap (((BitVec.ofInt 64 (m : Int) &&& BitVec.ofInt 64 (n : Int)).toNat : Nat) : Int) = _
  rw [wrap_u64, BitVec.toNat_and]
  simp only [BitVec.toNat_ofInt]
  have h : (m &&& n) < 2 ^ 64 := Nat.lt_of_le_of_lt Nat.and_le_left (by omega)
  have e1 : ((m : Int) % ((2 ^ 64 : Nat) : Int)).toNat = m := by omega
  have e2 : ((n : Int) % ((2 ^ 64 : Nat) : Int)).toNat = n := by omega
  rw [e1, e2]
  omega
theorem xor_nat (hm : m < 18446744073709551616) (hn : n < 18446744073709551616) : bitsOf .xor .u64 (m : Int) (n : Int) = ((m ^^^ n : Nat) : Int) := by
  show IntKind.u64.wrap (((BitVec.ofInt 64 (m : Int) ^^^ BitVec.ofInt 64 (n : Int)).toNat : Nat) : Int) = _
  rw [wrap_u64, BitVec.toNat_xor]
  simp only [BitVec.toNat_ofInt]
  have h : (m ^^^ n) < 2 ^ 64 := Nat.xor_lt_two_pow (by omega) (by omega)
  have e1 : ((m : Int) % ((2 ^ 64 : Nat) : Int)).toNat = m := by omega
  have e2 : ((n : Int) % ((2 ^ 64 : Nat) : Int)).toNat = n := by omega
  rw [e1, e2]
  omega
theorem and1_64 (hm : m < 18446744073709551616) : bitsOf .and .u64 (m : Int) 1 = ((m % 2 : Nat) : Int) := by
  have := and_nat (m := m) (n := 1) hm (by decide)
  rw [show ((1 : Nat) : Int) = 1 from rfl] at this
  rw [this, Nat.and_one_is_mod]
theorem or_shift {a b i : Nat} (hb : b < 2 ^ i) : a * 2 ^ i ||| b = a * 2 ^ i + b := by
  have := Nat.shiftLeft_add_eq_or_of_lt hb a
  rw [Nat.shiftLeft_eq] at this
  exact this.symm
theorem or_b {n : Nat} {b : UInt8} (hn : n < 2 ^ 56) : bitsOf .or .u64 (IntKind.u64.wrap ((n : Int) * 2 ^ (min (8 : Int).toNat IntKind.u64.bits))) (IntKind.u64.wrap (b.toNat : Int)) = ((n * 256 + b.toNat : Nat) : Int) := by
  have hb : b.toNat < 256 := b.toNat_lt
  have e : min (8 : Int).toNat IntKind.u64.bits = 8 := rfl
  rw [e, show (n : Int) * 2 ^ 8 = ((n * 2 ^ 8 : Nat) : Int) by simp, u64_nat (by omega), u64_nat (by omega), or_nat (by omega) (by omega), or_shift (by omega)]
end
theorem zag_eq {n : Nat} (hn : n < 2 ^ 64) : bitsOf .xor .i64 (IntKind.i64.wrap (Int.fdiv (n : Int) (2 ^ (min (1 : Int).toNat IntKind.u64.bits)))) (IntKind.i64.wrap (-(IntKind.i64.wrap (bitsOf .and .u64 (n : Int) 1)))) = zag n := by
  have e : min (1 : Int).toNat IntKind.u64.bits = 1 := rfl
  rw [e, and1_64 (by omega), fdiv_nat, i64_nat (by omega), i64_nat (by omega)]
  unfold zag
  show IntKind.i64.wrap (((BitVec.ofInt 64 ((n / 2 ^ 1 : Nat) : Int) ^^^ BitVec.ofInt 64 (IntKind.i64.wrap (-((n % 2 : Nat) : Int)))).toNat : Nat) : Int) = _
  rcases Nat.mod_two_eq_zero_or_one n with h | h
  · rw [h]
    have e1 : IntKind.i64.wrap (-((0 : Nat) : Int)) = 0 := rfl
    have e2 : BitVec.ofInt 64 0 = 0#64 := rfl
    rw [e1, e2, if_neg (by decide)]
    simp only [BitVec.xor_zero, BitVec.toNat_ofInt]
    rw [wrap_i64]
    have : (((n / 2 ^ 1 : Nat) : Int) % ((2 ^ 64 : Nat) : Int)).toNat = n / 2 := by omega
    rw [this, if_pos (by omega)]
    omega
  · rw [h]
    have e1 : IntKind.i64.wrap (-((1 : Nat) : Int)) = -1 := rfl
    have e2 : BitVec.ofInt 64 (-1) = BitVec.allOnes 64 := rfl
    rw [e1, e2, if_pos rfl]
    simp only [BitVec.xor_allOnes, BitVec.toNat_not, BitVec.toNat_ofInt]
    rw [wrap_i64]
    have : (((n / 2 ^ 1 : Nat) : Int) % ((2 ^ 64 : Nat) : Int)).toNat = n / 2 := by omega
    rw [this]
    have h3 : 2 ^ 64 - 1 - n / 2 = 18446744073709551615 - n / 2 := rfl
    rw [h3, if_neg (by omega)]
    omega
theorem zig_eq {n : Int} (h1 : -9223372036854775808 ≤ n) (h2 : n < 9223372036854775808) :
    bitsOf .xor .u64 (IntKind.u64.wrap (IntKind.i64.wrap (n * 2 ^ (min (1 : Int).toNat IntKind.i64.bits)))) (IntKind.u64.wrap (Int.fdiv n (2 ^ (min (63 : Int).toNat IntKind.i64.bits)))) = ((zig n : Nat) : Int) := by
  have e : min (1 : Int).toNat IntKind.i64.bits = 1 := rfl
  have e63 : min (63 : Int).toNat IntKind.i64.bits = 63 := rfl
  rw [e, e63]
  have hw : IntKind.u64.wrap (IntKind.i64.wrap (n * 2 ^ 1)) = (((n * 2) % 18446744073709551616).toNat : Int) := by
    rw [wrap_u64, wrap_i64]
    split <;> omega
  rw [hw]
  unfold zig
  have hp : (2 : Int) ^ 63 = 9223372036854775808 := by decide
  have hf : Int.fdiv n (2 ^ 63) = if n < 0 then -1 else 0 := by
    rw [hp, Int.fdiv_eq_ediv_of_nonneg _ (by decide)]
    split <;> omega
  rw [hf]
  by_cases h : n < 0
  · rw [if_pos h, if_pos h]
    have e2 : IntKind.u64.wrap (-1) = ((18446744073709551615 : Nat) : Int) := rfl
    rw [e2, xor_nat (by omega) (by decide)]
    congr 1
    obtain ⟨m, hm⟩ : ∃ m : Nat, ((n * 2) % 18446744073709551616).toNat = m ∧ m < 2 ^ 64 := ⟨_, rfl, by omega⟩
    rw [hm.1]
    have key : m ^^^ 18446744073709551615 = 18446744073709551615 - m := by
      apply Nat.eq_of_testBit_eq
      intro i
      rw [Nat.testBit_xor]
      have h1 := Nat.testBit_two_pow_sub_succ (n := 64) (x := m) hm.2 i
      have h2 : 2 ^ 64 - (m + 1) = 18446744073709551615 - m := by omega
      rw [h2] at h1
      have h3 := Nat.testBit_two_pow_sub_one 64 i
      have h4 : 2 ^ 64 - 1 = 18446744073709551615 := by decide
      rw [h4] at h3
      rw [h1, h3]
      by_cases hi : i < 64
      · simp [hi]
      · have : m.testBit i = false := Nat.testBit_lt_two_pow (Nat.lt_of_lt_of_le hm.2 (Nat.pow_le_pow_right (by decide) (by omega)))
        simp [hi, this]
    rw [key]
    omega
  · rw [if_neg h, if_neg h]
    have e2 : IntKind.u64.wrap 0 = ((0 : Nat) : Int) := rfl
    rw [e2, xor_nat (by omega) (by decide), Nat.xor_zero]
    congr 1
    omega
end Go.Am
set_option linter.unusedSimpArgs false
set_option linter.unusedVariables false
set_option linter.unusedSectionVars false
namespace Go.Am
open Go Go.RowKit
variable [SymE]
inductive Rw (aw : AW) : Value → List UInt8 → Prop
  | of {v : Value} {bs : List UInt8} (h : Rb aw v bs) : Rw aw v bs
  | void {b off c : Nat} : Rw aw (.slice (some ⟨b, off, none⟩) 0 c) []
section
variable {aw aw0 : AW} {own : List Nat} {ro l L S S' : List (Nat × Blk)} {v : Value} {bs : List UInt8}
theorem Rw.len (h : Rw aw v bs) : ∃ q c, v = .slice q bs.length c := by
  cases h with
  | of h => exact h.len
  | void => exact ⟨_, _, rfl⟩
theorem Rw.src (h : Rw aw v bs) : Src aw 1 v bs.length (bytesV bs) := by
  cases h with
  | of h => exact h.src
  | void => exact .slice (by simp [AW.getN, bytesV])
theorem slen_w {X : Int → Prop} (h : Rw aw v bs) (hX : X (bs.length : Int)) : slen v X := by
  obtain ⟨q, c, rfl⟩ := h.len
  exact slen_x hX
theorem toS_w {X : ByteArray → Prop} (h : Rw aw v bs) (hX : X ⟨bs.toArray⟩) : toS aw v X := by
  obtain ⟨q, c, e⟩ := h.len
  exact ⟨bs, bs.length, _, h.src, ⟨q, _, c, e⟩, rfl, hX⟩
def Rws (aw0 : AW) (own : List Nat) (ro S : List (Nat × Blk)) (v : Value) (bs : List UInt8) : Prop := ∀ (aw : AW) (L : List (Nat × Blk)), Hp aw0 own ro aw L → (∀ p ∈ S, p ∈ L) → Rw aw v bs
theorem Rws.more (h : Rws aw0 own ro S v bs) (hs : ∀ p ∈ S, p ∈ S') : Rws aw0 own ro S' v bs := fun aw L M hl => h aw L M fun p hp => hl p (hs p hp)
theorem Rs.w (h : Rs aw0 own ro S v bs) : Rws aw0 own ro S v bs := fun aw L M hl => .of (h aw L M hl)
end
end Go.Am
set_option linter.unusedSimpArgs false
set_option linter.unusedVariables false
namespace Go.Oc
theorem zig_zag (n : Nat) : zig (zag n) = n := by
  unfold zig zag
  split <;> split <;> omega
theorem zag_lt {n : Nat} (h : n < 2 ^ 64) : -9223372036854775808 ≤ zag n ∧ zag n < 9223372036854775808 := by
  unfold zag
  split <;> omega
theorem rU_back {s : St} {n : Nat} {r : List UInt8} (h : rU s = (n, some r)) : s = some (encU n ++ r) ∧ n < 2 ^ 64 := by
  cases s with
  | none => cases h
  | some p =>
    have h' : (match rdU p with | none => ((0, none) : Nat × St) | some (n, r) => (n, some r)) = (n, some r) := h
    cases hq : rdU p with
    | none => rw [hq] at h'; cases h'
    | some q =>
      obtain ⟨n', r'⟩ := q
      rw [hq] at h'
      simp only [Prod.mk.injEq, Option.some.injEq] at h'
      obtain ⟨rfl, rfl⟩ := h'
      exact ⟨congrArg some (enc_rdU hq), rdU_lt hq⟩
theorem rI_back {s : St} {n : Int} {r : List UInt8} (h : rI s = (n, some r)) : s = some (encU (zig n) ++ r) ∧ -9223372036854775808 ≤ n ∧ n < 9223372036854775808 := by
  unfold rI at h
  simp only [Prod.mk.injEq] at h
  obtain ⟨rfl, h2⟩ := h
  have : rU s = ((rU s).1, some r) := by rw [← h2]
  obtain ⟨k1, k2⟩ := rU_back this
  rw [zig_zag]
  exact ⟨k1, zag_lt k2⟩
theorem rUp_back {most : Nat} {s : St} {n : Nat} {r : List UInt8} (h : rUp most s = (n, some r)) : s = some (encU n ++ r) ∧ n ≤ most ∧ n < 2 ^ 64 := by
  unfold rUp at h
  split at h
  · cases h
  · rename_i hc
    obtain ⟨k1, k2⟩ := rU_back h
    rw [h] at hc
    simp at hc
    exact ⟨k1, hc, k2⟩
theorem rB_back {most : Nat} {s : St} {l r : List UInt8} (h : rB most s = (l, some r)) : s = some (encB l ++ r) ∧ l.length ≤ most := by
  unfold rB at h
  split at h
  · cases h
  · rename_i q hq
    have : rUp most s = ((rUp most s).1, some q) := by rw [← hq]
    obtain ⟨k1, k2, k3⟩ := rUp_back this
    split at h
    · cases h
    · rename_i hlt
      simp only [Prod.mk.injEq, Option.some.injEq] at h
      obtain ⟨h1, h2⟩ := h
      have hl : l.length = (rUp most s).1 := by rw [← h1, List.length_take]; omega
      refine ⟨?_, by omega⟩
      rw [k1]
      unfold encB
      rw [hl, List.append_assoc, ← h1, ← h2, List.take_append_drop]
def TR : Nat := 1048576
abbrev Bnd := List UInt8 × List UInt8 × List UInt8
def encBnd (b : Bnd) : List UInt8 := encB b.1 ++ (encB b.2.1 ++ encB b.2.2)
def encMv (m : Bool × Int) : List UInt8 := encU (bif m.1 then 1 else 0) ++ encU (zig m.2)
structure Outc where
  E : Int
  At : Int
  Raise : List UInt8
  Binds : List Bnd
  Out : List UInt8
  Moves : List (Bool × Int)
def encBs (l : List Bnd) : List UInt8 := l.flatMap encBnd
def encMs (l : List (Bool × Int)) : List UInt8 := l.flatMap encMv
def encO (o : Outc) : List UInt8 := encU (zig o.E) ++ (encU (zig o.At) ++ (encB o.Raise ++ (encU o.Binds.length ++ (encBs o.Binds ++ (encB o.Out ++ (encU o.Moves.length ++ encMs o.Moves))))))
def rBnd (s : St) : Bnd × St := let a := rB TR s; let b := rB TR a.2; let c := rB TR b.2; ((a.1, b.1, c.1), c.2)
def rMv (s : St) : (Bool × Int) × St := let a := rUp 1 s; let b := rI a.2; ((decide (a.1 = 1), b.1), b.2)
def rMany {α : Type} (f : St → α × St) : Nat → St → List α × St
  | 0, s => ([], s)
  | _ + 1, none => ([], none)
  | n + 1, some r => ((f (some r)).1 :: (rMany f n (f (some r)).2).1, (rMany f n (f (some r)).2).2)
theorem pback {α : Type} {x : α × St} {r : List UInt8} (e : x.2 = some r) : x = (x.1, some r) := by rw [← e]
theorem rMany_none {α : Type} {f : St → α × St} : ∀ n, rMany f n none = ([], none)
  | 0 => rfl
  | _ + 1 => rfl
theorem rMany_back {α : Type} {f : St → α × St} {enc : α → List UInt8} {ok : α → Prop} (hf : ∀ s x r, f s = (x, some r) → s = some (enc x ++ r) ∧ ok x) : ∀ (n : Nat) (s : St) (l : List α) (r : List UInt8), rMany f n s = (l, some r) → s = some (l.flatMap enc ++ r) ∧ l.length = n ∧ ∀ x ∈ l, ok x
  | 0, s, l, r, h => by
    simp only [rMany, Prod.mk.injEq] at h
    obtain ⟨rfl, rfl⟩ := h
    exact ⟨rfl, rfl, fun x hx => by cases hx⟩
  | n + 1, none, l, r, h => by cases h
  | n + 1, some q, l, r, h => by
    simp only [rMany, Prod.mk.injEq] at h
    obtain ⟨h1, h2⟩ := h
    have h3 : rMany f n (f (some q)).2 = ((rMany f n (f (some q)).2).1, some r) := by rw [← h2]
    obtain ⟨k1, k2, k3⟩ := rMany_back hf n _ _ _ h3
    have h4 : f (some q) = ((f (some q)).1, some ((rMany f n (f (some q)).2).1.flatMap enc ++ r)) := by rw [← k1]
    obtain ⟨g1, g2⟩ := hf _ _ _ h4
    subst h1
    refine ⟨?_, by simp [k2], fun x hx => ?_⟩
    · refine g1.trans ?_
      rw [List.flatMap_cons, List.append_assoc]
    · rcases List.mem_cons.1 hx with rfl | hx
      · exact g2
      · exact k3 x hx
def rdO (p : List UInt8) : Outc × St :=
  let e := rI (some p); let t := rI e.2; let ra := rB TR t.2; let n := rUp 65536 ra.2; let bs := rMany rBnd n.1 n.2; let u := rB TR bs.2; let k := rUp 65536 u.2; let ms := rMany rMv k.1 k.2
  (⟨e.1, t.1, ra.1, bs.1, u.1, ms.1⟩, ms.2)
theorem rBnd_back (s : St) (x : Bnd) (r : List UInt8) (h : rBnd s = (x, some r)) : s = some (encBnd x ++ r) ∧ True := by
  simp only [rBnd, Prod.mk.injEq] at h
  obtain ⟨h1, h2⟩ := h
  obtain ⟨k3, _⟩ := rB_back (pback h2)
  obtain ⟨k2, _⟩ := rB_back (pback k3)
  obtain ⟨k1, _⟩ := rB_back (pback k2)
  subst h1
  refine ⟨k1.trans ?_, trivial⟩
  simp only [encBnd, List.append_assoc]
theorem rMv_back (s : St) (x : Bool × Int) (r : List UInt8) (h : rMv s = (x, some r)) : s = some (encMv x ++ r) ∧ (-9223372036854775808 ≤ x.2 ∧ x.2 < 9223372036854775808) := by
  simp only [rMv, Prod.mk.injEq] at h
  obtain ⟨h1, h2⟩ := h
  obtain ⟨k2, k3⟩ := rI_back (pback h2)
  obtain ⟨k1, k4, _⟩ := rUp_back (pback k2)
  subst h1
  refine ⟨k1.trans ?_, k3⟩
  have : (bif decide ((rUp 1 s).1 = 1) then 1 else 0 : Nat) = (rUp 1 s).1 := by
    by_cases hq : (rUp 1 s).1 = 1
    · rw [hq]; rfl
    · rw [decide_eq_false hq]; show 0 = _; omega
  simp only [encMv, this, List.append_assoc]
structure Outc.Ok (o : Outc) : Prop where
  e : -9223372036854775808 ≤ o.E ∧ o.E < 9223372036854775808
  a : -9223372036854775808 ≤ o.At ∧ o.At < 9223372036854775808
  m : ∀ x ∈ o.Moves, -9223372036854775808 ≤ x.2 ∧ x.2 < 9223372036854775808
theorem rdO_back {p : List UInt8} (h : (rdO p).2 = some []) : p = encO (rdO p).1 ∧ (rdO p).1.Ok := by
  obtain ⟨k8, l8, o8⟩ := rMany_back rMv_back _ _ _ _ (pback h)
  obtain ⟨k7, l7, _⟩ := rUp_back (pback k8)
  obtain ⟨k6, l6⟩ := rB_back (pback k7)
  obtain ⟨k5, l5, _⟩ := rMany_back rBnd_back _ _ _ _ (pback k6)
  obtain ⟨k4, l4, _⟩ := rUp_back (pback k5)
  obtain ⟨k3, l3⟩ := rB_back (pback k4)
  obtain ⟨k2, l2⟩ := rI_back (pback k3)
  obtain ⟨k1, l1⟩ := rI_back (pback k2)
  refine ⟨?_, ⟨l1, l2, o8⟩⟩
  have := Option.some.inj k1
  refine this.trans ?_
  unfold encO rdO
  simp only [l8, l5, encBs, encMs, List.append_nil]
end Go.Oc
set_option linter.unusedSimpArgs false
set_option linter.unusedVariables false
set_option linter.unusedSectionVars false
namespace Go.Am
open Go Go.RowKit
variable [SymE]
section
variable {aw0 aw : AW} {own : List Nat} {ro l L S S' : List (Nat × Blk)} {v : Value} {size n el : Nat} {os cs : List Value}
inductive Fs (aw0 : AW) (own : List Nat) (ro S : List (Nat × Blk)) (size : Nat) : Value → Nat → List Value → Prop
  | nil : Fs aw0 own ro S size (.slice none 0 0) 0 []
  | emp {b off c : Nat} : Fs aw0 own ro S size (.slice (some ⟨b, off, none⟩) 0 c) 0 []
  | at {b off c n : Nat} {os : List Value} (hb : ∀ (aw : AW) (L : List (Nat × Blk)), Hp aw0 own ro aw L → (∀ p ∈ S, p ∈ L) → ∃ B, aw.m b = some B ∧ ∀ i v, os[i]? = some v → B.cells[off + i]? = some v) (hl : os.length = n * size) :
      Fs aw0 own ro S size (.slice (some ⟨b, off, none⟩) n c) n os
theorem Fs.more (h : Fs aw0 own ro S size v n os) (hs : ∀ p ∈ S, p ∈ S') : Fs aw0 own ro S' size v n os := by
  cases h with
  | nil => exact .nil
  | emp => exact .emp
  | «at» hb hl => exact .at (fun aw L M hS => hb aw L M fun p hp => hS p (hs p hp)) hl
theorem Fs.val (h : Fs aw0 own ro S size v n os) : ∃ q c, v = .slice q n c := by
  cases h <;> exact ⟨_, _, rfl⟩
theorem Fs.len (h : Fs aw0 own ro S size v n os) : os.length = n * size := by
  cases h with
  | nil => simp
  | emp => simp
  | «at» _ hl => exact hl
theorem Fs.one' (h : Fs aw0 own ro S size v n os) : one v = true := by
  cases h <;> rfl
theorem slen_f {X : Int → Prop} (h : Fs aw0 own ro S size v n os) (hX : X (n : Int)) : slen v X := by
  obtain ⟨q, c, rfl⟩ := h.val
  exact slen_x hX
theorem ix_f {X : Value → Prop} {j : Int} {i : Nat} (h : Fs aw0 own ro S size v n os) (hj : j = (i : Int)) (hi : i < n)
    (hX : ∀ b o, (∀ (aw : AW) (L : List (Nat × Blk)), Hp aw0 own ro aw L → (∀ p ∈ S, p ∈ L) → ∀ (k : Nat) (u : Value), os[i * size + k]? = some u → aw.get b (o + k) = some u) → X (.pointer (some ⟨b, o, none⟩))) : ixS v j size X := by
  subst hj
  cases h with
  | nil => omega
  | emp => omega
  | «at» hb hl =>
    rename_i b off c
    refine ⟨b, off, n, c, _, rfl, by omega, by omega, rfl, hX b (off + ((i : Int).toNat) * size) fun aw L M hS k u hu => ?_⟩
    obtain ⟨B, hB, hc⟩ := hb aw L M hS
    exact get_m hB (by rw [show off + (i : Int).toNat * size + k = off + (i * size + k) by simp [Nat.add_assoc]]; exact hc _ _ hu)
structure FO (el size : Nat) (v : Value) (n : Nat) (os : List Value) (L : List (Nat × Blk)) : Prop where
  p : SlP el size v n os L
  l : os.length = n * size
theorem FO.nil : FO el size (.slice none 0 0) 0 [] [] := ⟨.nil, by simp⟩
theorem FO.one' (h : FO el size v n os L) : one v = true := by
  have := h.p
  cases this <;> rfl
theorem FO.fs (h : FO el size v n os L) : Fs aw0 own ro L size v n os := by
  have hl := h.l
  have hp := h.p
  cases hp with
  | nil => exact .nil
  | some _ =>
    rename_i b
    exact .at (fun aw L' M hS => ⟨_, (M.at_ _ (hS _ (List.mem_singleton.2 rfl))).1, fun i v hi => by simpa using hi⟩) hl
theorem FO.push {K : Value → AW → Prop} {bytes : Nat} {xv : Value} (h : FO el size v n os L) (M : Hp aw0 own ro aw (L ++ l)) (hb : (2 * (n + 1) + 768) * bytes ≤ 2 ^ 48) (hx : Src aw size xv 1 cs) (ho : cs.all one = true) (hc : cs.length = size)
    (hK : ∀ v' L' aw', FO el size v' (n + 1) (os ++ cs) L' → Hp aw0 own ro aw' (L' ++ l) → K v' aw') : app aw el size bytes v xv K := by
  have hl := h.l
  refine app_p h.p M hx (by decide) ho hb fun b aw' M' => ?_
  rw [List.take_of_length_le (by omega)] at M'
  have hlen : (os ++ cs).length = (n + 1) * size := by rw [List.length_append, hl, hc, Nat.add_mul, Nat.one_mul]
  exact hK _ [(b, _)] aw' ⟨.some (by omega), hlen⟩ M'
end
end Go.Am
set_option linter.unusedSimpArgs false
set_option linter.unusedVariables false
set_option linter.unusedSectionVars false
namespace Go.Ri
open Go Go.Am Go.RowKit
def slD {H : Type} (s : List (List UInt8)) : DataW H := .slice (s.map fun x => .lit (.string x)) []
theorem trod_slices [SymE] {H : Type} {enc : TypeId × Value → H} {P : Program} {w : World} {fuel : Nat} {t e1 e n : Nat} {cs : List Value} {ss : List (List (List UInt8))} {p : List MemPlace}
    (ht : P.underlying t = some (.array n e1)) (h1 : P.underlying e1 = some (.slice e)) (he : P.underlying e = some .string) (hc1 : P.cellsOf e1 = 1) (hc : P.cellsOf e = 1) (hct : P.cellsOf t = n)
    (h : DataW.trod enc P w 0 (fun _ => true) false fuel t cs = some (.agg (ss.map slD), p)) : cs.length = ss.length ∧ ∀ (i : Nat) (s : List (List UInt8)), ss[i]? = some s → s ≠ [] →
      ∃ a, cs[i]? = some (.slice (some a) s.length s.length) ∧ a.spot = none ∧ ∃ C el fz, w.heap[a.block]? = some (.cells C el fz) ∧ ∀ (j : Nat) (x : List UInt8), s[j]? = some x → C[a.off + j]? = some (.string ⟨⟨x⟩⟩) := by
  obtain ⟨xs, m, _, hx, hlen, hn, hel⟩ := DataW.trod_array ht h
  simp only [Prod.mk.injEq, DataW.agg.injEq] at hx
  have hl : ss.length = n := by
    have := congrArg List.length hx.1
    simp at this; omega
  refine ⟨by omega, fun i s hs hne => ?_⟩
  have hi : i < n := by have := (List.getElem?_eq_some_iff.1 hs).1; omega
  have h2 := hel i hi
  rw [hc1, Nat.mul_one] at h2
  have hi' : i < cs.length := by omega
  have h3 : (cs.drop i).take 1 = [cs[i]] := by
    rw [List.drop_eq_getElem_cons hi']; rfl
  rw [h3] at h2
  have hxi : i < xs.length := by omega
  rw [List.getElem?_eq_getElem hxi] at h2
  have hx1 : (xs[i]).1 = slD s := by
    have := congrArg (fun l => l[i]?) hx.1
    simp only [List.getElem?_map, hs, List.getElem?_eq_getElem hxi, Option.map_some, Option.some.injEq] at this
    exact this.symm
  rcases DataW.trod_slice h1 h2 with ⟨_, h4⟩ | ⟨a, len, cap, elems, rest, q, _, h4, h5, h6, h7, h8, h9, h10, h11, _⟩
  · rw [h4] at hx1
    simp [slD] at hx1
  · have h5' : (xs[i]).1 = .slice (elems.map (·.1)) (rest.map (·.1)) := by rw [h5]
    rw [hx1] at h5'
    simp only [slD, DataW.slice.injEq] at h5'
    obtain ⟨g1, g2⟩ := h5'
    have hr0 : rest = [] := by
      cases rest with
      | nil => rfl
      | cons x r => simp at g2
    obtain ⟨k1, _⟩ := h11 rfl
    rw [hr0] at k1
    have hcap : cap = len := by simp at k1; omega
    have hlen' : len = s.length := by
      have := congrArg List.length g1
      simp at this; omega
    have hel2 : ∀ (j : Nat) (x : List UInt8), s[j]? = some x → (j = 0 → a.spot = none) ∧ ∃ C el fz, w.heap[a.block]? = some (.cells C el fz) ∧ C[a.off + j]? = some (.string ⟨⟨x⟩⟩) := by
      intro j x hj
      have hjl : j < len := by have := (List.getElem?_eq_some_iff.1 hj).1; omega
      have h12 := h10 j hjl
      rw [hc, Nat.mul_one] at h12
      have hje : j < elems.length := by omega
      rw [List.getElem?_eq_getElem hje] at h12
      cases hcl : w.cells? 0 (a.add j) 1 with
      | none => rw [hcl] at h12; cases h12
      | some c =>
        rw [hcl] at h12
        simp only [Option.bind_some] at h12
        obtain ⟨u, e1, e2, _⟩ := DataW.trod_string he h12
        have hxj : (elems[j]).1 = .lit (.string x) := by
          have := congrArg (fun l => l[j]?) g1
          simp only [List.getElem?_map, hj, List.getElem?_eq_getElem hje, Option.map_some, Option.some.injEq] at this
          exact this.symm
        rw [e2] at hxj
        simp only [DataW.lit.injEq, Lit.string.injEq] at hxj
        obtain ⟨hsp, C, el, fz, hh, hsz, hcc⟩ := cells_at hcl (by decide)
        obtain ⟨f1, f2⟩ := add_lit' a j
        rw [f1] at hh
        rw [f2] at hcc hsz
        refine ⟨fun h0 => by subst h0; simpa [Addr.add] using hsp, C, el, fz, hh, ?_⟩
        have hlt : a.off + j < C.size := by omega
        have : C.toList.drop (a.off + j) = C[a.off + j] :: C.toList.drop (a.off + j + 1) := by
          rw [List.drop_eq_getElem_cons (by simpa using hlt)]; simp
        rw [this] at hcc
        simp only [List.take_succ_cons, List.take_zero] at hcc
        rw [e1] at hcc
        simp only [List.cons.injEq, and_true] at hcc
        rw [Array.getElem?_eq_getElem hlt, ← hcc]
        rcases u with ⟨⟨u⟩⟩
        simp only at hxj
        rw [hxj]
    obtain ⟨x0, hx0⟩ : ∃ x0, s[0]? = some x0 := by
      cases s with
      | nil => exact absurd rfl hne
      | cons x r => exact ⟨x, rfl⟩
    obtain ⟨hsp, C, el, fz, hh, _⟩ := hel2 0 x0 hx0
    refine ⟨a, ?_, hsp rfl, C, el, fz, hh, fun j x hj => ?_⟩
    · simp only [List.cons.injEq, and_true] at h4
      rw [List.getElem?_eq_getElem hi', h4, hcap, hlen']
    · obtain ⟨_, C', el', fz', hh', hc'⟩ := hel2 j x hj
      rw [hh] at hh'
      have hq := Option.some.inj hh'
      injection hq with q1 q2 q3
      subst q1
      exact hc'
theorem rel_memR [SymE] [FT] [FTok] {G n : Nat} {W : World} {ents : List Ent} {l : List (Nat × List Value × TypeId × Nat)} (hn : n = G + ents.length)
    (h : ∀ p ∈ l, p.1 < n ∧ ∃ e cs fz, inj0 G W ents p.1 = some e ∧ e.esz = p.2.2.2 ∧ (p.2.2.2 = 0 → e.off = 0 ∧ e.csize = p.2.1.length) ∧ W.heap[e.cb]? = some (.cells cs p.2.2.1 fz) ∧ cs.size = e.csize ∧ e.off + p.2.1.length ≤ e.csize ∧
      ∀ (i : Nat) (v : Value), p.2.1[i]? = some v → ∃ v', cs[e.off + i]? = some v' ∧ VR (inj0 G W ents) v v') : Rel G (· < W.heap.size) W (inj0 G W ents) (memR n l).abs W := by
  have r := rel_start G W ents
  subst hn
  refine ⟨r.fresh, fun b hb => ?_, fun b B hB => ?_, fun b1 b2 B1 B2 e1 e2 _ hB1 _ _ _ hrw => ?_, r.hbase, r.glob, r.below, Maps.none fun b => T.get_leaf b⟩
  · cases hB : (memR (G + ents.length) l).abs.m b with
    | none => rfl
    | some B =>
      obtain ⟨p, hp, rfl, _⟩ := memR_abs l b B hB
      have := (h p hp).1
      have hb' : G + ents.length ≤ p.1 := hb
      omega
  · obtain ⟨p, hp, rfl, rfl⟩ := memR_abs l b B hB
    obtain ⟨_, e, cs, fz, h1, h2, h3, h4, h5, h6, h7⟩ := h p hp
    exact ⟨e, cs, fz, h1, ⟨h2, (fun h => by cases h), h3⟩, h4, h5, h6, h7, (fun h => by cases h)⟩
  · obtain ⟨p, hp, rfl, rfl⟩ := memR_abs l b1 B1 hB1
    cases hrw
end Go.Ri
set_option linter.unusedVariables false
set_option linter.unusedSimpArgs false
namespace Go.Ri
open Go Go.Am
@[reducible] def symOf (l : List (IntKind × Int)) : SymE := ⟨fun i => .int (l.getD i (.i64, 0)).1 (l.getD i (.i64, 0)).2, fun i => .inl ⟨_, _, rfl⟩⟩
end Go.Ri
