/- Steps through shallow code: slices that grow, parts of slices. -/
import Derived.Test.YtfoceofohlpafaaDoorAm22
set_option linter.unusedSimpArgs false
set_option linter.unusedVariables false
set_option linter.unusedSectionVars false
namespace Go.Am
open Go Go.RowKit
variable [SymE]

section
universe u
variable {α : Type u} {aw0 aw : AW} {own : List Nat} {ro l l' : List (Nat × Blk)} {b i n c k m off size el bytes : Nat} {B B' : Blk} {v p xv : Value} {cs os : List Value}

theorem getN_m (h : aw.m b = some B) : ∀ {n i : Nat}, i + n ≤ B.cells.length → aw.getN b i n = some ((B.cells.drop i).take n)
  | 0, i, _ => by simp [AW.getN]
  | n + 1, i, hl => by
    have hi : i < B.cells.length := by omega
    have e : aw.get b i = some B.cells[i] := by simp [AW.get, h, hi]
    simp only [AW.getN, e, getN_m h (n := n) (i := i + 1) (by omega), Option.map_some]
    rw [List.drop_eq_getElem_cons hi, List.take_succ_cons]
theorem Hp.dropL : ∀ {L : List (Nat × Blk)}, Hp aw0 own ro aw (L ++ l) → Hp aw0 own ro aw l
  | [], M => M
  | _ :: L, M => Hp.dropL (L := L) (M.drop .here)
/-- a stretch of cells -/
inductive Seg : List Value → Nat → Nat → List Value → Prop
  | nil {r : List Value} : Seg r 0 0 []
  | take {c : Value} {r s : List Value} {n : Nat} (h : Seg r 0 n s) : Seg (c :: r) 0 (n + 1) (c :: s)
  | drop {c : Value} {r s : List Value} {i n : Nat} (h : Seg r i n s) : Seg (c :: r) (i + 1) n s
theorem Seg.spec {r s : List Value} {i n : Nat} (h : Seg r i n s) : i + n ≤ r.length ∧ (r.drop i).take n = s := by
  induction h with
  | nil => simp
  | take _ ih => simp at ih ⊢; exact ⟨by omega, ih.2⟩
  | drop _ ih => simp at ih ⊢; exact ⟨by omega, ih.2⟩
theorem src_x (hi : In aw b B) (hl : i + n * size ≤ B.cells.length) (hc : (B.cells.drop i).take (n * size) = cs) : Src aw size (.slice (some ⟨b, i, none⟩) n c) n cs := by
  subst hc; exact .slice (getN_m hi.1 hl)
theorem src_s (hi : In aw b B) (hm : n * size = m) (h : Seg B.cells i m cs) : Src aw size (.slice (some ⟨b, i, none⟩) n c) n cs := by
  obtain ⟨h1, h2⟩ := h.spec
  subst hm
  exact src_x hi h1 h2
/-- to nothing something is appended -/
theorem app_nil {K : Value → AW → Prop} (M : Hp aw0 own ro aw l) (hs : Src aw size xv n cs) (h0 : 0 < n) (hb : (2 * n + 768) * bytes ≤ 2 ^ 48)
    (h : ∀ b aw', Hp aw0 own ro aw' ((b, ⟨cs, el, size, true, 0⟩) :: l) → K (.slice (some ⟨b, 0, none⟩) n UNK) aw') : app aw el size bytes (.slice none 0 0) xv K := by
  have := App.grows (el := el) (bytes := bytes) (q := none) (l := 0) (c := 0) (aw := aw) (xv := xv) (.nil) hs (by unfold UNK; omega) (by omega) (by simpa using hb)
  rw [List.nil_append, Nat.zero_add] at this
  exact ⟨_, _, this, h _ _ (M.alloc el size)⟩
theorem app_none {K : Value → AW → Prop} {q : Option Addr} (hs : Src aw size xv 0 cs) (h : K (.slice q n c) aw) : app aw el size bytes (.slice q n c) xv K := ⟨_, _, .none hs, h⟩
/-- to what may have room -/
theorem app_mv {K : Value → AW → Prop} (M : Hp aw0 own ro aw l) (ho : Out l b ⟨os, el, size, true, 0⟩ l') (hn : n * size ≤ os.length) (hs : Src aw size xv k cs) (h1 : cs.all one = true) (hb : (2 * (n + k) + 768) * bytes ≤ 2 ^ 48)
    (h : ∀ b aw', Hp aw0 own ro aw' ((b, ⟨os.take (n * size) ++ cs, el, size, true, 0⟩) :: l') → K (.slice (some ⟨b, 0, none⟩) (n + k) UNK) aw') : app aw el size bytes (.slice (some ⟨b, 0, none⟩) n UNK) xv K := by
  have hB := M.m ho.at_
  have hg : aw.getN b 0 (n * size) = some (os.take (n * size)) := by
    rw [getN_m hB (by simpa using hn)]; simp
  exact ⟨_, _, .moves hg hs (Nat.le_refl _) hB rfl rfl rfl rfl h1 hb, h _ _ ((M.kill ho).alloc el size)⟩
theorem cutV_x {K : Value → Prop} {lo hi : Int} {a d : Nat} (hlo : lo = (a : Int)) (hhi : hi = (d : Int)) (h1 : a ≤ d) (h2 : d ≤ n) (hB : In aw b B) (he : B.esz = size) (h : K (.slice (some ⟨b, i + a * size, none⟩) (d - a) UNK)) :
    cutV aw size (.slice (some ⟨b, i, none⟩) n UNK) lo hi K := by
  subst hlo; subst hhi
  refine ⟨_, .some (lo := a) (hi := d) h1 (by rw [if_neg (Nat.lt_irrefl _)]; exact h2) (fun _ => ⟨B, hB.1, he⟩), ?_⟩
  simpa [capOf] using h
/-- a slice that is nil, or has a block of its own -/
inductive SlP (el size : Nat) : Value → Nat → List Value → List (Nat × Blk) → Prop
  | nil : SlP el size (.slice none 0 0) 0 [] []
  | some {b n : Nat} {os : List Value} (h : n * size ≤ os.length) : SlP el size (.slice (some ⟨b, 0, none⟩) n UNK) n os [(b, ⟨os, el, size, true, 0⟩)]
theorem SlP.len {L : List (Nat × Blk)} (h : SlP el size v n os L) : n * size ≤ os.length := by
  cases h with
  | nil => simp
  | some h => exact h
theorem SlP.val {L : List (Nat × Blk)} (h : SlP el size v n os L) : ∃ q c, v = .slice q n c := by
  cases h with
  | nil => exact ⟨_, _, rfl⟩
  | some h => exact ⟨_, _, rfl⟩
theorem app_p {L : List (Nat × Blk)} {K : Value → AW → Prop} (hp : SlP el size v n os L) (M : Hp aw0 own ro aw (L ++ l)) (hs : Src aw size xv k cs) (h0 : 0 < k) (h1 : cs.all one = true) (hb : (2 * (n + k) + 768) * bytes ≤ 2 ^ 48)
    (h : ∀ b aw', Hp aw0 own ro aw' ((b, ⟨os.take (n * size) ++ cs, el, size, true, 0⟩) :: l) → K (.slice (some ⟨b, 0, none⟩) (n + k) UNK) aw') : app aw el size bytes v xv K := by
  cases hp with
  | nil =>
    refine app_nil M hs h0 (by rw [Nat.zero_add] at hb; exact hb) fun b aw' M => ?_
    have := h b aw' (by simpa using M)
    rwa [Nat.zero_add] at this
  | some hl => exact app_mv M .here hl hs h1 hb h
theorem all_one_W {f : α → Value} (hf : ∀ x, one (f x) = true) (ws : List α) : (ws.map f).all one = true := by simp [hf]
end
end Go.Am
