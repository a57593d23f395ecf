/- ParseNames: its text, of names that are not known. -/
import Derived.Test.YthfjjcfceilahaaGreatDoorPn0
set_option linter.unusedSimpArgs false
set_option linter.unusedVariables false
set_option linter.unusedSectionVars false
namespace Go.Ri
open Go Go.Am
def jn : List UInt8 → List UInt8
  | [] => []
  | [c] => [c]
  | c :: d :: l => c :: 44 :: 32 :: jn (d :: l)
def tj : Nat → Tpl
  | 0 => []
  | 1 => [none]
  | n + 2 => none :: some 44 :: some 32 :: tj (n + 1)
theorem jn_snoc (c : UInt8) : ∀ {l : List UInt8}, l ≠ [] → jn (l ++ [c]) = jn l ++ [44, 32, c]
  | [], h => absurd rfl h
  | [a], _ => rfl
  | a :: b :: l, _ => by
    have := jn_snoc c (l := b :: l) (by simp)
    show a :: 44 :: 32 :: jn (b :: (l ++ [c])) = a :: 44 :: 32 :: (jn (b :: l) ++ [44, 32, c])
    rw [← this]; rfl
theorem jn_fits : ∀ {l : List UInt8}, (∀ c ∈ l, let' c = true) → Fits (tj l.length) (jn l)
  | [], _ => .nil
  | [a], h => .any a (h a (by simp)) .nil
  | a :: b :: l, h => .any a (h a (by simp)) (.lit 44 (.lit 32 (jn_fits (l := b :: l) fun c hc => h c (List.mem_cons_of_mem _ hc))))
theorem jn_len : ∀ {l : List UInt8}, l ≠ [] → (jn l).length = 3 * l.length - 2
  | [], h => absurd rfl h
  | [a], _ => rfl
  | a :: b :: l, _ => by
    have := jn_len (l := b :: l) (by simp)
    simp only [jn, List.length_cons] at this ⊢
    omega
theorem jn_get : ∀ {l : List UInt8} (i : Nat), (jn l)[3 * i]? = l[i]?
  | [], i => by simp [jn]
  | [a], i => by cases i with
    | zero => rfl
    | succ i => simp [jn, show 3 * (i + 1) = 3 * i + 2 + 1 by omega]
  | a :: b :: l, i => by cases i with
    | zero => rfl
    | succ i =>
      have := jn_get (l := b :: l) i
      rw [show 3 * (i + 1) = 3 * i + 2 + 1 by omega]
      show (44 :: 32 :: jn (b :: l))[3 * i + 2]? = _
      simpa using this
def preN : List UInt8 := [109, 97, 116, 99, 104, 32, 121, 32, 119, 105, 116, 104, 32, 40]
def postN : List UInt8 := [41, 32, 45, 62, 32, 49]
def txtN (cs : List UInt8) : List UInt8 := preN ++ jn cs ++ postN
noncomputable def tplN (n : Nat) : Tpl := preN.map some ++ tj n ++ postN.map some
theorem txtN_fits {cs : List UInt8} (h : ∀ c ∈ cs, let' c = true) : Fits (tplN cs.length) (txtN cs) := (Fits.lits _).app (jn_fits h) |>.app (Fits.lits _)
theorem txtN_len {cs : List UInt8} (h : cs ≠ []) : (txtN cs).length = 3 * cs.length + 18 := by
  have := jn_len h
  have hl : 0 < cs.length := List.length_pos_iff.2 h
  simp only [txtN, List.length_append, this, preN, postN, List.length_cons, List.length_nil]
  omega
theorem txtN_get {cs : List UInt8} {i : Nat} (h : i < cs.length) : (txtN cs)[14 + 3 * i]? = some cs[i] := by
  have h1 := jn_get (l := cs) i
  rw [List.getElem?_eq_getElem h] at h1
  have h2 : 3 * i < (jn cs).length := (List.getElem?_eq_some_iff.1 h1).1
  unfold txtN
  rw [List.getElem?_append_left (by simp [preN]; omega), List.getElem?_append_right (by simp [preN])]
  show (jn cs)[14 + 3 * i - preN.length]? = _
  rw [show 14 + 3 * i - preN.length = 3 * i by simp [preN]]
  exact h1
def nameS (i : Nat) : Nat := (14 + 3 * i) * 256 + (15 + 3 * i)
theorem nameS_E {cs : List UInt8} {i : Nat} (h : i < cs.length) (h20 : cs.length ≤ 20) : @SymE.E (symT (txtN cs)) (nameS i) = .string ⟨⟨[cs[i]]⟩⟩ := by
  rw [E_sub _ (by unfold nameS; omega)]
  have e1 : nameS i / 256 = 14 + 3 * i := by unfold nameS; omega
  have e2 : nameS i % 256 = 15 + 3 * i := by unfold nameS; omega
  rw [e1, e2, show 15 + 3 * i - (14 + 3 * i) = 1 by omega]
  have hg := txtN_get h
  have hlt := (List.getElem?_eq_some_iff.1 hg).1
  rw [List.drop_eq_getElem_cons hlt]
  rw [List.getElem?_eq_getElem hlt] at hg
  simp [Option.some.inj hg]
theorem whole_E {cs : List UInt8} (h : cs ≠ []) (h20 : cs.length ≤ 20) : @SymE.E (symT (txtN cs)) (3 * cs.length + 18) = .string ⟨⟨txtN cs⟩⟩ := by
  rw [E_sub _ (by omega)]
  have e1 : (3 * cs.length + 18) / 256 = 0 := by omega
  have e2 : (3 * cs.length + 18) % 256 = 3 * cs.length + 18 := by omega
  rw [e1, e2, List.drop_zero, Nat.sub_zero, ← txtN_len h, List.take_length]
theorem ftN_ok {cs : List UInt8} (h : ∀ c ∈ cs, let' c = true) (hne : cs ≠ []) (h20 : cs.length ≤ 20) : @FTok (symT (txtN cs)) (ftT (tplN cs.length) (3 * cs.length + 18)) :=
  ftTok (txtN_fits h) (txtN_len hne) (by omega)
end Go.Ri
