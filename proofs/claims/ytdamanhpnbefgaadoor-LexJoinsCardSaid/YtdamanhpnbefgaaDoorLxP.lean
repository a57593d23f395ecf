/- The lexer, in plain Lean, on lists of bytes. -/
import Derived.Test.YtdamanhpnbefgaaDoorAm14
set_option linter.unusedSimpArgs false
set_option linter.unusedVariables false
namespace Go.Lx
open Go Go.Am

def small (b : UInt8) : Bool := decide (97 ≤ bn b) && decide (bn b ≤ 122)
def great (b : UInt8) : Bool := decide (65 ≤ bn b) && decide (bn b ≤ 90)
def digit (b : UInt8) : Bool := decide (48 ≤ bn b) && decide (bn b ≤ 57)
def isIn (b : UInt8) : Bool := small b || great b || digit b || decide (bn b = 95) || decide (bn b = 39)
def isBlank (b : UInt8) : Bool := b == 32 || b == 10 || b == 9 || b == 13
def pre (g s : List UInt8) : Bool := decide (s.take g.length = g)
/-- where a remark ends -/
def rem : List UInt8 → Int → Nat → Option Nat
  | a :: b :: r, d, i => if a = 40 ∧ b = 42 then rem r (d + 1) (i + 2) else if a = 42 ∧ b = 41 then (if d - 1 = 0 then some (i + 2) else rem r (d - 1) (i + 2)) else rem (b :: r) d (i + 1)
  | _, _, _ => none
def remR (s : List UInt8) : Int := match rem s 0 0 with
  | some n => n
  | none => -1
def signs : List (List UInt8) := [[45, 62], [58, 61], [59, 59], [60, 62], [60, 61], [58, 58], [124, 124], [38, 38], [40], [41], [91], [93], [44], [59], [124], [61], [60], [43], [45], [42], [47], [94], [33], [95]]
def words : List (List UInt8) := [[108, 101, 116], [114, 101, 99], [105, 110], [102, 117, 110], [105, 102], [116, 104, 101, 110], [101, 108, 115, 101], [109, 97, 116, 99, 104], [119, 105, 116, 104], [116, 114, 121], [116, 121, 112, 101], [111, 102], [109, 111, 100], [116, 114, 117, 101], [102, 97, 108, 115, 101]]
/-- a token: kind, text, 0; how long it is; the place at fault; the error -/
abbrev Tk := Int × ByteArray × Int × Int × Int × Int
def bad (at' e : Int) : Tk := (0, mkB [], 0, 0, at', e)
def good (k : Int) (t : List UInt8) (n : Nat) : Tk := (k, mkB t, 0, n, 0, 0)
def nameR (s : List UInt8) : Tk :=
  if 24 < s.length then bad 0 2
  else if words.contains s then good 6 s s.length
  else if s.head? = some 39 then (if (s.drop 1).head?.any small then good 3 s s.length else bad 1 4)
  else if s.head?.any great then good 2 s s.length else good 1 s s.length
def esc (b : UInt8) : Option UInt8 := if b = 110 then some 10 else if b = 34 then some 34 else if b = 92 then some 92 else if b = 116 then some 9 else none
/-- q: behind a backslash -/
def textL : Bool → List UInt8 → Nat → List UInt8 → Tk
  | _, [], i, _ => bad i 4
  | q, c :: r, i, acc => if q = true then (match esc c with
      | some x => textL false r (i + 1) (acc ++ [x])
      | none => bad i 4) else if c = 34 then good 5 acc (i + 1) else if c = 92 then textL true r (i + 1) acc else textL false r (i + 1) (acc ++ [c])
def textR (s : List UInt8) : Tk := textL false (s.drop 1) 1 []
def digStep (n : Nat) (b : UInt8) : Nat := n * 10 + (b.toNat - 48)
def numVal (n : Nat) (l : List UInt8) : Nat := l.foldl digStep n
theorem numVal_nil (n : Nat) : numVal n [] = n := by unfold numVal; rw [List.foldl_nil]
theorem numVal_cons (n : Nat) (b : UInt8) (r : List UInt8) : numVal n (b :: r) = numVal (n * 10 + (b.toNat - 48)) r := by unfold numVal; rw [List.foldl_cons]; unfold digStep; rfl
theorem numVal_ge : ∀ (l : List UInt8) (n : Nat), n ≤ numVal n l
  | [], n => by rw [numVal_nil]; exact Nat.le_refl n
  | b :: r, n => by rw [numVal_cons]; exact Nat.le_trans (by omega) (numVal_ge r _)
/-- how many behind the first -/
def span (p : UInt8 → Bool) (s : List UInt8) : Nat := 1 + ((s.drop 1).takeWhile p).length
def numR (s : List UInt8) : Tk := if (s.drop (span digit s)).head?.any isIn then bad (span digit s) 4 else if numVal 0 (s.take (span digit s)) < 2 ^ 62 then good 4 (s.take (span digit s)) (span digit s) else bad 0 1
def signR (l : List (List UInt8)) (s : List UInt8) : Tk := match l with
  | [] => bad 0 4
  | g :: r => if pre g s then good 7 g g.length else signR r s
def tokR (s : List UInt8) : Tk := match s with
  | [] => bad 0 4
  | c :: r => if small c || great c || c == 39 then nameR ((c :: r).take (span isIn (c :: r))) else if digit c then numR (c :: r) else if c = 34 then textR (c :: r) else signR signs (c :: r)
structure Tok where
  kind : Int
  text : ByteArray
  at' : Int
  deriving DecidableEq
def cellsT (t : Tok) : List Value := [.int .u8 t.kind, .string t.text, .int .i64 t.at']
abbrev Res := List Tok × Int × Int
def toksL : Nat → List UInt8 → Nat → List Tok → Res
  | 0, _, _, _ => ([], 0, 0)
  | _ + 1, [], i, out => (out ++ [⟨0, mkB [], i⟩], 0, 0)
  | n + 1, c :: r, i, out => if isBlank c then toksL n r (i + 1) out else if pre [40, 42] (c :: r) then (match rem (c :: r) 0 0 with
      | none => ([], (i : Int), 4)
      | some m => toksL n ((c :: r).drop m) (i + m) out) else
    if (tokR (c :: r)).2.2.2.2.2 = 0 then toksL n ((c :: r).drop (tokR (c :: r)).2.2.2.1.toNat) (i + (tokR (c :: r)).2.2.2.1.toNat) (out ++ [⟨(tokR (c :: r)).1, (tokR (c :: r)).2.1, i⟩])
    else ([], (i : Int) + (tokR (c :: r)).2.2.2.2.1, (tokR (c :: r)).2.2.2.2.2)
def tokens (s : List UInt8) : Res := if 2000 < s.length then ([], 0, 2) else toksL (s.length + 1) s 0 []
/-! bounds -/
theorem rem_bound : ∀ (s : List UInt8) (d : Int) (i m : Nat), rem s d i = some m → i + 2 ≤ m ∧ m ≤ i + s.length
  | [], d, i, m, h => by simp [rem] at h
  | [a], d, i, m, h => by simp [rem] at h
  | a :: b :: r, d, i, m, h => by
    simp only [rem] at h
    simp only [List.length_cons]
    split at h
    · have := rem_bound r _ _ _ h; omega
    · split at h
      · split at h
        · have := Option.some.inj h; omega
        · have := rem_bound r _ _ _ h; omega
      · have := rem_bound (b :: r) _ _ _ h
        simp only [List.length_cons] at this; omega
/-- a token, or an error in place -/
def Fine (t : Tk) (lo hi : Nat) : Prop := (∃ k x n, t = good k x n ∧ lo ≤ n ∧ n ≤ hi ∧ k ≠ 0) ∨ ∃ b e : Int, t = bad b e ∧ 0 ≤ b ∧ b ≤ hi ∧ e ≠ 0
theorem textL_fine : ∀ (s : List UInt8) (q : Bool) (i : Nat) (acc : List UInt8), Fine (textL q s i acc) (i + 1) (i + s.length)
  | [], q, i, acc => by simp only [textL]; exact .inr ⟨_, _, rfl, by omega, by simp, by decide⟩
  | c :: r, q, i, acc => by
    have step : ∀ q acc', Fine (textL q r (i + 1) acc') (i + 1) (i + (c :: r).length) := by
      intro q acc'
      rcases textL_fine r q (i + 1) acc' with ⟨k, x, n, h1, h2, h3, h4⟩ | ⟨b, e, h1, h2, h3, h4⟩
      · exact .inl ⟨k, x, n, h1, by omega, by simp only [List.length_cons]; omega, h4⟩
      · exact .inr ⟨b, e, h1, h2, by simp only [List.length_cons]; omega, h4⟩
    simp only [textL]
    split
    · split
      · exact step _ _
      · exact .inr ⟨_, _, rfl, by omega, by simp only [List.length_cons]; omega, by decide⟩
    · split
      · exact .inl ⟨_, _, _, rfl, by omega, by simp only [List.length_cons]; omega, by decide⟩
      · split
        · exact step _ _
        · exact step _ _
theorem signR_fine (s : List UInt8) : ∀ (l : List (List UInt8)), (∀ g ∈ l, 1 ≤ g.length) → Fine (signR l s) 1 s.length
  | [], _ => .inr ⟨_, _, rfl, by omega, by omega, by decide⟩
  | g :: r, h => by
    simp only [signR]
    split
    · rename_i hp
      have hp := of_decide_eq_true hp
      have := congrArg List.length hp
      simp only [List.length_take] at this
      exact .inl ⟨_, _, _, rfl, h g (by simp), by omega, by decide⟩
    · exact signR_fine s r fun g hg => h g (by simp [hg])
theorem tw_le (p : UInt8 → Bool) (s : List UInt8) : (s.takeWhile p).length ≤ s.length := by
  induction s with
  | nil => simp
  | cons a r ih =>
    simp only [List.takeWhile_cons]
    split <;> simp <;> omega
theorem span_le (p : UInt8 → Bool) {s : List UInt8} (h : 1 ≤ s.length) : span p s ≤ s.length := by
  have := tw_le p (s.drop 1)
  simp only [List.length_drop] at this
  unfold span; omega
theorem nameR_fine {s : List UInt8} (h : 1 ≤ s.length) : Fine (nameR s) 1 s.length := by
  have g : ∀ k : Int, k ≠ 0 → Fine (good k s s.length) 1 s.length := fun k hk => .inl ⟨k, s, s.length, rfl, h, Nat.le_refl _, hk⟩
  unfold nameR
  split
  · exact .inr ⟨_, _, rfl, by omega, by omega, by decide⟩
  · split
    · exact g _ (by decide)
    · split
      · split
        · exact g _ (by decide)
        · exact .inr ⟨_, _, rfl, by omega, by omega, by decide⟩
      · split
        · exact g _ (by decide)
        · exact g _ (by decide)
theorem tokR_fine {s : List UInt8} (h : 1 ≤ s.length) : Fine (tokR s) 1 s.length := by
  obtain ⟨a, r, rfl⟩ : ∃ a r, s = a :: r := by
    cases s with
    | nil => simp at h
    | cons a r => exact ⟨a, r, rfl⟩
  simp only [tokR]
  split
  · have hl : ((a :: r).take (span isIn (a :: r))).length = span isIn (a :: r) := by
      have := span_le isIn h
      simp only [List.length_take]; omega
    have h1 : 1 ≤ span isIn (a :: r) := by unfold span; omega
    have := span_le isIn h
    rcases nameR_fine (s := (a :: r).take (span isIn (a :: r))) (by omega) with ⟨k, x, n, h1, h2, h3, h4⟩ | ⟨b, e, h1, h2, h3, h4⟩
    · exact .inl ⟨k, x, n, h1, h2, by omega, h4⟩
    · exact .inr ⟨b, e, h1, h2, by omega, h4⟩
  · split
    · have h1 : 1 ≤ span digit (a :: r) := by unfold span; omega
      have := span_le digit h
      unfold numR
      split
      · exact .inr ⟨_, _, rfl, by omega, by omega, by decide⟩
      · split
        · exact .inl ⟨_, _, _, rfl, h1, this, by decide⟩
        · exact .inr ⟨_, _, rfl, by omega, by omega, by decide⟩
    · split
      · rcases textL_fine ((a :: r).drop 1) false 1 [] with ⟨k, x, n, h1, h2, h3, h4⟩ | ⟨b, e, h1, h2, h3, h4⟩
        · exact .inl ⟨k, x, n, h1, by omega, by simp at h3 ⊢; omega, h4⟩
        · exact .inr ⟨b, e, h1, h2, by simp at h3 ⊢; omega, h4⟩
      · exact signR_fine _ signs (by decide)
/-- of a property of bytes, all 256 tried -/
theorem all8 {p : UInt8 → Bool} (h : ((List.range 256).all fun n => p (UInt8.ofNat n)) = true) (b : UInt8) : p b = true := by
  rw [List.all_eq_true] at h
  have := h b.toNat (by simp; exact b.toNat_lt)
  simpa using this
end Go.Lx
