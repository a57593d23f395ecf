/- A text of which some letters are not known: what is known of it all the same, as facts for a run. -/
import Derived.Test.YthfjjcfceilahaaGreatDoorL5
set_option linter.unusedSimpArgs false
set_option linter.unusedVariables false
set_option linter.unusedSectionVars false
namespace Go.Ri
open Go Go.Am Go.RowKit
abbrev Tpl := List (Option UInt8)
def let' (d : UInt8) : Bool := Nat.ble 97 d.toNat && Nat.ble d.toNat 122
inductive Fits : Tpl → List UInt8 → Prop
  | nil : Fits [] []
  | lit {t : Tpl} {l : List UInt8} (c : UInt8) (h : Fits t l) : Fits (some c :: t) (c :: l)
  | any {t : Tpl} {l : List UInt8} (c : UInt8) (hc : let' c = true) (h : Fits t l) : Fits (none :: t) (c :: l)
theorem Fits.len {t : Tpl} {l : List UInt8} (h : Fits t l) : l.length = t.length := by
  induction h with
  | nil => rfl
  | lit c h ih => simp [ih]
  | any c hc h ih => simp [ih]
theorem Fits.drop {t : Tpl} {l : List UInt8} (h : Fits t l) : ∀ n, Fits (t.drop n) (l.drop n) := by
  induction h with
  | nil => intro n; simp; exact .nil
  | lit c h ih => intro n; cases n with
    | zero => exact .lit c h
    | succ n => simpa using ih n
  | any c hc h ih => intro n; cases n with
    | zero => exact .any c hc h
    | succ n => simpa using ih n
theorem Fits.take {t : Tpl} {l : List UInt8} (h : Fits t l) : ∀ n, Fits (t.take n) (l.take n) := by
  induction h with
  | nil => intro n; simp; exact .nil
  | lit c h ih => intro n; cases n with
    | zero => exact .nil
    | succ n => exact .lit c (ih n)
  | any c hc h ih => intro n; cases n with
    | zero => exact .nil
    | succ n => exact .any c hc (ih n)
theorem Fits.app {t t' : Tpl} {l l' : List UInt8} (h : Fits t l) (h' : Fits t' l') : Fits (t ++ t') (l ++ l') := by
  induction h with
  | nil => exact h'
  | lit c h ih => exact .lit c ih
  | any c hc h ih => exact .any c hc ih
theorem Fits.lits : ∀ (l : List UInt8), Fits (l.map some) l
  | [] => .nil
  | c :: l => .lit c (Fits.lits l)
theorem Fits.get {t : Tpl} {l : List UInt8} (h : Fits t l) : ∀ {i : Nat} {o : Option UInt8}, t[i]? = some o → ∃ c, l[i]? = some c ∧ (o = some c ∨ (o = none ∧ let' c = true)) := by
  induction h with
  | nil => intro i o hi; simp at hi
  | lit c h ih => intro i o hi; cases i with
    | zero => simp at hi; exact ⟨c, rfl, .inl hi.symm⟩
    | succ i => simpa using ih (by simpa using hi)
  | any c hc h ih => intro i o hi; cases i with
    | zero => simp at hi; exact ⟨c, rfl, .inr ⟨hi.symm, hc⟩⟩
    | succ i => simpa using ih (by simpa using hi)
noncomputable def litT (l : Tpl) : Option (List UInt8) := List.rec (motive := fun _ => Option (List UInt8)) (some []) (fun o _ ih => match o with
  | none => none
  | some c => (match ih with
    | none => none
    | some r => some (c :: r))) l
theorem litT_spec {t : Tpl} {l : List UInt8} (h : Fits t l) : ∀ {r : List UInt8}, litT t = some r → r = l := by
  induction h with
  | nil => intro r hr; cases hr; rfl
  | @lit t l c h ih => intro r hr; have hr : (match litT t with | none => none | some r => some (c :: r)) = some r := hr; split at hr; · cases hr
                       rename_i q hq; cases hr; rw [ih hq]
  | any c hc h ih => intro r hr; cases hr
noncomputable def eqT (t : Tpl) : List UInt8 → Option Bool := List.rec (motive := fun _ => List UInt8 → Option Bool) (fun s => match s with | [] => some true | _ :: _ => some false)
  (fun o _ ih s => match s with
    | [] => some false
    | d :: s => (match o with
      | some c => bif Nat.beq c.toNat d.toNat then ih s else some false
      | none => bif let' d then (match ih s with | some false => some false | _ => none) else some false)) t
theorem eqT_spec {t : Tpl} {l : List UInt8} (h : Fits t l) : ∀ {s : List UInt8} {b : Bool}, eqT t s = some b → b = decide (l = s) := by
  induction h with
  | nil => intro s b hb; cases s <;> (cases hb; simp)
  | @lit t l c h ih =>
    intro s b hb
    cases s with
    | nil => cases hb; simp
    | cons d s =>
      have hb : (bif Nat.beq c.toNat d.toNat then eqT t s else some false) = some b := hb
      cases hc : Nat.beq c.toNat d.toNat with
      | true =>
        rw [hc] at hb
        have e : c = d := UInt8.toNat_inj.1 (Nat.eq_of_beq_eq_true hc)
        rw [ih hb]; simp [e]
      | false =>
        rw [hc] at hb
        cases hb
        have e : c ≠ d := fun e => by rw [e] at hc; simp at hc
        simp [e]
  | @any t l c hc h ih =>
    intro s b hb
    cases s with
    | nil => cases hb; simp
    | cons d s =>
      have hb : (bif let' d then (match eqT t s with | some false => some false | _ => none) else some false) = some b := hb
      cases hd : let' d with
      | true =>
        rw [hd] at hb
        have hb : (match eqT t s with | some false => some false | _ => none) = some b := hb
        split at hb
        · rename_i hq; cases hb
          have := ih hq
          have : l ≠ s := fun e => by simp [e] at this
          simp [this]
        · cases hb
      | false =>
        rw [hd] at hb
        cases hb
        have e : c ≠ d := fun e => by rw [e] at hc; rw [hc] at hd; cases hd
        simp [e]
def cmpT : BinOp → Nat → Option Bool
  | .eql, k => bif Nat.ble 97 k && Nat.ble k 122 then none else some false
  | .neq, k => bif Nat.ble 97 k && Nat.ble k 122 then none else some true
  | .lss, k => bif Nat.ble k 97 then some false else bif Nat.ble 123 k then some true else none
  | .leq, k => bif Nat.ble k 96 then some false else bif Nat.ble 122 k then some true else none
  | .gtr, k => bif Nat.ble k 96 then some true else bif Nat.ble 122 k then some false else none
  | .geq, k => bif Nat.ble k 97 then some true else bif Nat.ble 123 k then some false else none
  | _, _ => none
theorem cmpT_spec {op : BinOp} {c : UInt8} {k : Nat} {b : Bool} (hc : let' c = true) (h : cmpT op k = some b) : ar op .u8 (.ofNat c.toNat) (.ofNat k) = some (.bool b) := by
  simp only [let', Bool.and_eq_true, Nat.ble_eq] at hc
  obtain ⟨h1, h2⟩ := hc
  have bb : ∀ {p : Prop} [Decidable p], (p ↔ b = true) → (some (Value.bool (decide p)) : Option Value) = some (.bool b) := by
    intro p _ hp
    simp only [Option.some.injEq, Value.bool.injEq]
    cases b <;> simp_all
  unfold cmpT at h
  split at h <;> (try simp only [cond_eq_ite] at h) <;> (repeat' split at h) <;> (try cases h) <;> (try simp only [Bool.and_eq_true, Nat.ble_eq, not_and] at *) <;> simp only [ar, Int.ofNat_eq_natCast] <;> congr 2 <;> simp <;> omega
@[reducible] def symT (T : List UInt8) : SymE := ⟨fun i => if i < 65536 then .string ⟨⟨(T.drop (i / 256)).take (i % 256 - i / 256)⟩⟩ else .int .u8 (.ofNat (T.getD (i - 65536) 0).toNat), fun i => by
  by_cases h : i < 65536
  · exact .inr ⟨_, if_pos h⟩
  · exact .inl ⟨_, _, if_neg h⟩⟩
noncomputable def subT (t : Tpl) (a b : Nat) : Value := match litT ((t.drop a).take (b - a)) with
  | some l => .string ⟨⟨l⟩⟩
  | none => .map (some (a * 256 + b))
@[reducible] noncomputable def ftT (t : Tpl) (L : Nat) : FT where
  bin := fun op u w => match u with
    | .map (some i) => (match w with
      | .string ⟨⟨l⟩⟩ => bif Nat.blt i 65536 then (match op with
        | .eql => (match eqT ((t.drop (i / 256)).take (i % 256 - i / 256)) l with
          | some b => some (.bool b)
          | none => none)
        | .neq => (match eqT ((t.drop (i / 256)).take (i % 256 - i / 256)) l with
          | some b => some (.bool (!b))
          | none => none)
        | _ => none) else none
      | .int .u8 (.ofNat k) => bif Nat.blt i 65536 then none else (match t[i - 65536]? with
        | some none => (match cmpT op k with
          | some b => some (.bool b)
          | none => none)
        | _ => none)
      | _ => none)
    | .string ⟨⟨l⟩⟩ => (match w with
      | .map (some i) => bif Nat.blt i 65536 then (match op with
        | .eql => (match eqT ((t.drop (i / 256)).take (i % 256 - i / 256)) l with
          | some b => some (.bool b)
          | none => none)
        | .neq => (match eqT ((t.drop (i / 256)).take (i % 256 - i / 256)) l with
          | some b => some (.bool (!b))
          | none => none)
        | _ => none) else none
      | _ => none)
    | _ => none
  un := fun _ _ => none
  conv := fun _ _ => none
  len := fun u => match u with
    | .map (some i) => bif Nat.blt i 65536 && (Nat.ble (i % 256) L && Nat.ble (i / 256) (i % 256)) then some (.int .i64 (.ofNat (i % 256 - i / 256))) else none
    | _ => none
  idx := fun u j => match u with
    | .map (some i) => bif Nat.blt i 65536 && Nat.blt (i / 256 + j) (i % 256) then (match t[i / 256 + j]? with
      | some (some c) => some (.int .u8 (.ofNat c.toNat))
      | some none => some (.map (some (65536 + (i / 256 + j))))
      | none => none) else none
    | _ => none
  sub := fun u x y => match u with
    | .map (some i) => bif (Nat.blt i 65536 && Nat.ble x y) && (Nat.ble (i / 256 + y) (i % 256) && Nat.ble (i % 256) L) then some (subT t (i / 256 + x) (i / 256 + y)) else none
    | _ => none
  fst := fun l u => match u with
    | .map (some i) => bif Nat.blt i 65536 then none else (match t[i - 65536]? with
      | some none => (match l with
        | [32, 10, 9, 13] => some (.int .i64 (-1))
        | _ => none)
      | _ => none)
    | _ => none
theorem blank_none : ∀ c : UInt8, let' c = true → firstIdx ⟨⟨[32, 10, 9, 13]⟩⟩ c = -1 := by
  have h : ∀ i : Fin 256, let' (UInt8.ofNat i.val) = true → firstIdx ⟨⟨[32, 10, 9, 13]⟩⟩ (UInt8.ofNat i.val) = -1 := by decide +kernel
  intro c hc
  have := h ⟨c.toNat, c.toNat_lt⟩
  simp only [UInt8.ofNat_toNat] at this
  exact this hc
section
variable {t : Tpl} {T : List UInt8} {L : Nat}
theorem E_sub (i : Nat) (h : i < 65536) : @SymE.E (symT T) i = .string ⟨⟨(T.drop (i / 256)).take (i % 256 - i / 256)⟩⟩ := if_pos h
theorem E_byte {i : Nat} (h : ¬ i < 65536) : @SymE.E (symT T) i = .int .u8 (.ofNat (T.getD (i - 65536) 0).toNat) := if_neg h
theorem subT_spec (hF : Fits t T) (hL : T.length = L) (h256 : L < 256) {a b : Nat} (hab : a ≤ b) (hb : b ≤ L) : @den (symT T) (subT t a b) = .string ⟨⟨(T.drop a).take (b - a)⟩⟩ := by
  letI := symT T
  unfold subT
  split
  · rename_i l hl
    have := litT_spec ((hF.drop a).take (b - a)) hl
    subst this
    rfl
  · have hlt : a * 256 + b < 65536 := by omega
    show SymE.E (a * 256 + b) = _
    rw [E_sub _ hlt]
    rw [show (a * 256 + b) / 256 = a by omega, show (a * 256 + b) % 256 = b by omega]
theorem ftTok (hF : Fits t T) (hL : T.length = L) (h256 : L < 256) : @FTok (symT T) (ftT t L) := by
  letI := symT T
  have dm : ∀ i, den (.map (some i)) = SymE.E i := fun _ => rfl
  have byte : ∀ {i : Nat}, ¬ i < 65536 → t[i - 65536]? = some none → ∃ c, let' c = true ∧ SymE.E i = .int .u8 (.ofNat c.toNat) := by
    intro i hi ht
    obtain ⟨c, hc, hl⟩ := hF.get ht
    rcases hl with h | ⟨_, h⟩
    · cases h
    · refine ⟨c, h, ?_⟩
      rw [E_byte hi, List.getD_eq_getElem?_getD, hc]; rfl
  have eqs : ∀ {i : Nat} {l : List UInt8} {b : Bool}, i < 65536 → eqT ((t.drop (i / 256)).take (i % 256 - i / 256)) l = some b → SymE.E i = .string ⟨⟨(T.drop (i / 256)).take (i % 256 - i / 256)⟩⟩ ∧ b = decide ((T.drop (i / 256)).take (i % 256 - i / 256) = l) := by
    intro i l b hi h
    exact ⟨E_sub i hi, eqT_spec ((hF.drop _).take _) h⟩
  refine @FTok.mk _ (ftT t L) ?_ (fun _ _ _ h => by cases h) (fun _ _ _ h => by cases h) ?_ ?_ ?_ ?_
  · intro op u w v h
    simp only [FT.bin] at h
    split at h
    · rename_i i
      split at h
      · rename_i l
        rw [cond_some] at h
        obtain ⟨hi, h⟩ := h
        rw [Nat.blt_eq] at hi
        split at h
        · split at h
          · rename_i b hb
            obtain ⟨e1, e2⟩ := eqs hi hb
            cases h
            rw [dm, e1, e2]; rfl
          · cases h
        · split at h
          · rename_i b hb
            obtain ⟨e1, e2⟩ := eqs hi hb
            cases h
            rw [dm, e1, e2]; rfl
          · cases h
        · cases h
      · rename_i k
        cases hi : Nat.blt i 65536 with
        | true => rw [hi] at h; cases h
        | false =>
          rw [hi] at h
          have hi : ¬ i < 65536 := fun hh => by rw [← Nat.blt_eq] at hh; rw [hh] at hi; cases hi
          simp only [cond_false] at h
          split at h
          · rename_i ht
            split at h
            · rename_i b hb
              cases h
              obtain ⟨c, hc, e⟩ := byte hi ht
              rw [dm, e]
              have := cmpT_spec hc hb
              show bin0 op (.int .u8 (.ofNat c.toNat)) (.int .u8 (.ofNat k)) = some (.bool b)
              simp only [bin0, binI]
              split
              · cases hb
              · cases hb
              · simpa using this
            · cases h
          · cases h
      · cases h
    · rename_i l
      split at h
      · rename_i i
        rw [cond_some] at h
        obtain ⟨hi, h⟩ := h
        rw [Nat.blt_eq] at hi
        split at h
        · split at h
          · rename_i b hb
            obtain ⟨e1, e2⟩ := eqs hi hb
            cases h
            rw [dm, e1, e2]
            show some (Value.bool (decide (l = _))) = some (Value.bool (decide (_ = l)))
            congr 2
            exact decide_eq_decide.2 ⟨fun h => h.symm, fun h => h.symm⟩
          · cases h
        · split at h
          · rename_i b hb
            obtain ⟨e1, e2⟩ := eqs hi hb
            cases h
            rw [dm, e1, e2]
            show some (Value.bool (!decide (l = _))) = some (Value.bool (!decide (_ = l)))
            congr 3
            exact decide_eq_decide.2 ⟨fun h => h.symm, fun h => h.symm⟩
          · cases h
        · cases h
      · cases h
    · cases h
  · intro u v h
    simp only [FT.len] at h
    split at h
    · rename_i i
      rw [cond_some] at h
      obtain ⟨hc, h⟩ := h
      simp only [Bool.and_eq_true, Nat.blt_eq, Nat.ble_eq] at hc
      cases h
      refine ⟨_, (dm i).trans (E_sub i hc.1), ?_⟩
      show Value.int .i64 _ = Value.int .i64 _
      congr 2
      simp only [List.length_take, List.length_drop]
      omega
    · cases h
  · intro u j v h
    simp only [FT.idx] at h
    split at h
    · rename_i i
      rw [cond_some] at h
      obtain ⟨hc, h⟩ := h
      simp only [Bool.and_eq_true, Nat.blt_eq] at hc
      have get : ∀ {c : UInt8}, T[i / 256 + j]? = some c → ((T.drop (i / 256)).take (i % 256 - i / 256))[j]? = some c := by
        intro c hcc
        rw [List.getElem?_take_of_lt (by omega), List.getElem?_drop]; exact hcc
      split at h
      · rename_i c ht
        cases h
        obtain ⟨c', h1, h2⟩ := hF.get ht
        rcases h2 with h2 | ⟨h2, _⟩
        · cases h2
          exact ⟨_, c, (dm i).trans (E_sub i hc.1), get h1, rfl⟩
        · cases h2
      · rename_i ht
        cases h
        obtain ⟨c', h1, h2⟩ := hF.get ht
        refine ⟨_, c', (dm i).trans (E_sub i hc.1), get h1, ?_⟩
        rw [dm, E_byte (by omega), show 65536 + (i / 256 + j) - 65536 = i / 256 + j by omega, List.getD_eq_getElem?_getD, h1]; rfl
      · cases h
    · cases h
  · intro u x y v h
    simp only [FT.sub] at h
    split at h
    · rename_i i
      rw [cond_some] at h
      obtain ⟨hc, h⟩ := h
      simp only [Bool.and_eq_true, Nat.blt_eq, Nat.ble_eq] at hc
      obtain ⟨⟨h1, h2⟩, h3, h4⟩ := hc
      cases h
      refine ⟨_, (dm i).trans (E_sub i h1), h2, ?_, ?_⟩
      · simp only [List.length_take, List.length_drop]; omega
      · rw [subT_spec hF hL h256 (by omega) (by omega)]
        congr 3
        rw [List.drop_take, List.take_take, List.drop_drop, show min (y - x) (i % 256 - i / 256 - x) = y - x by omega, show i / 256 + y - (i / 256 + x) = y - x by omega]
    · cases h
  · intro l u v h
    simp only [FT.fst] at h
    split at h
    · rename_i i
      cases hi : Nat.blt i 65536 with
      | true => rw [hi] at h; cases h
      | false =>
        rw [hi] at h
        have hi : ¬ i < 65536 := fun hh => by rw [← Nat.blt_eq] at hh; rw [hh] at hi; cases hi
        simp only [cond_false] at h
        split at h
        · rename_i ht
          split at h
          · cases h
            obtain ⟨c, hc, e⟩ := byte hi ht
            refine ⟨_, (dm i).trans e, ?_⟩
            have : (Int.ofNat c.toNat).toNat.toUInt8 = c := by
              show c.toNat.toUInt8 = c
              simp
            rw [this, blank_none c hc]
            rfl
          · cases h
        · cases h
    · cases h
end
end Go.Ri
