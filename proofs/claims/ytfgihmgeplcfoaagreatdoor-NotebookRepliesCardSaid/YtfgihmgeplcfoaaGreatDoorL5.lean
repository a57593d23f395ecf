/- The library of this claim, part 5: values alike, an abstract memory, operations, regions, an interpreter that the kernel runs. -/
import Derived.Test.YtfgihmgeplcfoaaGreatDoorL4
set_option linter.unusedSimpArgs false
set_option linter.unusedVariables false
namespace Go.Oc
def lowB (n : Nat) : List UInt8 := if n = 0 then [] else UInt8.ofNat (n % 256) :: lowB (n / 256)
termination_by n
decreasing_by omega
theorem lowB_zero : lowB 0 = [] := by unfold lowB; simp
theorem lowB_pos {n : Nat} (h : 0 < n) : lowB n = UInt8.ofNat (n % 256) :: lowB (n / 256) := by
  rw [lowB, if_neg (by omega)]
def be : Nat → List UInt8 → Nat
  | a, [] => a
  | a, b :: l => be (a * 256 + b.toNat) l
theorem be_append (a : Nat) (l m : List UInt8) : be a (l ++ m) = be (be a l) m := by
  induction l generalizing a with
  | nil => rfl
  | cons b l ih => exact ih _
theorem be_low (n : Nat) : be 0 (lowB n).reverse = n := by
  induction n using Nat.strongRecOn with
  | _ n ih =>
    by_cases h : n = 0
    · subst h; rw [lowB_zero]; rfl
    · rw [lowB_pos (by omega), List.reverse_cons, be_append, ih _ (by omega)]
      show be (n / 256 * 256 + (UInt8.ofNat (n % 256)).toNat) [] = n
      have : (UInt8.ofNat (n % 256)).toNat = n % 256 := by simp
      rw [this]
      show n / 256 * 256 + n % 256 = n
      omega
theorem lowB_len {n k : Nat} (h : n < 256 ^ k) : (lowB n).length ≤ k := by
  induction k generalizing n with
  | zero => have : n = 0 := by simpa using h
            subst this; rw [lowB_zero]; simp
  | succ k ih =>
    by_cases h0 : n = 0
    · subst h0; rw [lowB_zero]; simp
    · rw [lowB_pos (by omega), List.length_cons]
      have := ih (n := n / 256) (by rw [Nat.pow_succ] at h; omega)
      omega
theorem be_lt (l : List UInt8) (a : Nat) : be a l < (a + 1) * 256 ^ l.length := by
  induction l generalizing a with
  | nil => simp [be]
  | cons b l ih =>
    have h := ih (a * 256 + b.toNat)
    have hb : b.toNat < 256 := b.toNat_lt
    rw [List.length_cons, Nat.pow_succ]
    calc be a (b :: l) < (a * 256 + b.toNat + 1) * 256 ^ l.length := h
      _ ≤ ((a + 1) * 256) * 256 ^ l.length := Nat.mul_le_mul_right _ (by omega)
      _ = (a + 1) * (256 ^ l.length * 256) := by rw [Nat.mul_assoc, Nat.mul_comm 256]
theorem low_last {n : Nat} : ∀ b, (lowB n).getLast? = some b → b ≠ 0 := by
  induction n using Nat.strongRecOn with
  | _ n ih =>
    intro b hb
    by_cases h : n = 0
    · subst h; rw [lowB_zero] at hb; cases hb
    · rw [lowB_pos (by omega)] at hb
      by_cases h2 : n / 256 = 0
      · rw [h2, lowB_zero] at hb
        simp only [List.getLast?_singleton, Option.some.injEq] at hb
        subst hb
        intro hz
        have := congrArg UInt8.toNat hz
        simp at this
        omega
      · have h3 := ih (n / 256) (by omega) b
        rw [lowB_pos (n := n / 256) (by omega)] at hb h3
        rw [List.getLast?_cons_cons] at hb
        exact h3 hb
def encU (n : Nat) : List UInt8 := UInt8.ofNat (lowB n).length :: (lowB n).reverse
theorem low8 {n : Nat} (h : n < 2 ^ 64) : (lowB n).length ≤ 8 := lowB_len (k := 8) h
theorem encU_len {n : Nat} (h : n < 2 ^ 64) : (encU n).length ≤ 9 := by
  have := low8 h
  simp [encU]; omega
def zig (n : Int) : Nat := if n < 0 then (-(n + 1)).toNat * 2 + 1 else n.toNat * 2
def zag (n : Nat) : Int := if n % 2 = 1 then -((n / 2 : Nat) : Int) - 1 else ((n / 2 : Nat) : Int)
theorem zag_zig (n : Int) : zag (zig n) = n := by
  unfold zag zig
  split
  · rename_i h
    rw [if_pos (by omega)]
    omega
  · rename_i h
    rw [if_neg (by omega)]
    omega
theorem zig_lt {n : Int} (h1 : -9223372036854775808 ≤ n) (h2 : n < 9223372036854775808) : zig n < 2 ^ 64 := by
  unfold zig
  split <;> omega
def encB (l : List UInt8) : List UInt8 := encU l.length ++ l
def rdU : List UInt8 → Option (Nat × List UInt8)
  | [] => none
  | k :: r => if 8 < k.toNat ∨ r.length < k.toNat ∨ (0 < k.toNat ∧ r.head? = some 0) then none else some (be 0 (r.take k.toNat), r.drop k.toNat)
theorem rdU_lt {p r : List UInt8} {n : Nat} (h : rdU p = some (n, r)) : n < 2 ^ 64 := by
  unfold rdU at h
  split at h
  · cases h
  · rename_i k q
    split at h
    · cases h
    · rename_i hc
      simp only [Option.some.injEq, Prod.mk.injEq] at h
      obtain ⟨rfl, rfl⟩ := h
      have h1 := be_lt (q.take k.toNat) 0
      have h2 : (q.take k.toNat).length ≤ 8 := by rw [List.length_take]; omega
      have h3 : 256 ^ (q.take k.toNat).length ≤ 256 ^ 8 := Nat.pow_le_pow_right (by decide) h2
      have h4 : (256 : Nat) ^ 8 = 2 ^ 64 := by decide
      omega
theorem rdU_enc {n : Nat} (h : n < 2 ^ 64) (r : List UInt8) : rdU (encU n ++ r) = some (n, r) := by
  have h8 := low8 h
  have hk : (UInt8.ofNat (lowB n).length).toNat = (lowB n).length := by simp; omega
  show (if 8 < (UInt8.ofNat (lowB n).length).toNat ∨ ((lowB n).reverse ++ r).length < (UInt8.ofNat (lowB n).length).toNat ∨ (0 < (UInt8.ofNat (lowB n).length).toNat ∧ ((lowB n).reverse ++ r).head? = some 0) then none else some (be 0 (((lowB n).reverse ++ r).take (UInt8.ofNat (lowB n).length).toNat), ((lowB n).reverse ++ r).drop (UInt8.ofNat (lowB n).length).toNat)) = _
  rw [hk, if_neg]
  · have hl : (lowB n).length = (lowB n).reverse.length := by simp
    rw [hl, List.take_left, List.drop_left, be_low]
  · rintro (h1 | h1 | ⟨h1, h2⟩)
    · omega
    · simp at h1; omega
    · have hne : (lowB n).reverse ≠ [] := fun e => by rw [List.reverse_eq_nil_iff] at e; rw [e] at h1; simp at h1
      rw [List.head?_append, Option.or_of_isSome (by cases hq : (lowB n).reverse with | nil => exact absurd hq hne | cons a b => rfl), List.head?_reverse] at h2
      exact low_last _ h2 rfl
abbrev St := Option (List UInt8)
def rU : St → Nat × St
  | none => (0, none)
  | some p => match rdU p with
    | none => (0, none)
    | some (n, r) => (n, some r)
def rI (s : St) : Int × St := (zag (rU s).1, (rU s).2)
def rUp (most : Nat) (s : St) : Nat × St := if (rU s).2 = none ∨ most < (rU s).1 then (0, none) else rU s
def rB (most : Nat) (s : St) : List UInt8 × St := match (rUp most s).2 with
  | none => ([], none)
  | some r => if r.length < (rUp most s).1 then ([], none) else (r.take (rUp most s).1, some (r.drop (rUp most s).1))
theorem rU_lt (s : St) : (rU s).1 < 2 ^ 64 := by
  cases s with
  | none => show 0 < 2 ^ 64; decide
  | some p =>
    show (match rdU p with | none => ((0, none) : Nat × St) | some (n, r) => (n, some r)).1 < _
    cases h : rdU p with
    | none => show 0 < 2 ^ 64; decide
    | some q => exact rdU_lt h
theorem rUp_le (most : Nat) (s : St) : (rUp most s).1 ≤ most := by
  unfold rUp
  split
  · exact Nat.zero_le _
  · omega
theorem rU_enc {n : Nat} (h : n < 2 ^ 64) (r : List UInt8) : rU (some (encU n ++ r)) = (n, some r) := by
  show (match rdU (encU n ++ r) with | none => ((0, none) : Nat × St) | some (n, r) => (n, some r)) = _
  rw [rdU_enc h]
theorem rI_enc {n : Int} (h1 : -9223372036854775808 ≤ n) (h2 : n < 9223372036854775808) (r : List UInt8) : rI (some (encU (zig n) ++ r)) = (n, some r) := by
  unfold rI
  rw [rU_enc (zig_lt h1 h2), zag_zig]
theorem rUp_enc {n most : Nat} (h : n < 2 ^ 64) (hm : n ≤ most) (r : List UInt8) : rUp most (some (encU n ++ r)) = (n, some r) := by
  unfold rUp
  rw [rU_enc h, if_neg]
  simp; omega
theorem rB_enc {l : List UInt8} {most : Nat} (h : l.length < 2 ^ 64) (hm : l.length ≤ most) (r : List UInt8) : rB most (some (encB l ++ r)) = (l, some r) := by
  unfold rB encB
  rw [List.append_assoc, rUp_enc h hm]
  simp only
  rw [if_neg (by simp), List.take_left, List.drop_left]
end Go.Oc
namespace Go.Oc
theorem lowB_div (n : Nat) : lowB (n / 256) = (lowB n).drop 1 := by
  by_cases h : n = 0
  · subst h; rw [lowB_zero]; rfl
  · rw [lowB_pos (n := n) (by omega)]; rfl
theorem lowB_divs (n : Nat) : ∀ i, lowB (n / 256 ^ i) = (lowB n).drop i
  | 0 => by simp
  | i + 1 => by
    rw [Nat.pow_succ, ← Nat.div_div_eq_div_mul, lowB_div, lowB_divs n i, List.drop_drop]
theorem low_pos (n i : Nat) : 0 < n / 256 ^ i ↔ i < (lowB n).length := by
  constructor
  · intro h
    have := lowB_divs n i
    rw [lowB_pos h] at this
    have hl := congrArg List.length this
    simp at hl
    omega
  · intro h
    apply Nat.pos_of_ne_zero
    intro h0
    have := lowB_divs n i
    rw [h0, lowB_zero] at this
    have hl := congrArg List.length this
    simp at hl
    omega
theorem low_get {n i : Nat} (h : i < (lowB n).length) : (lowB n)[i] = UInt8.ofNat (n / 256 ^ i % 256) := by
  have h1 := (low_pos n i).2 h
  have h2 := lowB_divs n i
  rw [lowB_pos h1, List.drop_eq_getElem_cons h] at h2
  injection h2 with h2 _
  exact h2.symm
theorem pow8 (k : Nat) : 2 ^ (8 * k) = 256 ^ k := by rw [Nat.pow_mul]
end Go.Oc
namespace Go.Oc
end Go.Oc
set_option linter.unusedSimpArgs false
set_option linter.unusedVariables false
set_option linter.unusedSectionVars false
namespace Go.Am
open Go Go.RowKit
variable [SymE]
inductive Rb (aw : AW) : Value → List UInt8 → Prop
  | nil : Rb aw (.slice none 0 0) []
  | emp {b off c : Nat} (hc : c < UNK ∨ ∃ B, aw.m b = some B ∧ B.esz = 1) : Rb aw (.slice (some ⟨b, off, none⟩) 0 c) []
  | «at» {b off c : Nat} {B : Blk} {bs : List UInt8} (hb : aw.m b = some B) (he : B.esz = 1) (hl : off + bs.length ≤ B.cells.length) (hc : (B.cells.drop off).take bs.length = bytesV bs) (hcap : c < UNK → bs.length ≤ c) : Rb aw (.slice (some ⟨b, off, none⟩) bs.length c) bs
section
variable {aw aw' aw0 : AW} {own : List Nat} {ro l L S S' : List (Nat × Blk)} {v w : Value} {bs cs : List UInt8} {k : Nat}
theorem bytesV_get (l : List UInt8) (i : Nat) : (bytesV l)[i]? = (l[i]?).map fun b => .int .u8 b.toNat := by simp [bytesV]
theorem bytesV_one (l : List UInt8) : (bytesV l).all one = true := by
  simp only [bytesV, List.all_eq_true, List.mem_map]
  rintro x ⟨b, _, rfl⟩
  rfl
theorem bytesV_app (l m : List UInt8) : bytesV (l ++ m) = bytesV l ++ bytesV m := by simp [bytesV]
theorem Rb.len (h : Rb aw v bs) : ∃ q c, v = .slice q bs.length c := by
  cases h with
  | nil => exact ⟨_, _, rfl⟩
  | emp => exact ⟨_, _, rfl⟩
  | «at» => exact ⟨_, _, rfl⟩
theorem Rb.lenV (h : Rb aw v bs) : Go.Am.lenV v = bs.length := by
  obtain ⟨q, c, rfl⟩ := h.len
  rfl
theorem Rb.src (h : Rb aw v bs) : Src aw 1 v bs.length (bytesV bs) := by
  cases h with
  | nil => exact .nil
  | emp => exact .slice (by simp [AW.getN, bytesV])
  | «at» hb he hl hc hcap => exact src_x ⟨hb⟩ (by omega) (by rw [Nat.mul_one]; exact hc)
theorem Rb.get (h : Rb aw v bs) {i : Nat} {x : UInt8} (hi : bs[i]? = some x) : ∃ b off c, v = .slice (some ⟨b, off, none⟩) bs.length c ∧ aw.get b (off + i * 1) = some (.int .u8 x.toNat) := by
  cases h with
  | nil => cases hi
  | emp => cases hi
  | «at» hb he hl hc hcap =>
    rename_i b off c B
    refine ⟨b, off, c, rfl, ?_⟩
    have hlt := (List.getElem?_eq_some_iff.1 hi).1
    have := congrArg (fun q => q[i]?) hc
    simp only [bytesV_get, hi, Option.map_some] at this
    rw [List.getElem?_take, if_pos hlt, List.getElem?_drop] at this
    rw [Nat.mul_one]
    exact get_m hb this
theorem Rb.cut (h : Rb aw v bs) {lo hi : Nat} (h1 : lo ≤ hi) (h2 : hi ≤ bs.length) : ∃ v', Cut aw 1 v (lo : Int) (hi : Int) v' ∧ Rb aw v' ((bs.drop lo).take (hi - lo)) := by
  cases h with
  | nil =>
    simp at h2
    subst h2
    obtain rfl : lo = 0 := by omega
    exact ⟨_, .nil, .nil⟩
  | emp hc =>
    rename_i b off c
    simp at h2
    subst h2
    obtain rfl : lo = 0 := by omega
    refine ⟨_, .some (Nat.le_refl _) (by split <;> omega) (fun hcc => hc.resolve_left (by omega)), ?_⟩
    simp only [Nat.sub_self, List.take_zero]
    refine .emp ?_
    rcases hc with hc | hc
    · left; unfold capOf; split <;> omega
    · exact .inr hc
  | «at» hb he hl hc hcap =>
    rename_i b off c B
    refine ⟨_, .some h1 (by split <;> first | omega | (rename_i hcc; have := hcap hcc; omega)) (fun _ => ⟨B, hb, he⟩), ?_⟩
    have hlen : ((bs.drop lo).take (hi - lo)).length = hi - lo := by simp; omega
    have hcells : (B.cells.drop (off + lo * 1)).take ((bs.drop lo).take (hi - lo)).length = bytesV ((bs.drop lo).take (hi - lo)) := by
      rw [hlen, Nat.mul_one]
      have e1 : bytesV ((bs.drop lo).take (hi - lo)) = ((bytesV bs).drop lo).take (hi - lo) := by simp [bytesV, List.map_take, List.map_drop]
      rw [e1, ← hc, List.drop_take, List.drop_drop, List.take_take]
      congr 1
      omega
    have := Rb.at (aw := aw) (b := b) (off := off + lo * 1) (c := capOf c lo) hb he (by rw [hlen]; omega) hcells (by
      rw [hlen]
      unfold capOf
      intro hq
      split at hq <;> rename_i hcc
      · have := hcap hcc
        simp only [hcc, if_true]
        omega
      · unfold UNK at *; omega)
    rw [hlen] at this
    exact this
def Rs (aw0 : AW) (own : List Nat) (ro S : List (Nat × Blk)) (v : Value) (bs : List UInt8) : Prop := ∀ (aw : AW) (L : List (Nat × Blk)), Hp aw0 own ro aw L → (∀ p ∈ S, p ∈ L) → Rb aw v bs
theorem Rs.more (h : Rs aw0 own ro S v bs) (hs : ∀ p ∈ S, p ∈ S') : Rs aw0 own ro S' v bs := fun aw L M hl => h aw L M fun p hp => hl p (hs p hp)
inductive Ob (el : Nat) : Value → List UInt8 → List (Nat × Blk) → Prop
  | nil : Ob el (.slice none 0 0) [] []
  | blk {b n c : Nat} {bs : List UInt8} (hn : n = bs.length) (hc : c = n ∨ c = UNK) : Ob el (.slice (some ⟨b, 0, none⟩) n c) bs [(b, ⟨bytesV bs, el, 1, true, 0⟩)]
theorem Ob.rs {el : Nat} (h : Ob el v bs L) : Rs aw0 own ro L v bs := by
  intro aw L' M hs
  cases h with
  | nil => exact .nil
  | blk hn hc =>
    subst hn
    have := (M.at_ _ (hs _ (List.mem_singleton.2 rfl))).1
    refine .at this rfl (by simp [bytesV]) (by rw [List.drop_zero, List.take_of_length_le (by simp [bytesV])]) (fun h => ?_)
    rcases hc with rfl | rfl
    · exact Nat.le_refl _
    · exact absurd h (Nat.lt_irrefl _)
theorem Ob.len {el : Nat} (h : Ob el v bs L) : ∃ q c, v = .slice q bs.length c := by
  cases h with
  | nil => exact ⟨_, _, rfl⟩
  | blk hn hc => subst hn; exact ⟨_, _, rfl⟩
theorem ix_b {X : Value → Prop} {j : Int} {i : Nat} {x : UInt8} {K : Int → Prop} (h : Rb aw v bs) (hj : j = (i : Int)) (hi : bs[i]? = some x) (hX : ∀ p, ldI .u8 aw p K → X p) (hK : K (x.toNat : Int)) : ixS v j 1 X := by
  subst hj
  obtain ⟨b, off, c, rfl, hg⟩ := h.get hi
  have hlt := (List.getElem?_eq_some_iff.1 hi).1
  exact ⟨b, off, bs.length, c, _, rfl, by omega, by omega, rfl, hX _ ⟨b, _, _, rfl, by simpa using hg, hK⟩⟩
theorem slen_b {X : Int → Prop} (h : Rb aw v bs) (hX : X (bs.length : Int)) : slen v X := by
  obtain ⟨q, c, rfl⟩ := h.len
  exact slen_x hX
theorem cut_b {X : Value → Prop} {a b : Int} {lo hi : Nat} (h : Rb aw v bs) (ha : a = (lo : Int)) (hb : b = (hi : Int)) (h1 : lo ≤ hi) (h2 : hi ≤ bs.length) (hX : ∀ v', Cut aw 1 v a b v' → Rb aw v' ((bs.drop lo).take (hi - lo)) → X v') : cutV aw 1 v a b X := by
  subst ha; subst hb
  obtain ⟨v', k1, k2⟩ := h.cut h1 h2
  exact ⟨v', k1, hX v' k1 k2⟩
theorem cut_rs {X : Value → Prop} {a b : Int} {lo hi : Nat} (hR : Rs aw0 own ro S v bs) (M : Hp aw0 own ro aw L) (hS : ∀ p ∈ S, p ∈ L) (ha : a = (lo : Int)) (hb : b = (hi : Int)) (h1 : lo ≤ hi) (h2 : hi ≤ bs.length)
    (hX : ∀ v', Rs aw0 own ro S v' ((bs.drop lo).take (hi - lo)) → X v') : cutV aw 1 v a b X := by
  subst ha; subst hb
  obtain ⟨v', k1, k2⟩ := (hR aw L M hS).cut h1 h2
  refine ⟨v', k1, hX v' fun aw2 L2 M2 hs2 => ?_⟩
  obtain ⟨v2, j1, j2⟩ := (hR aw2 L2 M2 hs2).cut h1 h2
  have : v2 = v' := by
    cases k1 with
    | nil => cases j1; rfl
    | some k1 k2 k3 =>
      generalize hlo : ((lo : Nat) : Int) = lo' at j1
      generalize hhi : ((hi : Nat) : Int) = hi' at j1
      cases j1
      simp only [Int.ofNat_inj, Int.natCast_inj] at hlo hhi
      subst hlo; subst hhi
      rfl
  rw [← this]; exact j2
theorem app_ob {K : Value → AW → Prop} {el : Nat} {xv : Value} (ho : Ob el v bs L) (M : Hp aw0 own ro aw (L ++ l)) (hs : Src aw 1 xv cs.length (bytesV cs)) (hlen : bs.length + cs.length < 2 ^ 44)
    (h : ∀ v' L' aw', Ob el v' (bs ++ cs) L' → (bs ≠ [] ∨ cs ≠ [] → v' ≠ .slice none 0 0) → Hp aw0 own ro aw' (L' ++ l) → K v' aw') : app aw el 1 1 v xv K := by
  by_cases h0 : cs = []
  · subst h0
    cases ho with
    | nil => exact app_none hs (h _ _ _ .nil (fun h => by simp at h) M)
    | blk hn hc => exact app_none hs (h _ _ _ (by rw [List.append_nil]; exact .blk hn hc) (fun _ => by simp) M)
  have hpos : 0 < cs.length := List.length_pos_iff.2 h0
  have hnew : ∀ b aw', Hp aw0 own ro aw' ((b, ⟨bytesV bs ++ bytesV cs, el, 1, true, 0⟩) :: l) → K (.slice (some ⟨b, 0, none⟩) (bs.length + cs.length) UNK) aw' := fun b aw' M' =>
    h _ _ _ (.blk (by simp) (.inr rfl)) (fun _ => by simp) (by rw [← bytesV_app] at M'; exact M')
  cases ho with
  | nil =>
    refine app_nil M hs hpos (by simp at hlen; omega) fun b aw' M' => ?_
    have := hnew b aw' (by simpa [bytesV] using M')
    simpa using this
  | blk hn hc =>
    rename_i b n c
    subst hn
    rcases hc with rfl | rfl
    · have hB := M.m .here
      have hsrc : Src aw 1 (.slice (some ⟨b, 0, none⟩) bs.length bs.length) bs.length (bytesV bs) := src_x ⟨hB⟩ (by simp [bytesV]) (by rw [List.drop_zero, List.take_of_length_le (by simp [bytesV])])
      have := App.grows (el := el) (bytes := 1) (c := bs.length) hsrc hs (by unfold UNK; omega) (by omega) (by omega)
      exact ⟨_, _, this, hnew _ _ ((M.alloc el 1).drop (.there .here))⟩
    · refine app_mv M .here (by simp [bytesV]) hs (bytesV_one _) (by omega) fun b' aw' M' => ?_
      have e : List.take (bs.length * 1) (bytesV bs) = bytesV bs := by rw [Nat.mul_one, List.take_of_length_le (by simp [bytesV])]
      rw [e] at M'
      exact hnew b' aw' M'
end
end Go.Am
set_option linter.unusedSimpArgs false
set_option linter.unusedVariables false
namespace Go.Am
open Go Go.Oc
theorem wrap_u64 (n : Int) : IntKind.u64.wrap n = n % 18446744073709551616 := by
  simp [IntKind.wrap, IntKind.bits, IntKind.signed]
theorem wrap_u8 (n : Int) : IntKind.u8.wrap n = n % 256 := by
  simp [IntKind.wrap, IntKind.bits, IntKind.signed]
theorem wrap_i64 (n : Int) : IntKind.i64.wrap n = (if n % 18446744073709551616 < 9223372036854775808 then n % 18446744073709551616 else n % 18446744073709551616 - 18446744073709551616) := by
  simp only [IntKind.wrap, IntKind.bits, IntKind.signed]
  simp
  split <;> split <;> omega
theorem i64_nat {n : Nat} (h : n < 2 ^ 63) : IntKind.i64.wrap (n : Int) = n := IntWalk.i64_in _ (by omega)
theorem u64_nat {n : Nat} (h : n < 2 ^ 64) : IntKind.u64.wrap (n : Int) = n := by rw [wrap_u64]; omega
theorem u8_nat (n : Nat) : IntKind.u8.wrap (n : Int) = ((n % 256 : Nat) : Int) := by rw [wrap_u8]; omega
theorem fdiv_nat (n k : Nat) : Int.fdiv (n : Int) (2 ^ k) = ((n / 2 ^ k : Nat) : Int) := by
  have e : (2 : Int) ^ k = ((2 ^ k : Nat) : Int) := by simp
  rw [e]
  exact Int.ofNat_fdiv n (2 ^ k) |>.symm
section
variable {m n : Nat}
theorem or_nat (hm : m < 18446744073709551616) (hn : n < 18446744073709551616) : bitsOf .or .u64 (m : Int) (n : Int) = ((m ||| n : Nat) : Int) := by
  show IntKind.u64.wrap (((BitVec.ofInt 64 (m : Int) ||| BitVec.ofInt 64 (n : Int)).toNat : Nat) : Int) = _
  rw [wrap_u64, BitVec.toNat_or]
  simp only [BitVec.toNat_ofInt]
  have h : (m ||| n) < 2 ^ 64 := Nat.or_lt_two_pow (by omega) (by omega)
  have e1 : ((m : Int) % ((2 ^ 64 : Nat) : Int)).toNat = m := by omega
  have e2 : ((n : Int) % ((2 ^ 64 : Nat) : Int)).toNat = n := by omega
  rw [e1, e2]
  omega
theorem and_nat (hm : m < 18446744073709551616) (hn : n < 18446744073709551616) : bitsOf .and .u64 (m : Int) (n : Int) = ((m &&& n : Nat) : Int) := by
  show IntKind.u64.wrap (((BitVec.ofInt 64 (m : Int) &&& BitVec.ofInt 64 (n : Int)).toNat : Nat) : Int) = _
  rw [wrap_u64, BitVec.toNat_and]
  simp only [BitVec.toNat_ofInt]
  have h : (m &&& n) < 2 ^ 64 := Nat.lt_of_le_of_lt Nat.and_le_left (by omega)
  have e1 : ((m : Int) % ((2 ^ 64 : Nat) : Int)).toNat = m := by omega
  have e2 : ((n : Int) % ((2 ^ 64 : Nat) : Int)).toNat = n := by omega
  rw [e1, e2]
  omega
theorem xor_nat (hm : m < 18446744073709551616) (hn : n < 18446744073709551616) : bitsOf .xor .u64 (m : Int) (n : Int) = ((m ^^^ n : Nat) : Int) := by
  show IntKind.u64.wrap (((BitVec.ofInt 64 (m : Int) ^^^ BitVec.ofInt 64 (n : Int)).toNat : Nat) : Int) = _
  rw [wrap_u64, BitVec.toNat_xor]
  simp only [BitVec.toNat_ofInt]
  have h : (m ^^^ n) < 2 ^ 64 := Nat.xor_lt_two_pow (by omega) (by omega)
  have e1 : ((m : Int) % ((2 ^ 64 : Nat) : Int)).toNat = m := by omega
  have e2 : ((n : Int) % ((2 ^ 64 : Nat) : Int)).toNat = n := by omega
  rw [e1, e2]
  omega
theorem and1_64 (hm : m < 18446744073709551616) : bitsOf .and .u64 (m : Int) 1 = ((m % 2 : Nat) : Int) := by
  have := and_nat (m := m) (n := 1) hm (by decide)
  rw [show ((1 : Nat) : Int) = 1 from rfl] at this
  rw [this, Nat.and_one_is_mod]
theorem or_shift {a b i : Nat} (hb : b < 2 ^ i) : a * 2 ^ i ||| b = a * 2 ^ i + b := by
  have := Nat.shiftLeft_add_eq_or_of_lt hb a
  rw [Nat.shiftLeft_eq] at this
  exact this.symm
theorem or_b {n : Nat} {b : UInt8} (hn : n < 2 ^ 56) : bitsOf .or .u64 (IntKind.u64.wrap ((n : Int) * 2 ^ (min (8 : Int).toNat IntKind.u64.bits))) (IntKind.u64.wrap (b.toNat : Int)) = ((n * 256 + b.toNat : Nat) : Int) := by
  have hb : b.toNat < 256 := b.toNat_lt
  have e : min (8 : Int).toNat IntKind.u64.bits = 8 := rfl
  rw [e, show (n : Int) * 2 ^ 8 = ((n * 2 ^ 8 : Nat) : Int) by simp, u64_nat (by omega), u64_nat (by omega), or_nat (by omega) (by omega), or_shift (by omega)]
end
theorem zag_eq {n : Nat} (hn : n < 2 ^ 64) : bitsOf .xor .i64 (IntKind.i64.wrap (Int.fdiv (n : Int) (2 ^ (min (1 : Int).toNat IntKind.u64.bits)))) (IntKind.i64.wrap (-(IntKind.i64.wrap (bitsOf .and .u64 (n : Int) 1)))) = zag n := by
  have e : min (1 : Int).toNat IntKind.u64.bits = 1 := rfl
  rw [e, and1_64 (by omega), fdiv_nat, i64_nat (by omega), i64_nat (by omega)]
  unfold zag
  show IntKind.i64.wrap (((BitVec.ofInt 64 ((n / 2 ^ 1 : Nat) : Int) ^^^ BitVec.ofInt 64 (IntKind.i64.wrap (-((n % 2 : Nat) : Int)))).toNat : Nat) : Int) = _
  rcases Nat.mod_two_eq_zero_or_one n with h | h
  · rw [h]
    have e1 : IntKind.i64.wrap (-((0 : Nat) : Int)) = 0 := rfl
    have e2 : BitVec.ofInt 64 0 = 0#64 := rfl
    rw [e1, e2, if_neg (by decide)]
    simp only [BitVec.xor_zero, BitVec.toNat_ofInt]
    rw [wrap_i64]
    have : (((n / 2 ^ 1 : Nat) : Int) % ((2 ^ 64 : Nat) : Int)).toNat = n / 2 := by omega
    rw [this, if_pos (by omega)]
    omega
  · rw [h]
    have e1 : IntKind.i64.wrap (-((1 : Nat) : Int)) = -1 := rfl
    have e2 : BitVec.ofInt 64 (-1) = BitVec.allOnes 64 := rfl
    rw [e1, e2, if_pos rfl]
    simp only [BitVec.xor_allOnes, BitVec.toNat_not, BitVec.toNat_ofInt]
    rw [wrap_i64]
    have : (((n / 2 ^ 1 : Nat) : Int) % ((2 ^ 64 : Nat) : Int)).toNat = n / 2 := by omega
    rw [this]
    have h3 : 2 ^ 64 - 1 - n / 2 = 18446744073709551615 - n / 2 := rfl
    rw [h3, if_neg (by omega)]
    omega
theorem zig_eq {n : Int} (h1 : -9223372036854775808 ≤ n) (h2 : n < 9223372036854775808) :
    bitsOf .xor .u64 (IntKind.u64.wrap (IntKind.i64.wrap (n * 2 ^ (min (1 : Int).toNat IntKind.i64.bits)))) (IntKind.u64.wrap (Int.fdiv n (2 ^ (min (63 : Int).toNat IntKind.i64.bits)))) = ((zig n : Nat) : Int) := by
  have e : min (1 : Int).toNat IntKind.i64.bits = 1 := rfl
  have e63 : min (63 : Int).toNat IntKind.i64.bits = 63 := rfl
  rw [e, e63]
  have hw : IntKind.u64.wrap (IntKind.i64.wrap (n * 2 ^ 1)) = (((n * 2) % 18446744073709551616).toNat : Int) := by
    rw [wrap_u64, wrap_i64]
    split <;> omega
  rw [hw]
  unfold zig
  have hp : (2 : Int) ^ 63 = 9223372036854775808 := by decide
  have hf : Int.fdiv n (2 ^ 63) = if n < 0 then -1 else 0 := by
    rw [hp, Int.fdiv_eq_ediv_of_nonneg _ (by decide)]
    split <;> omega
  rw [hf]
  by_cases h : n < 0
  · rw [if_pos h, if_pos h]
    have e2 : IntKind.u64.wrap (-1) = ((18446744073709551615 : Nat) : Int) := rfl
    rw [e2, xor_nat (by omega) (by decide)]
    congr 1
    obtain ⟨m, hm⟩ : ∃ m : Nat, ((n * 2) % 18446744073709551616).toNat = m ∧ m < 2 ^ 64 := ⟨_, rfl, by omega⟩
    rw [hm.1]
    have key : m ^^^ 18446744073709551615 = 18446744073709551615 - m := by
      apply Nat.eq_of_testBit_eq
      intro i
      rw [Nat.testBit_xor]
      have h1 := Nat.testBit_two_pow_sub_succ (n := 64) (x := m) hm.2 i
      have h2 : 2 ^ 64 - (m + 1) = 18446744073709551615 - m := by omega
      rw [h2] at h1
      have h3 := Nat.testBit_two_pow_sub_one 64 i
      have h4 : 2 ^ 64 - 1 = 18446744073709551615 := by decide
      rw [h4] at h3
      rw [h1, h3]
      by_cases hi : i < 64
      · simp [hi]
      · have : m.testBit i = false := Nat.testBit_lt_two_pow (Nat.lt_of_lt_of_le hm.2 (Nat.pow_le_pow_right (by decide) (by omega)))
        simp [hi, this]
    rw [key]
    omega
  · rw [if_neg h, if_neg h]
    have e2 : IntKind.u64.wrap 0 = ((0 : Nat) : Int) := rfl
    rw [e2, xor_nat (by omega) (by decide), Nat.xor_zero]
    congr 1
    omega
end Go.Am
set_option linter.unusedSimpArgs false
set_option linter.unusedVariables false
set_option linter.unusedSectionVars false
namespace Go.Am
open Go Go.RowKit
variable [SymE]
inductive Rw (aw : AW) : Value → List UInt8 → Prop
  | of {v : Value} {bs : List UInt8} (h : Rb aw v bs) : Rw aw v bs
  | void {b off c : Nat} : Rw aw (.slice (some ⟨b, off, none⟩) 0 c) []
section
variable {aw aw0 : AW} {own : List Nat} {ro l L S S' : List (Nat × Blk)} {v : Value} {bs : List UInt8}
theorem Rw.len (h : Rw aw v bs) : ∃ q c, v = .slice q bs.length c := by
  cases h with
  | of h => exact h.len
  | void => exact ⟨_, _, rfl⟩
theorem Rw.src (h : Rw aw v bs) : Src aw 1 v bs.length (bytesV bs) := by
  cases h with
  | of h => exact h.src
  | void => exact .slice (by simp [AW.getN, bytesV])
theorem slen_w {X : Int → Prop} (h : Rw aw v bs) (hX : X (bs.length : Int)) : slen v X := by
  obtain ⟨q, c, rfl⟩ := h.len
  exact slen_x hX
theorem toS_w {X : ByteArray → Prop} (h : Rw aw v bs) (hX : X ⟨bs.toArray⟩) : toS aw v X := by
  obtain ⟨q, c, e⟩ := h.len
  exact ⟨bs, bs.length, _, h.src, ⟨q, _, c, e⟩, rfl, hX⟩
def Rws (aw0 : AW) (own : List Nat) (ro S : List (Nat × Blk)) (v : Value) (bs : List UInt8) : Prop := ∀ (aw : AW) (L : List (Nat × Blk)), Hp aw0 own ro aw L → (∀ p ∈ S, p ∈ L) → Rw aw v bs
theorem Rws.more (h : Rws aw0 own ro S v bs) (hs : ∀ p ∈ S, p ∈ S') : Rws aw0 own ro S' v bs := fun aw L M hl => h aw L M fun p hp => hl p (hs p hp)
theorem Rs.w (h : Rs aw0 own ro S v bs) : Rws aw0 own ro S v bs := fun aw L M hl => .of (h aw L M hl)
end
end Go.Am
set_option linter.unusedSimpArgs false
set_option linter.unusedVariables false
namespace Go.Oc
def TR : Nat := 1048576
abbrev Bnd := List UInt8 × List UInt8 × List UInt8
def encBnd (b : Bnd) : List UInt8 := encB b.1 ++ (encB b.2.1 ++ encB b.2.2)
def encMv (m : Bool × Int) : List UInt8 := encU (bif m.1 then 1 else 0) ++ encU (zig m.2)
structure Outc where
  E : Int
  At : Int
  Raise : List UInt8
  Binds : List Bnd
  Out : List UInt8
  Moves : List (Bool × Int)
def encBs (l : List Bnd) : List UInt8 := l.flatMap encBnd
def encMs (l : List (Bool × Int)) : List UInt8 := l.flatMap encMv
def encO (o : Outc) : List UInt8 := encU (zig o.E) ++ (encU (zig o.At) ++ (encB o.Raise ++ (encU o.Binds.length ++ (encBs o.Binds ++ (encB o.Out ++ (encU o.Moves.length ++ encMs o.Moves))))))
def rBnd (s : St) : Bnd × St := let a := rB TR s; let b := rB TR a.2; let c := rB TR b.2; ((a.1, b.1, c.1), c.2)
def rMv (s : St) : (Bool × Int) × St := let a := rUp 1 s; let b := rI a.2; ((decide (a.1 = 1), b.1), b.2)
def rMany {α : Type} (f : St → α × St) : Nat → St → List α × St
  | 0, s => ([], s)
  | _ + 1, none => ([], none)
  | n + 1, some r => ((f (some r)).1 :: (rMany f n (f (some r)).2).1, (rMany f n (f (some r)).2).2)
theorem rMany_none {α : Type} {f : St → α × St} : ∀ n, rMany f n none = ([], none)
  | 0 => rfl
  | _ + 1 => rfl
theorem rMany_enc {α : Type} {f : St → α × St} {enc : α → List UInt8} : ∀ (l : List α) (r : List UInt8), (∀ x ∈ l, ∀ r, f (some (enc x ++ r)) = (x, some r)) → rMany f l.length (some (l.flatMap enc ++ r)) = (l, some r)
  | [], r, _ => rfl
  | x :: l, r, h => by
    have h1 := h x (List.mem_cons_self ..) (l.flatMap enc ++ r)
    have h2 := rMany_enc l r fun y hy => h y (List.mem_cons_of_mem _ hy)
    rw [List.flatMap_cons, List.append_assoc]
    simp only [List.length_cons, rMany]
    rw [h1, h2]
def rdO (p : List UInt8) : Outc × St :=
  let e := rI (some p); let t := rI e.2; let ra := rB TR t.2; let n := rUp 65536 ra.2; let bs := rMany rBnd n.1 n.2; let u := rB TR bs.2; let k := rUp 65536 u.2; let ms := rMany rMv k.1 k.2
  (⟨e.1, t.1, ra.1, bs.1, u.1, ms.1⟩, ms.2)
structure Outc.Ok (o : Outc) : Prop where
  e : -9223372036854775808 ≤ o.E ∧ o.E < 9223372036854775808
  a : -9223372036854775808 ≤ o.At ∧ o.At < 9223372036854775808
  m : ∀ x ∈ o.Moves, -9223372036854775808 ≤ x.2 ∧ x.2 < 9223372036854775808
theorem rdO_enc {o : Outc} (h : o.Ok) (hr : o.Raise.length ≤ TR) (ho : o.Out.length ≤ TR) (hb : o.Binds.length ≤ 65536) (hm : o.Moves.length ≤ 65536) (hB : ∀ b ∈ o.Binds, b.1.length ≤ TR ∧ b.2.1.length ≤ TR ∧ b.2.2.length ≤ TR) : rdO (encO o) = (o, some []) := by
  have tr : TR < 2 ^ 64 := by decide
  have e1 : ∀ r, rMany rBnd o.Binds.length (some (encBs o.Binds ++ r)) = (o.Binds, some r) := fun r => rMany_enc _ _ fun x hx r => by
    obtain ⟨h1, h2, h3⟩ := hB x hx
    simp only [rBnd, encBnd, List.append_assoc]
    rw [rB_enc (by omega) h1, rB_enc (by omega) h2, rB_enc (by omega) h3]
  have e2 : ∀ r, rMany rMv o.Moves.length (some (encMs o.Moves ++ r)) = (o.Moves, some r) := fun r => rMany_enc _ _ fun x hx r => by
    obtain ⟨h1, h2⟩ := h.m x hx
    obtain ⟨t, n⟩ := x
    simp only [rMv, encMv, List.append_assoc]
    cases t
    · rw [cond_false, rUp_enc (by decide) (by decide), rI_enc h1 h2]; rfl
    · rw [cond_true, rUp_enc (by decide) (by decide), rI_enc h1 h2]; rfl
  unfold rdO encO
  simp only
  rw [rI_enc h.e.1 h.e.2]
  simp only
  rw [rI_enc h.a.1 h.a.2]
  simp only
  rw [rB_enc (by omega) hr]
  simp only
  rw [rUp_enc (by omega) hb]
  simp only
  rw [e1]
  simp only
  rw [rB_enc (by omega) ho]
  simp only
  rw [rUp_enc (by omega) hm]
  simp only
  have := e2 []
  rw [List.append_nil] at this
  rw [this]
end Go.Oc
set_option linter.unusedSimpArgs false
set_option linter.unusedVariables false
set_option linter.unusedSectionVars false
namespace Go.Am
open Go Go.RowKit
variable [SymE]
section
variable {aw0 aw : AW} {own : List Nat} {ro l L S S' : List (Nat × Blk)} {v : Value} {size n el : Nat} {os cs : List Value}
inductive Fs (aw0 : AW) (own : List Nat) (ro S : List (Nat × Blk)) (size : Nat) : Value → Nat → List Value → Prop
  | nil : Fs aw0 own ro S size (.slice none 0 0) 0 []
  | emp {b off c : Nat} : Fs aw0 own ro S size (.slice (some ⟨b, off, none⟩) 0 c) 0 []
  | at {b off c n : Nat} {os : List Value} (hb : ∀ (aw : AW) (L : List (Nat × Blk)), Hp aw0 own ro aw L → (∀ p ∈ S, p ∈ L) → ∃ B, aw.m b = some B ∧ ∀ i v, os[i]? = some v → B.cells[off + i]? = some v) (hl : os.length = n * size) :
      Fs aw0 own ro S size (.slice (some ⟨b, off, none⟩) n c) n os
theorem Fs.more (h : Fs aw0 own ro S size v n os) (hs : ∀ p ∈ S, p ∈ S') : Fs aw0 own ro S' size v n os := by
  cases h with
  | nil => exact .nil
  | emp => exact .emp
  | «at» hb hl => exact .at (fun aw L M hS => hb aw L M fun p hp => hS p (hs p hp)) hl
theorem Fs.val (h : Fs aw0 own ro S size v n os) : ∃ q c, v = .slice q n c := by
  cases h <;> exact ⟨_, _, rfl⟩
theorem Fs.len (h : Fs aw0 own ro S size v n os) : os.length = n * size := by
  cases h with
  | nil => simp
  | emp => simp
  | «at» _ hl => exact hl
theorem Fs.one' (h : Fs aw0 own ro S size v n os) : one v = true := by
  cases h <;> rfl
theorem slen_f {X : Int → Prop} (h : Fs aw0 own ro S size v n os) (hX : X (n : Int)) : slen v X := by
  obtain ⟨q, c, rfl⟩ := h.val
  exact slen_x hX
theorem ix_f {X : Value → Prop} {j : Int} {i : Nat} (h : Fs aw0 own ro S size v n os) (hj : j = (i : Int)) (hi : i < n)
    (hX : ∀ b o, (∀ (aw : AW) (L : List (Nat × Blk)), Hp aw0 own ro aw L → (∀ p ∈ S, p ∈ L) → ∀ (k : Nat) (u : Value), os[i * size + k]? = some u → aw.get b (o + k) = some u) → X (.pointer (some ⟨b, o, none⟩))) : ixS v j size X := by
  subst hj
  cases h with
  | nil => omega
  | emp => omega
  | «at» hb hl =>
    rename_i b off c
    refine ⟨b, off, n, c, _, rfl, by omega, by omega, rfl, hX b (off + ((i : Int).toNat) * size) fun aw L M hS k u hu => ?_⟩
    obtain ⟨B, hB, hc⟩ := hb aw L M hS
    exact get_m hB (by rw [show off + (i : Int).toNat * size + k = off + (i * size + k) by simp [Nat.add_assoc]]; exact hc _ _ hu)
structure FO (el size : Nat) (v : Value) (n : Nat) (os : List Value) (L : List (Nat × Blk)) : Prop where
  p : SlP el size v n os L
  l : os.length = n * size
theorem FO.nil : FO el size (.slice none 0 0) 0 [] [] := ⟨.nil, by simp⟩
theorem FO.one' (h : FO el size v n os L) : one v = true := by
  have := h.p
  cases this <;> rfl
theorem FO.fs (h : FO el size v n os L) : Fs aw0 own ro L size v n os := by
  have hl := h.l
  have hp := h.p
  cases hp with
  | nil => exact .nil
  | some _ =>
    rename_i b
    exact .at (fun aw L' M hS => ⟨_, (M.at_ _ (hS _ (List.mem_singleton.2 rfl))).1, fun i v hi => by simpa using hi⟩) hl
theorem FO.push {K : Value → AW → Prop} {bytes : Nat} {xv : Value} (h : FO el size v n os L) (M : Hp aw0 own ro aw (L ++ l)) (hb : (2 * (n + 1) + 768) * bytes ≤ 2 ^ 48) (hx : Src aw size xv 1 cs) (ho : cs.all one = true) (hc : cs.length = size)
    (hK : ∀ v' L' aw', FO el size v' (n + 1) (os ++ cs) L' → Hp aw0 own ro aw' (L' ++ l) → K v' aw') : app aw el size bytes v xv K := by
  have hl := h.l
  refine app_p h.p M hx (by decide) ho hb fun b aw' M' => ?_
  rw [List.take_of_length_le (by omega)] at M'
  have hlen : (os ++ cs).length = (n + 1) * size := by rw [List.length_append, hl, hc, Nat.add_mul, Nat.one_mul]
  exact hK _ [(b, _)] aw' ⟨.some (by omega), hlen⟩ M'
end
end Go.Am
set_option linter.unusedSimpArgs false
set_option linter.unusedVariables false
set_option linter.unusedSectionVars false
namespace Go.Ri
open Go Go.Am Go.RowKit
def slD {H : Type} (s : List (List UInt8)) : DataW H := .slice (s.map fun x => .lit (.string x)) []
theorem trod_slices [SymE] {H : Type} {enc : TypeId × Value → H} {P : Program} {w : World} {fuel : Nat} {t e1 e n : Nat} {cs : List Value} {ss : List (List (List UInt8))} {p : List MemPlace}
    (ht : P.underlying t = some (.array n e1)) (h1 : P.underlying e1 = some (.slice e)) (he : P.underlying e = some .string) (hc1 : P.cellsOf e1 = 1) (hc : P.cellsOf e = 1) (hct : P.cellsOf t = n)
    (h : DataW.trod enc P w 0 (fun _ => true) false fuel t cs = some (.agg (ss.map slD), p)) : cs.length = ss.length ∧ ∀ (i : Nat) (s : List (List UInt8)), ss[i]? = some s → s ≠ [] →
      ∃ a, cs[i]? = some (.slice (some a) s.length s.length) ∧ a.spot = none ∧ ∃ C el fz, w.heap[a.block]? = some (.cells C el fz) ∧ ∀ (j : Nat) (x : List UInt8), s[j]? = some x → C[a.off + j]? = some (.string ⟨⟨x⟩⟩) := by
  obtain ⟨xs, m, _, hx, hlen, hn, hel⟩ := DataW.trod_array ht h
  simp only [Prod.mk.injEq, DataW.agg.injEq] at hx
  have hl : ss.length = n := by
    have := congrArg List.length hx.1
    simp at this; omega
  refine ⟨by omega, fun i s hs hne => ?_⟩
  have hi : i < n := by have := (List.getElem?_eq_some_iff.1 hs).1; omega
  have h2 := hel i hi
  rw [hc1, Nat.mul_one] at h2
  have hi' : i < cs.length := by omega
  have h3 : (cs.drop i).take 1 = [cs[i]] := by
    rw [List.drop_eq_getElem_cons hi']; rfl
  rw [h3] at h2
  have hxi : i < xs.length := by omega
  rw [List.getElem?_eq_getElem hxi] at h2
  have hx1 : (xs[i]).1 = slD s := by
    have := congrArg (fun l => l[i]?) hx.1
    simp only [List.getElem?_map, hs, List.getElem?_eq_getElem hxi, Option.map_some, Option.some.injEq] at this
    exact this.symm
  rcases DataW.trod_slice h1 h2 with ⟨_, h4⟩ | ⟨a, len, cap, elems, rest, q, _, h4, h5, h6, h7, h8, h9, h10, h11, _⟩
  · rw [h4] at hx1
    simp [slD] at hx1
  · have h5' : (xs[i]).1 = .slice (elems.map (·.1)) (rest.map (·.1)) := by rw [h5]
    rw [hx1] at h5'
    simp only [slD, DataW.slice.injEq] at h5'
    obtain ⟨g1, g2⟩ := h5'
    have hr0 : rest = [] := by
      cases rest with
      | nil => rfl
      | cons x r => simp at g2
    obtain ⟨k1, _⟩ := h11 rfl
    rw [hr0] at k1
    have hcap : cap = len := by simp at k1; omega
    have hlen' : len = s.length := by
      have := congrArg List.length g1
      simp at this; omega
    have hel2 : ∀ (j : Nat) (x : List UInt8), s[j]? = some x → (j = 0 → a.spot = none) ∧ ∃ C el fz, w.heap[a.block]? = some (.cells C el fz) ∧ C[a.off + j]? = some (.string ⟨⟨x⟩⟩) := by
      intro j x hj
      have hjl : j < len := by have := (List.getElem?_eq_some_iff.1 hj).1; omega
      have h12 := h10 j hjl
      rw [hc, Nat.mul_one] at h12
      have hje : j < elems.length := by omega
      rw [List.getElem?_eq_getElem hje] at h12
      cases hcl : w.cells? 0 (a.add j) 1 with
      | none => rw [hcl] at h12; cases h12
      | some c =>
        rw [hcl] at h12
        simp only [Option.bind_some] at h12
        obtain ⟨u, e1, e2, _⟩ := DataW.trod_string he h12
        have hxj : (elems[j]).1 = .lit (.string x) := by
          have := congrArg (fun l => l[j]?) g1
          simp only [List.getElem?_map, hj, List.getElem?_eq_getElem hje, Option.map_some, Option.some.injEq] at this
          exact this.symm
        rw [e2] at hxj
        simp only [DataW.lit.injEq, Lit.string.injEq] at hxj
        obtain ⟨hsp, C, el, fz, hh, hsz, hcc⟩ := cells_at hcl (by decide)
        obtain ⟨f1, f2⟩ := add_lit' a j
        rw [f1] at hh
        rw [f2] at hcc hsz
        refine ⟨fun h0 => by subst h0; simpa [Addr.add] using hsp, C, el, fz, hh, ?_⟩
        have hlt : a.off + j < C.size := by omega
        have : C.toList.drop (a.off + j) = C[a.off + j] :: C.toList.drop (a.off + j + 1) := by
          rw [List.drop_eq_getElem_cons (by simpa using hlt)]; simp
        rw [this] at hcc
        simp only [List.take_succ_cons, List.take_zero] at hcc
        rw [e1] at hcc
        simp only [List.cons.injEq, and_true] at hcc
        rw [Array.getElem?_eq_getElem hlt, ← hcc]
        rcases u with ⟨⟨u⟩⟩
        simp only at hxj
        rw [hxj]
    obtain ⟨x0, hx0⟩ : ∃ x0, s[0]? = some x0 := by
      cases s with
      | nil => exact absurd rfl hne
      | cons x r => exact ⟨x, rfl⟩
    obtain ⟨hsp, C, el, fz, hh, _⟩ := hel2 0 x0 hx0
    refine ⟨a, ?_, hsp rfl, C, el, fz, hh, fun j x hj => ?_⟩
    · simp only [List.cons.injEq, and_true] at h4
      rw [List.getElem?_eq_getElem hi', h4, hcap, hlen']
    · obtain ⟨_, C', el', fz', hh', hc'⟩ := hel2 j x hj
      rw [hh] at hh'
      have hq := Option.some.inj hh'
      injection hq with q1 q2 q3
      subst q1
      exact hc'
theorem rel_memR [SymE] [FT] [FTok] {G n : Nat} {W : World} {ents : List Ent} {l : List (Nat × List Value × TypeId × Nat)} (hn : n = G + ents.length)
    (h : ∀ p ∈ l, p.1 < n ∧ ∃ e cs fz, inj0 G W ents p.1 = some e ∧ e.esz = p.2.2.2 ∧ (p.2.2.2 = 0 → e.off = 0 ∧ e.csize = p.2.1.length) ∧ W.heap[e.cb]? = some (.cells cs p.2.2.1 fz) ∧ cs.size = e.csize ∧ e.off + p.2.1.length ≤ e.csize ∧
      ∀ (i : Nat) (v : Value), p.2.1[i]? = some v → ∃ v', cs[e.off + i]? = some v' ∧ VR (inj0 G W ents) v v') : Rel G (· < W.heap.size) W (inj0 G W ents) (memR n l).abs W := by
  have r := rel_start G W ents
  subst hn
  refine ⟨r.fresh, fun b hb => ?_, fun b B hB => ?_, fun b1 b2 B1 B2 e1 e2 _ hB1 _ _ _ hrw => ?_, r.hbase, r.glob, r.below, Maps.none fun b => T.get_leaf b⟩
  · cases hB : (memR (G + ents.length) l).abs.m b with
    | none => rfl
    | some B =>
      obtain ⟨p, hp, rfl, _⟩ := memR_abs l b B hB
      have := (h p hp).1
      have hb' : G + ents.length ≤ p.1 := hb
      omega
  · obtain ⟨p, hp, rfl, rfl⟩ := memR_abs l b B hB
    obtain ⟨_, e, cs, fz, h1, h2, h3, h4, h5, h6, h7⟩ := h p hp
    exact ⟨e, cs, fz, h1, ⟨h2, (fun h => by cases h), h3⟩, h4, h5, h6, h7, (fun h => by cases h)⟩
  · obtain ⟨p, hp, rfl, rfl⟩ := memR_abs l b1 B1 hB1
    cases hrw
end Go.Ri
set_option linter.unusedVariables false
set_option linter.unusedSimpArgs false
namespace Go.Ri
open Go Go.Am
@[reducible] def symOf (l : List (IntKind × Int)) : SymE := ⟨fun i => .int (l.getD i (.i64, 0)).1 (l.getD i (.i64, 0)).2, fun i => .inl ⟨_, _, rfl⟩⟩
end Go.Ri
