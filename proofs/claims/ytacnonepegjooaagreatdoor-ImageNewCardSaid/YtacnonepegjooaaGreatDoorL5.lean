/- The library of this claim, part 5: values alike, an abstract memory, operations, regions, an interpreter that the kernel runs. -/
import Derived.Test.YtacnonepegjooaaGreatDoorL4
set_option linter.unusedSimpArgs false
set_option linter.unusedVariables false
namespace Go.Oc
def be : Nat → List UInt8 → Nat
  | a, [] => a
  | a, b :: l => be (a * 256 + b.toNat) l
def rdU : List UInt8 → Option (Nat × List UInt8)
  | [] => none
  | k :: r => if 8 < k.toNat ∨ r.length < k.toNat ∨ (0 < k.toNat ∧ r.head? = some 0) then none else some (be 0 (r.take k.toNat), r.drop k.toNat)
abbrev St := Option (List UInt8)
def rU : St → Nat × St
  | none => (0, none)
  | some p => match rdU p with
    | none => (0, none)
    | some (n, r) => (n, some r)
def rUp (most : Nat) (s : St) : Nat × St := if (rU s).2 = none ∨ most < (rU s).1 then (0, none) else rU s
def rB (most : Nat) (s : St) : List UInt8 × St := match (rUp most s).2 with
  | none => ([], none)
  | some r => if r.length < (rUp most s).1 then ([], none) else (r.take (rUp most s).1, some (r.drop (rUp most s).1))
def poly : Nat := 2197175160
def crcS (c : Nat) : Nat := (c / 2) ^^^ (if c % 2 = 1 then poly else 0)
def crcN : Nat → Nat → Nat
  | 0, c => c
  | k + 1, c => crcN k (crcS c)
def crcB (c : Nat) (b : UInt8) : Nat := crcN 8 (c ^^^ b.toNat)
def crcL : Nat → List UInt8 → Nat
  | c, [] => c
  | c, b :: l => crcL (crcB c b) l
def sum (l : List UInt8) : Nat := 4294967295 - crcL 4294967295 l
theorem crcS_lt {c : Nat} (h : c < 2 ^ 32) : crcS c < 2 ^ 32 := by
  unfold crcS
  refine Nat.xor_lt_two_pow (by omega) ?_
  split <;> decide
theorem crcN_lt : ∀ {k c : Nat}, c < 2 ^ 32 → crcN k c < 2 ^ 32
  | 0, _, h => h
  | k + 1, c, h => crcN_lt (k := k) (crcS_lt h)
theorem crcB_lt {c : Nat} {b : UInt8} (h : c < 2 ^ 32) : crcB c b < 2 ^ 32 := crcN_lt (Nat.xor_lt_two_pow h (Nat.lt_of_lt_of_le b.toNat_lt (by decide)))
end Go.Oc
namespace Go.Oc
end Go.Oc
namespace Go.Oc
end Go.Oc
set_option linter.unusedSimpArgs false
set_option linter.unusedVariables false
set_option linter.unusedSectionVars false
namespace Go.Am
open Go Go.RowKit
variable [SymE]
inductive Rb (aw : AW) : Value → List UInt8 → Prop
  | nil : Rb aw (.slice none 0 0) []
  | emp {b off c : Nat} (hc : c < UNK ∨ ∃ B, aw.m b = some B ∧ B.esz = 1) : Rb aw (.slice (some ⟨b, off, none⟩) 0 c) []
  | «at» {b off c : Nat} {B : Blk} {bs : List UInt8} (hb : aw.m b = some B) (he : B.esz = 1) (hl : off + bs.length ≤ B.cells.length) (hc : (B.cells.drop off).take bs.length = bytesV bs) (hcap : c < UNK → bs.length ≤ c) : Rb aw (.slice (some ⟨b, off, none⟩) bs.length c) bs
section
variable {aw aw' aw0 : AW} {own : List Nat} {ro l L S S' : List (Nat × Blk)} {v w : Value} {bs cs : List UInt8} {k : Nat}
theorem bytesV_get (l : List UInt8) (i : Nat) : (bytesV l)[i]? = (l[i]?).map fun b => .int .u8 b.toNat := by simp [bytesV]
theorem bytesV_app (l m : List UInt8) : bytesV (l ++ m) = bytesV l ++ bytesV m := by simp [bytesV]
theorem Rb.len (h : Rb aw v bs) : ∃ q c, v = .slice q bs.length c := by
  cases h with
  | nil => exact ⟨_, _, rfl⟩
  | emp => exact ⟨_, _, rfl⟩
  | «at» => exact ⟨_, _, rfl⟩
theorem Rb.src (h : Rb aw v bs) : Src aw 1 v bs.length (bytesV bs) := by
  cases h with
  | nil => exact .nil
  | emp => exact .slice (by simp [AW.getN, bytesV])
  | «at» hb he hl hc hcap => exact src_x ⟨hb⟩ (by omega) (by rw [Nat.mul_one]; exact hc)
theorem Rb.get (h : Rb aw v bs) {i : Nat} {x : UInt8} (hi : bs[i]? = some x) : ∃ b off c, v = .slice (some ⟨b, off, none⟩) bs.length c ∧ aw.get b (off + i * 1) = some (.int .u8 x.toNat) := by
  cases h with
  | nil => cases hi
  | emp => cases hi
  | «at» hb he hl hc hcap =>
    rename_i b off c B
    refine ⟨b, off, c, rfl, ?_⟩
    have hlt := (List.getElem?_eq_some_iff.1 hi).1
    have := congrArg (fun q => q[i]?) hc
    simp only [bytesV_get, hi, Option.map_some] at this
    rw [List.getElem?_take, if_pos hlt, List.getElem?_drop] at this
    rw [Nat.mul_one]
    exact get_m hb this
theorem Rb.cut (h : Rb aw v bs) {lo hi : Nat} (h1 : lo ≤ hi) (h2 : hi ≤ bs.length) : ∃ v', Cut aw 1 v (lo : Int) (hi : Int) v' ∧ Rb aw v' ((bs.drop lo).take (hi - lo)) := by
  cases h with
  | nil =>
    simp at h2
    subst h2
    obtain rfl : lo = 0 := by omega
    exact ⟨_, .nil, .nil⟩
  | emp hc =>
    rename_i b off c
    simp at h2
    subst h2
    obtain rfl : lo = 0 := by omega
    refine ⟨_, .some (Nat.le_refl _) (by split <;> omega) (fun hcc => hc.resolve_left (by omega)), ?_⟩
    simp only [Nat.sub_self, List.take_zero]
    refine .emp ?_
    rcases hc with hc | hc
    · left; unfold capOf; split <;> omega
    · exact .inr hc
  | «at» hb he hl hc hcap =>
    rename_i b off c B
    refine ⟨_, .some h1 (by split <;> first | omega | (rename_i hcc; have := hcap hcc; omega)) (fun _ => ⟨B, hb, he⟩), ?_⟩
    have hlen : ((bs.drop lo).take (hi - lo)).length = hi - lo := by simp; omega
    have hcells : (B.cells.drop (off + lo * 1)).take ((bs.drop lo).take (hi - lo)).length = bytesV ((bs.drop lo).take (hi - lo)) := by
      rw [hlen, Nat.mul_one]
      have e1 : bytesV ((bs.drop lo).take (hi - lo)) = ((bytesV bs).drop lo).take (hi - lo) := by simp [bytesV, List.map_take, List.map_drop]
      rw [e1, ← hc, List.drop_take, List.drop_drop, List.take_take]
      congr 1
      omega
    have := Rb.at (aw := aw) (b := b) (off := off + lo * 1) (c := capOf c lo) hb he (by rw [hlen]; omega) hcells (by
      rw [hlen]
      unfold capOf
      intro hq
      split at hq <;> rename_i hcc
      · have := hcap hcc
        simp only [hcc, if_true]
        omega
      · unfold UNK at *; omega)
    rw [hlen] at this
    exact this
def Rs (aw0 : AW) (own : List Nat) (ro S : List (Nat × Blk)) (v : Value) (bs : List UInt8) : Prop := ∀ (aw : AW) (L : List (Nat × Blk)), Hp aw0 own ro aw L → (∀ p ∈ S, p ∈ L) → Rb aw v bs
theorem Rs.more (h : Rs aw0 own ro S v bs) (hs : ∀ p ∈ S, p ∈ S') : Rs aw0 own ro S' v bs := fun aw L M hl => h aw L M fun p hp => hl p (hs p hp)
inductive Ob (el : Nat) : Value → List UInt8 → List (Nat × Blk) → Prop
  | nil : Ob el (.slice none 0 0) [] []
  | blk {b n c : Nat} {bs : List UInt8} (hn : n = bs.length) (hc : c = n ∨ c = UNK) : Ob el (.slice (some ⟨b, 0, none⟩) n c) bs [(b, ⟨bytesV bs, el, 1, true, 0⟩)]
theorem Ob.len {el : Nat} (h : Ob el v bs L) : ∃ q c, v = .slice q bs.length c := by
  cases h with
  | nil => exact ⟨_, _, rfl⟩
  | blk hn hc => subst hn; exact ⟨_, _, rfl⟩
theorem ix_b {X : Value → Prop} {j : Int} {i : Nat} {x : UInt8} {K : Int → Prop} (h : Rb aw v bs) (hj : j = (i : Int)) (hi : bs[i]? = some x) (hX : ∀ p, ldI .u8 aw p K → X p) (hK : K (x.toNat : Int)) : ixS v j 1 X := by
  subst hj
  obtain ⟨b, off, c, rfl, hg⟩ := h.get hi
  have hlt := (List.getElem?_eq_some_iff.1 hi).1
  exact ⟨b, off, bs.length, c, _, rfl, by omega, by omega, rfl, hX _ ⟨b, _, _, rfl, by simpa using hg, hK⟩⟩
theorem slen_b {X : Int → Prop} (h : Rb aw v bs) (hX : X (bs.length : Int)) : slen v X := by
  obtain ⟨q, c, rfl⟩ := h.len
  exact slen_x hX
end
end Go.Am
set_option linter.unusedSimpArgs false
set_option linter.unusedVariables false
set_option linter.unusedSectionVars false
namespace Go.Am
open Go Go.RowKit
variable [SymE]
inductive Rw (aw : AW) : Value → List UInt8 → Prop
  | of {v : Value} {bs : List UInt8} (h : Rb aw v bs) : Rw aw v bs
  | void {b off c : Nat} : Rw aw (.slice (some ⟨b, off, none⟩) 0 c) []
section
variable {aw aw0 : AW} {own : List Nat} {ro l L S S' : List (Nat × Blk)} {v : Value} {bs : List UInt8}
theorem Rw.len (h : Rw aw v bs) : ∃ q c, v = .slice q bs.length c := by
  cases h with
  | of h => exact h.len
  | void => exact ⟨_, _, rfl⟩
theorem Rw.src (h : Rw aw v bs) : Src aw 1 v bs.length (bytesV bs) := by
  cases h with
  | of h => exact h.src
  | void => exact .slice (by simp [AW.getN, bytesV])
def Rws (aw0 : AW) (own : List Nat) (ro S : List (Nat × Blk)) (v : Value) (bs : List UInt8) : Prop := ∀ (aw : AW) (L : List (Nat × Blk)), Hp aw0 own ro aw L → (∀ p ∈ S, p ∈ L) → Rw aw v bs
theorem Rws.more (h : Rws aw0 own ro S v bs) (hs : ∀ p ∈ S, p ∈ S') : Rws aw0 own ro S' v bs := fun aw L M hl => h aw L M fun p hp => hl p (hs p hp)
end
end Go.Am
set_option linter.unusedSimpArgs false
set_option linter.unusedVariables false
set_option linter.unusedSectionVars false
namespace Go.Am
open Go Go.RowKit
variable [SymE]
section
variable {aw0 aw : AW} {own : List Nat} {ro l L S S' : List (Nat × Blk)} {v : Value} {size n el : Nat} {os cs : List Value}
inductive Fs (aw0 : AW) (own : List Nat) (ro S : List (Nat × Blk)) (size : Nat) : Value → Nat → List Value → Prop
  | nil : Fs aw0 own ro S size (.slice none 0 0) 0 []
  | emp {b off c : Nat} : Fs aw0 own ro S size (.slice (some ⟨b, off, none⟩) 0 c) 0 []
  | at {b off c n : Nat} {os : List Value} (hb : ∀ (aw : AW) (L : List (Nat × Blk)), Hp aw0 own ro aw L → (∀ p ∈ S, p ∈ L) → ∃ B, aw.m b = some B ∧ ∀ i v, os[i]? = some v → B.cells[off + i]? = some v) (hl : os.length = n * size) :
      Fs aw0 own ro S size (.slice (some ⟨b, off, none⟩) n c) n os
theorem Fs.more (h : Fs aw0 own ro S size v n os) (hs : ∀ p ∈ S, p ∈ S') : Fs aw0 own ro S' size v n os := by
  cases h with
  | nil => exact .nil
  | emp => exact .emp
  | «at» hb hl => exact .at (fun aw L M hS => hb aw L M fun p hp => hS p (hs p hp)) hl
theorem Fs.val (h : Fs aw0 own ro S size v n os) : ∃ q c, v = .slice q n c := by
  cases h <;> exact ⟨_, _, rfl⟩
theorem Fs.len (h : Fs aw0 own ro S size v n os) : os.length = n * size := by
  cases h with
  | nil => simp
  | emp => simp
  | «at» _ hl => exact hl
structure FO (el size : Nat) (v : Value) (n : Nat) (os : List Value) (L : List (Nat × Blk)) : Prop where
  p : SlP el size v n os L
  l : os.length = n * size
theorem FO.nil : FO el size (.slice none 0 0) 0 [] [] := ⟨.nil, by simp⟩
theorem FO.push {K : Value → AW → Prop} {bytes : Nat} {xv : Value} (h : FO el size v n os L) (M : Hp aw0 own ro aw (L ++ l)) (hb : (2 * (n + 1) + 768) * bytes ≤ 2 ^ 48) (hx : Src aw size xv 1 cs) (ho : cs.all one = true) (hc : cs.length = size)
    (hK : ∀ v' L' aw', FO el size v' (n + 1) (os ++ cs) L' → Hp aw0 own ro aw' (L' ++ l) → K v' aw') : app aw el size bytes v xv K := by
  have hl := h.l
  refine app_p h.p M hx (by decide) ho hb fun b aw' M' => ?_
  rw [List.take_of_length_le (by omega)] at M'
  have hlen : (os ++ cs).length = (n + 1) * size := by rw [List.length_append, hl, hc, Nat.add_mul, Nat.one_mul]
  exact hK _ [(b, _)] aw' ⟨.some (by omega), hlen⟩ M'
end
end Go.Am
set_option linter.unusedSimpArgs false
set_option linter.unusedVariables false
set_option linter.unusedSectionVars false
namespace Go.Ri
open Go Go.Am Go.RowKit
theorem rel_memR [SymE] [FT] [FTok] {G n : Nat} {W : World} {ents : List Ent} {l : List (Nat × List Value × TypeId × Nat)} (hn : n = G + ents.length)
    (h : ∀ p ∈ l, p.1 < n ∧ ∃ e cs fz, inj0 G W ents p.1 = some e ∧ e.esz = p.2.2.2 ∧ (p.2.2.2 = 0 → e.off = 0 ∧ e.csize = p.2.1.length) ∧ W.heap[e.cb]? = some (.cells cs p.2.2.1 fz) ∧ cs.size = e.csize ∧ e.off + p.2.1.length ≤ e.csize ∧
      ∀ (i : Nat) (v : Value), p.2.1[i]? = some v → ∃ v', cs[e.off + i]? = some v' ∧ VR (inj0 G W ents) v v') : Rel G (· < W.heap.size) W (inj0 G W ents) (memR n l).abs W := by
  have r := rel_start G W ents
  subst hn
  refine ⟨r.fresh, fun b hb => ?_, fun b B hB => ?_, fun b1 b2 B1 B2 e1 e2 _ hB1 _ _ _ hrw => ?_, r.hbase, r.glob, r.below, Maps.none fun b => T.get_leaf b⟩
  · cases hB : (memR (G + ents.length) l).abs.m b with
    | none => rfl
    | some B =>
      obtain ⟨p, hp, rfl, _⟩ := memR_abs l b B hB
      have := (h p hp).1
      have hb' : G + ents.length ≤ p.1 := hb
      omega
  · obtain ⟨p, hp, rfl, rfl⟩ := memR_abs l b B hB
    obtain ⟨_, e, cs, fz, h1, h2, h3, h4, h5, h6, h7⟩ := h p hp
    exact ⟨e, cs, fz, h1, ⟨h2, (fun h => by cases h), h3⟩, h4, h5, h6, h7, (fun h => by cases h)⟩
  · obtain ⟨p, hp, rfl, rfl⟩ := memR_abs l b1 B1 hB1
    cases hrw
end Go.Ri
set_option linter.unusedSimpArgs false
set_option linter.unusedVariables false
namespace Go.Am
open Go Go.Oc
theorem wrap_u64 (n : Int) : IntKind.u64.wrap n = n % 18446744073709551616 := by
  simp [IntKind.wrap, IntKind.bits, IntKind.signed]
theorem wrap_u32 (n : Int) : IntKind.u32.wrap n = n % 4294967296 := by
  simp [IntKind.wrap, IntKind.bits, IntKind.signed]
theorem wrap_u8 (n : Int) : IntKind.u8.wrap n = n % 256 := by
  simp [IntKind.wrap, IntKind.bits, IntKind.signed]
theorem i64_nat {n : Nat} (h : n < 2 ^ 63) : IntKind.i64.wrap (n : Int) = n := IntWalk.i64_in _ (by omega)
theorem u64_nat {n : Nat} (h : n < 2 ^ 64) : IntKind.u64.wrap (n : Int) = n := by rw [wrap_u64]; omega
theorem u32_nat {n : Nat} (h : n < 2 ^ 32) : IntKind.u32.wrap (n : Int) = n := by rw [wrap_u32]; omega
theorem u8_nat (n : Nat) : IntKind.u8.wrap (n : Int) = ((n % 256 : Nat) : Int) := by rw [wrap_u8]; omega
theorem fdiv_nat (n k : Nat) : Int.fdiv (n : Int) (2 ^ k) = ((n / 2 ^ k : Nat) : Int) := by
  have e : (2 : Int) ^ k = ((2 ^ k : Nat) : Int) := by simp
  rw [e]
  exact Int.ofNat_fdiv n (2 ^ k) |>.symm
section
variable {m n : Nat}
theorem or_nat (hm : m < 18446744073709551616) (hn : n < 18446744073709551616) : bitsOf .or .u64 (m : Int) (n : Int) = ((m ||| n : Nat) : Int) := by
  show IntKind.u64.wrap (((BitVec.ofInt 64 (m : Int) ||| BitVec.ofInt 64 (n : Int)).toNat : Nat) : Int) = _
  rw [wrap_u64, BitVec.toNat_or]
  simp only [BitVec.toNat_ofInt]
  have h : (m ||| n) < 2 ^ 64 := Nat.or_lt_two_pow (by omega) (by omega)
  have e1 : ((m : Int) % ((2 ^ 64 : Nat) : Int)).toNat = m := by omega
  have e2 : ((n : Int) % ((2 ^ 64 : Nat) : Int)).toNat = n := by omega
  rw [e1, e2]
  omega
theorem xor_n32 (hm : m < 4294967296) (hn : n < 4294967296) : bitsOf .xor .u32 (m : Int) (n : Int) = ((m ^^^ n : Nat) : Int) := by
  show IntKind.u32.wrap (((BitVec.ofInt 32 (m : Int) ^^^ BitVec.ofInt 32 (n : Int)).toNat : Nat) : Int) = _
  rw [wrap_u32, BitVec.toNat_xor]
  simp only [BitVec.toNat_ofInt]
  have h : (m ^^^ n) < 2 ^ 32 := Nat.xor_lt_two_pow (by omega) (by omega)
  have e1 : ((m : Int) % ((2 ^ 32 : Nat) : Int)).toNat = m := by omega
  have e2 : ((n : Int) % ((2 ^ 32 : Nat) : Int)).toNat = n := by omega
  rw [e1, e2]
  omega
theorem and_n32 (hm : m < 4294967296) (hn : n < 4294967296) : bitsOf .and .u32 (m : Int) (n : Int) = ((m &&& n : Nat) : Int) := by
  show IntKind.u32.wrap (((BitVec.ofInt 32 (m : Int) &&& BitVec.ofInt 32 (n : Int)).toNat : Nat) : Int) = _
  rw [wrap_u32, BitVec.toNat_and]
  simp only [BitVec.toNat_ofInt]
  have h : (m &&& n) < 2 ^ 32 := Nat.lt_of_le_of_lt Nat.and_le_left (by omega)
  have e1 : ((m : Int) % ((2 ^ 32 : Nat) : Int)).toNat = m := by omega
  have e2 : ((n : Int) % ((2 ^ 32 : Nat) : Int)).toNat = n := by omega
  rw [e1, e2]
  omega
theorem and1_32 (hm : m < 4294967296) : bitsOf .and .u32 (m : Int) 1 = ((m % 2 : Nat) : Int) := by
  have := and_n32 (m := m) (n := 1) hm (by decide)
  rw [show ((1 : Nat) : Int) = 1 from rfl] at this
  rw [this, Nat.and_one_is_mod]
end
theorem crc_step {c : Nat} (hc : c < 2 ^ 32) : bitsOf .xor .u32 (Int.fdiv (c : Int) (2 ^ (min (1 : Int).toNat IntKind.u32.bits))) (bitsOf .and .u32 2197175160 (IntKind.u32.wrap (-(bitsOf .and .u32 (c : Int) 1)))) = ((crcS c : Nat) : Int) := by
  have e : min (1 : Int).toNat IntKind.u32.bits = 1 := rfl
  rw [e, and1_32 hc, fdiv_nat]
  unfold crcS poly
  rcases Nat.mod_two_eq_zero_or_one c with h | h
  · rw [h]
    simp only [Nat.zero_ne_one, if_false, Nat.xor_zero]
    have e1 : IntKind.u32.wrap (-((0 : Nat) : Int)) = ((0 : Nat) : Int) := rfl
    have e2 : bitsOf .and .u32 2197175160 ((0 : Nat) : Int) = ((0 : Nat) : Int) := and_n32 (m := 2197175160) (n := 0) (by decide) (by decide)
    rw [e1, e2, xor_n32 (by omega) (by decide), Nat.xor_zero, Nat.pow_one]
  · rw [h]
    simp only [if_true]
    have e1 : IntKind.u32.wrap (-((1 : Nat) : Int)) = ((4294967295 : Nat) : Int) := rfl
    have e2 : bitsOf .and .u32 2197175160 ((4294967295 : Nat) : Int) = ((2197175160 : Nat) : Int) := by
      rw [show (2197175160 : Int) = ((2197175160 : Nat) : Int) from rfl, and_n32 (by decide) (by decide)]
      rfl
    rw [e1, e2, xor_n32 (by omega) (by decide), Nat.pow_one]
theorem not32 {c : Nat} (hc : c < 2 ^ 32) : bitsOf .xor .u32 (if IntKind.u32.signed then -1 else IntKind.u32.max) (c : Int) = ((4294967295 - c : Nat) : Int) := by
  have e : (if IntKind.u32.signed then (-1 : Int) else IntKind.u32.max) = ((4294967295 : Nat) : Int) := rfl
  rw [e, xor_n32 (by decide) (by omega)]
  congr 1
  apply Nat.eq_of_testBit_eq
  intro i
  rw [Nat.testBit_xor]
  have h1 := Nat.testBit_two_pow_sub_succ (n := 32) (x := c) hc i
  have h2 : 2 ^ 32 - (c + 1) = 4294967295 - c := by omega
  rw [h2] at h1
  have h3 := Nat.testBit_two_pow_sub_one 32 i
  have h4 : 2 ^ 32 - 1 = 4294967295 := by decide
  rw [h4] at h3
  rw [h1, h3]
  by_cases hi : i < 32
  · simp [hi]
  · have : c.testBit i = false := Nat.testBit_lt_two_pow (Nat.lt_of_lt_of_le hc (Nat.pow_le_pow_right (by decide) (by omega)))
    simp [hi, this]
end Go.Am
set_option linter.unusedVariables false
set_option linter.unusedSimpArgs false
namespace Go.Ri
open Go Go.Am
@[reducible] def symOf (l : List (IntKind × Int)) : SymE := ⟨fun i => .int (l.getD i (.i64, 0)).1 (l.getD i (.i64, 0)).2, fun i => .inl ⟨_, _, rfl⟩⟩
end Go.Ri
