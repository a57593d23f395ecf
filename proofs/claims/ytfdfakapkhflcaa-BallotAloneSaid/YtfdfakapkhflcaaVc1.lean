/- ballot: a state in memory; what is read of it. -/
import Derived.Test.YtfdfakapkhflcaaVb1
import Derived.Test.YtfdfakapkhflcaaBaS5
import Derived.Test.YtfdfakapkhflcaaL3
import Derived.Test.YtfdfakapkhflcaaBcA
set_option linter.unusedSimpArgs false
set_option linter.unusedVariables false
set_option linter.unusedSectionVars false
namespace Go.Proofs.Try
open Go Go.Am Go.RowKit Go.Oc
variable [SymE]
set_option maxHeartbeats 1000000
structure Sv where
  N : Int
  Self : Int
  Wait : Int
  Term : Int
  Vote : Int
  Base : Int
  BTerm : Int
  dv : Value
  lv : Value
  Commit : Int
  Role : Int
  Lead : Int
  Left : Int
  vv : Value
  nv : Value
  mv : Value
abbrev Sv.C (s : Sv) : List Value := [.int .i64 s.N, .int .i64 s.Self, .int .i64 s.Wait, .int .u64 s.Term, .int .i64 s.Vote, .int .u64 s.Base, .int .u64 s.BTerm, s.dv, s.lv, .int .u64 s.Commit, .int .u8 s.Role, .int .i64 s.Lead, .int .i64 s.Left, s.vv, s.nv, s.mv]
abbrev Sv.T (s : Sv) : Int × Int × Int × Int × Int × Int × Int × Value × Value × Int × Int × Int × Int × Value × Value × Value := (s.N, s.Self, s.Wait, s.Term, s.Vote, s.Base, s.BTerm, s.dv, s.lv, s.Commit, s.Role, s.Lead, s.Left, s.vv, s.nv, s.mv)
abbrev Sv.A (s : Sv) : Value := .agg #[.int .i64 s.N, .int .i64 s.Self, .int .i64 s.Wait, .int .u64 s.Term, .int .i64 s.Vote, .int .u64 s.Base, .int .u64 s.BTerm, s.dv, s.lv, .int .u64 s.Commit, .int .u8 s.Role, .int .i64 s.Lead, .int .i64 s.Left, s.vv, s.nv, s.mv]
abbrev Pt (b : Nat) : Value := .pointer (some ⟨b, 0, none⟩)
abbrev nil3 : Value := .slice none 0 0
structure Sv.one (s : Sv) : Prop where
  d : Go.Am.one s.dv = true
  l : Go.Am.one s.lv = true
  v : Go.Am.one s.vv = true
  n : Go.Am.one s.nv = true
  m : Go.Am.one s.mv = true
theorem Sv.one.all {s : Sv} (h : s.one) : s.C.all Go.Am.one = true := by
  simp only [Sv.C, List.all_cons, List.all_nil, h.d, h.l, h.v, h.n, h.m, Bool.and_true]
  rfl
section
variable {aw0 aw : AW} {own : List Nat} {ro l S : List (Nat × Blk)} {b i : Nat} {B : Blk} {s : Sv} {E : List PanicEntry → AW → Prop}
theorem rd16 {K : Int → Int → Int → Int → Int → Int → Int → Value → Value → Int → Int → Int → Int → Value → Value → Value → Prop} {r : List Value} {t : TypeId} {e : Nat} {w : Bool} {fz : Nat} (hi : In aw b ⟨s.C ++ r, t, e, w, fz⟩) (h : K s.N s.Self s.Wait s.Term s.Vote s.Base s.BTerm s.dv s.lv s.Commit s.Role s.Lead s.Left s.vv s.nv s.mv) :
    ptr (Pt b) fun b i => gI .i64 aw b i fun c0 => gI .i64 aw b (i + 1) fun c1 => gI .i64 aw b (i + 2) fun c2 => gI .u64 aw b (i + 3) fun c3 => gI .i64 aw b (i + 4) fun c4 => gI .u64 aw b (i + 5) fun c5 => gI .u64 aw b (i + 6) fun c6 => gV aw b (i + 7) fun c7 => gV aw b (i + 8) fun c8 => gI .u64 aw b (i + 9) fun c9 => gI .u8 aw b (i + 10) fun c10 => gI .i64 aw b (i + 11) fun c11 => gI .i64 aw b (i + 12) fun c12 => gV aw b (i + 13) fun c13 => gV aw b (i + 14) fun c14 => gV aw b (i + 15) fun c15 => K c0 c1 c2 c3 c4 c5 c6 c7 c8 c9 c10 c11 c12 c13 c14 c15 := by
  refine ptr_x (gI_x hi (by repeat constructor) (gI_x hi (by repeat constructor) (gI_x hi (by repeat constructor) (gI_x hi (by repeat constructor) (gI_x hi (by repeat constructor) (gI_x hi (by repeat constructor) (gI_x hi (by repeat constructor) ?_)))))))
  refine gV_x hi (by repeat constructor) (gV_x hi (by repeat constructor) (gI_x hi (by repeat constructor) (gI_x hi (by repeat constructor) (gI_x hi (by repeat constructor) (gI_x hi (by repeat constructor) (gV_x hi (by repeat constructor) (gV_x hi (by repeat constructor) (gV_x hi (by repeat constructor) h))))))))
theorem last_x {Q : Int → AW → Prop} {es : List En} (hl : ∃ q c, s.lv = .slice q es.length c) (ho : s.one) (hb : 0 ≤ s.Base) (hbe : s.Base + es.length < 2 ^ 64) (M : Hp aw0 own ro aw l) (hQ : ∀ aw', Hp aw0 own ro aw' l → Q (s.Base + es.length) aw') : CallP prog 22 [s.A] aw sh22 Q E := by
  refine F22_ok _ _ _ _ _ _ _ _ _ _ _ _ _ _ _ _ aw ?_
  unfold S22_0
  obtain ⟨q, c, hl⟩ := hl
  refine alc_x M fun p aw1 M1 => ?_
  refine fldA_x (ldI_x (M1.im .here) (by repeat constructor) (fldA_x (ldV_x (M1.im .here) (by repeat constructor) ?_)))
  rw [hl]
  refine slen_x ?_
  have e1 : IntKind.u64.wrap (es.length : Int) = (es.length : Int) := by rw [wrap_u64]; omega
  have e2 : IntKind.u64.wrap (s.Base + (es.length : Int)) = s.Base + es.length := by rw [wrap_u64]; omega
  rw [e1, e2]
  exact hQ aw1 (M1.drop .here)
def tAt (base bterm : Int) (es : List En) (i : Int) : Int × Bool := if i < base ∨ base + es.length < i then (0, false) else if i = base then (bterm, true) else match es[(i - base - 1).toNat]? with
  | some e => ((e.term : Int), true)
  | none => (0, true)
theorem termAt_x {Q : (Int × Bool) → AW → Prop} {es : List En} {i : Int} (hl : EsS aw0 own ro S s.lv es) (ho : s.one) (hb : 0 ≤ s.Base) (hbe : s.Base + es.length < 2 ^ 63) (hi0 : 0 ≤ i) (hi : i < 2 ^ 64) (M : Hp aw0 own ro aw l) (hS : ∀ p ∈ S, p ∈ l) (hQ : ∀ aw', Hp aw0 own ro aw' l → Q (tAt s.Base s.BTerm es i) aw') : CallP prog 27 [s.A, .int .u64 i] aw sh27 Q E := by
  refine F27_ok _ _ _ _ _ _ _ _ _ _ _ _ _ _ _ _ _ aw ?_
  unfold S27_0
  refine alc_x M fun p aw1 M1 => ?_
  refine fldA_x (ldI_x (M1.im .here) (by repeat constructor) ?_)
  by_cases h1 : i < s.Base
  · refine cnd_1x (decide_eq_true h1) ?_
    unfold S27_1
    refine cnd_1x rfl ?_
    have := hQ aw1 (M1.drop .here)
    unfold tAt at this
    rwa [if_pos (.inl h1)] at this
  refine cnd_0x (decide_eq_false h1) ?_
  refine rd16 (r := []) (M1.im .here) ?_
  refine last_x hl.len ho hb (by omega) M1 fun aw2 M2 => ?_
  unfold S27_1
  by_cases h2 : s.Base + es.length < i
  · refine cnd_1x (decide_eq_true h2) ?_
    have := hQ aw2 (M2.drop .here)
    unfold tAt at this
    rwa [if_pos (.inr h2)] at this
  refine cnd_0x (decide_eq_false h2) (fldA_x (ldI_x (M2.im .here) (by repeat constructor) ?_))
  by_cases h3 : i = s.Base
  · refine cnd_1x (decide_eq_true h3) (fldA_x (ldI_x (M2.im .here) (by repeat constructor) ?_))
    have := hQ aw2 (M2.drop .here)
    unfold tAt at this
    rwa [if_neg (by omega), if_pos h3] at this
  refine cnd_0x (decide_eq_false h3) (fldA_x (ldV_x (M2.im .here) (by repeat constructor) (fldA_x (ldI_x (M2.im .here) (by repeat constructor) ?_))))
  have e1 : IntKind.u64.wrap (IntKind.u64.wrap (i - s.Base) - 1) = (((i - s.Base - 1).toNat : Nat) : Int) := by rw [wrap_u64, wrap_u64]; omega
  rw [e1]
  have hlt : (i - s.Base - 1).toNat < es.length := by omega
  have hx : es[(i - s.Base - 1).toNat]? = some es[(i - s.Base - 1).toNat] := List.getElem?_eq_getElem hlt
  refine ix_e hl rfl hx fun b o cv _ _ hg => ?_
  refine fldA_x ?_
  obtain ⟨g1, _⟩ := hg aw2 _ M2 (fun p hp => List.mem_cons_of_mem _ (hS p hp))
  refine ⟨b, o + 0, _, rfl, g1, ?_⟩
  have := hQ aw2 (M2.drop .here)
  unfold tAt at this
  rwa [if_neg (by omega), if_neg h3, hx] at this
def ArS (S : List (Nat × Blk)) (el : TypeId) (v : Value) (xs : List Value) : Prop := ∃ b c, v = .slice (some ⟨b, 0, none⟩) xs.length c ∧ (b, (⟨xs, el, 1, true, 0⟩ : Blk)) ∈ S
theorem ArS.one {el : TypeId} {v : Value} {xs : List Value} (h : ArS S el v xs) : Go.Am.one v = true := by obtain ⟨b, c, rfl, _⟩ := h; rfl
theorem ArS.more {el : TypeId} {v : Value} {xs : List Value} {S' : List (Nat × Blk)} (h : ArS S el v xs) (hs : ∀ p ∈ S, p ∈ S') : ArS S' el v xs := by obtain ⟨b, c, h1, h2⟩ := h; exact ⟨b, c, h1, hs _ h2⟩
theorem ArS.src {el : TypeId} {v : Value} {xs : List Value} (h : ArS S el v xs) (M : Hp aw0 own ro aw l) (hS : ∀ p ∈ S, p ∈ l) : Src aw 1 v xs.length xs := by
  obtain ⟨b, c, rfl, hb⟩ := h
  exact src_x ⟨(M.at_ _ (hS _ hb)).1⟩ (by show 0 + xs.length * 1 ≤ xs.length; omega) (by rw [List.drop_zero, Nat.mul_one]; exact List.take_length)
theorem app_e0 {K : Value → AW → Prop} {eb n el bytes : Nat} {xv : Value} {xs : List Value} (M : Hp aw0 own ro aw ((eb, ⟨[], el, 1, true, 0⟩) :: l)) (hs : Src aw 1 xv n xs) (h0 : 0 < n) (h1 : xs.all Go.Am.one = true) (hb : (2 * n + 768) * bytes ≤ 2 ^ 48)
    (h : ∀ b aw', Hp aw0 own ro aw' ((b, ⟨xs, el, 1, true, 0⟩) :: l) → K (.slice (some ⟨b, 0, none⟩) n UNK) aw') : app aw el 1 bytes (.slice (some ⟨eb, 0, none⟩) 0 0) xv K := by
  have hg : aw.getN eb 0 (0 * 1) = some [] := rfl
  refine ⟨_, _, .grows (os := []) (.slice hg) hs (by decide) (by omega) (by rw [Nat.zero_add]; exact hb), ?_⟩
  have := h _ _ ((M.drop .here).alloc (cs := xs) el 1)
  simpa using this
end
end Go.Proofs.Try
