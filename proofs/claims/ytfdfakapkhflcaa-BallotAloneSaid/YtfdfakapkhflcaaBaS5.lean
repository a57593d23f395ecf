/- Messages of bytes: entries in memory; ballot.Decode. -/
import Derived.Test.YtfdfakapkhflcaaBaS3
set_option linter.unusedSimpArgs false
set_option linter.unusedVariables false
set_option linter.unusedSectionVars false
namespace Go.Oc
structure En where
  term : Nat
  session : Nat
  number : Nat
  cell : List UInt8
structure Ms where
  kind : Nat
  frm : Int
  to : Int
  term : Nat
  index : Nat
  lterm : Nat
  commit : Nat
  ok : Bool
  es : List En
  data : List UInt8
def Ms.zero : Ms := ⟨0, 0, 0, 0, 0, 0, 0, false, [], []⟩
def s1 (p : List UInt8) : St := (rUp 255 (some p)).2
def s2 (p : List UInt8) : St := (rI (s1 p)).2
def s3 (p : List UInt8) : St := (rI (s2 p)).2
def s4 (p : List UInt8) : St := (rU (s3 p)).2
def s5 (p : List UInt8) : St := (rU (s4 p)).2
def s6 (p : List UInt8) : St := (rU (s5 p)).2
end Go.Oc
namespace Go.Am
open Go Go.RowKit Go.Oc
variable [SymE]
inductive EnR (rd : Value → List UInt8 → Prop) : List En → List Value → Prop
  | nil : EnR rd [] []
  | cons {e : En} {es : List En} {cv : Value} {vs : List Value} (hc : rd cv e.cell) (ho : one cv = true) (h : EnR rd es vs) : EnR rd (e :: es) ([.int .u64 e.term, .int .u64 e.session, .int .u64 e.number, cv] ++ vs)
theorem EnR.mono {rd rd' : Value → List UInt8 → Prop} (hr : ∀ v bs, rd v bs → rd' v bs) {es : List En} {vs : List Value} (h : EnR rd es vs) : EnR rd' es vs := by
  induction h with
  | nil => exact .nil
  | cons hc ho _ ih => exact .cons (hr _ _ hc) ho ih
theorem EnR.len {rd : Value → List UInt8 → Prop} {es : List En} {vs : List Value} (h : EnR rd es vs) : vs.length = 4 * es.length := by
  induction h with
  | nil => rfl
  | cons _ _ _ ih => simp [ih]; omega
theorem EnR.append {rd : Value → List UInt8 → Prop} {es es' : List En} {vs vs' : List Value} (h : EnR rd es vs) (h' : EnR rd es' vs') : EnR rd (es ++ es') (vs ++ vs') := by
  induction h with
  | nil => exact h'
  | cons hc ho _ ih => rw [List.append_assoc]; exact .cons hc ho ih
theorem EnR.get {rd : Value → List UInt8 → Prop} {es : List En} {vs : List Value} (h : EnR rd es vs) {i : Nat} {e : En} (hi : es[i]? = some e) : ∃ cv, rd cv e.cell ∧ one cv = true ∧ vs[4 * i]? = some (.int .u64 e.term) ∧ vs[4 * i + 1]? = some (.int .u64 e.session) ∧ vs[4 * i + 2]? = some (.int .u64 e.number) ∧ vs[4 * i + 3]? = some cv := by
  induction h generalizing i with
  | nil => cases hi
  | cons hc ho _ ih =>
    rename_i e0 es0 cv0 vs0 _
    cases i with
    | zero =>
      simp only [List.getElem?_cons_zero, Option.some.injEq] at hi
      subst hi
      exact ⟨cv0, hc, ho, rfl, rfl, rfl, rfl⟩
    | succ i =>
      obtain ⟨cv, k1, k2, k3, k4, k5, k6⟩ := ih (by simpa using hi)
      refine ⟨cv, k1, k2, ?_, ?_, ?_, ?_⟩
      · rw [show 4 * (i + 1) = 4 * i + 4 by omega]; exact k3
      · rw [show 4 * (i + 1) + 1 = 4 * i + 1 + 4 by omega]; exact k4
      · rw [show 4 * (i + 1) + 2 = 4 * i + 2 + 4 by omega]; exact k5
      · rw [show 4 * (i + 1) + 3 = 4 * i + 3 + 4 by omega]; exact k6
section
variable {aw0 aw : AW} {own : List Nat} {ro l L S Sc S' : List (Nat × Blk)} {v ev : Value} {es : List En} {el : Nat}
inductive EsS (aw0 : AW) (own : List Nat) (ro S : List (Nat × Blk)) : Value → List En → Prop
  | nil : EsS aw0 own ro S (.slice none 0 0) []
  | emp {b off c : Nat} : EsS aw0 own ro S (.slice (some ⟨b, off, none⟩) 0 c) []
  | at {b off c : Nat} {es : List En} {vs : List Value} (hb : ∀ (aw : AW) (L : List (Nat × Blk)), Hp aw0 own ro aw L → (∀ p ∈ S, p ∈ L) → ∃ B, aw.m b = some B ∧ ∀ i v, vs[i]? = some v → B.cells[off + i]? = some v) (hs : EnR (Rws aw0 own ro S) es vs) :
      EsS aw0 own ro S (.slice (some ⟨b, off, none⟩) es.length c) es
theorem EsS.more (h : EsS aw0 own ro S v es) (hs : ∀ p ∈ S, p ∈ S') : EsS aw0 own ro S' v es := by
  cases h with
  | nil => exact .nil
  | emp => exact .emp
  | «at» hb hr => exact .at (fun aw L M hl => hb aw L M fun p hp => hl p (hs p hp)) (hr.mono fun v bs h => h.more hs)
theorem EsS.len (h : EsS aw0 own ro S v es) : ∃ q c, v = .slice q es.length c := by
  cases h <;> exact ⟨_, _, rfl⟩
theorem EsS.get (h : EsS aw0 own ro S v es) {i : Nat} {e : En} (hi : es[i]? = some e) : ∃ b off c cv, v = .slice (some ⟨b, off, none⟩) es.length c ∧ Rws aw0 own ro S cv e.cell ∧ one cv = true ∧ ∀ (aw : AW) (L : List (Nat × Blk)), Hp aw0 own ro aw L → (∀ p ∈ S, p ∈ L) →
    aw.get b (off + i * 4) = some (.int .u64 e.term) ∧ aw.get b (off + i * 4 + 1) = some (.int .u64 e.session) ∧ aw.get b (off + i * 4 + 2) = some (.int .u64 e.number) ∧ aw.get b (off + i * 4 + 3) = some cv := by
  cases h with
  | nil => cases hi
  | emp => cases hi
  | «at» hb hs =>
    rename_i b off c vs
    obtain ⟨cv, k1, k2, k3, k4, k5, k6⟩ := hs.get hi
    refine ⟨b, off, c, cv, rfl, k1, k2, fun aw L M hS => ?_⟩
    obtain ⟨B, hB, hc⟩ := hb aw L M hS
    refine ⟨?_, ?_, ?_, ?_⟩
    · exact get_m hB (by rw [show off + i * 4 = off + 4 * i by omega]; exact hc _ _ k3)
    · exact get_m hB (by rw [show off + i * 4 + 1 = off + (4 * i + 1) by omega]; exact hc _ _ k4)
    · exact get_m hB (by rw [show off + i * 4 + 2 = off + (4 * i + 2) by omega]; exact hc _ _ k5)
    · exact get_m hB (by rw [show off + i * 4 + 3 = off + (4 * i + 3) by omega]; exact hc _ _ k6)
structure EO (aw0 : AW) (own : List Nat) (ro Sc : List (Nat × Blk)) (el : Nat) (ev : Value) (es : List En) (L : List (Nat × Blk)) : Prop where
  ex : ∃ vs, SlP el 4 ev es.length vs L ∧ EnR (Rws aw0 own ro Sc) es vs
theorem EO.nil : EO aw0 own ro Sc el (.slice none 0 0) [] [] := ⟨⟨[], .nil, .nil⟩⟩
theorem EO.more (h : EO aw0 own ro Sc el ev es L) (hs : ∀ p ∈ Sc, p ∈ S') : EO aw0 own ro S' el ev es L := by
  obtain ⟨vs, h1, h2⟩ := h.ex
  exact ⟨vs, h1, h2.mono fun v bs hv => hv.more hs⟩
theorem EO.one' (h : EO aw0 own ro Sc el ev es L) : one ev = true := by
  obtain ⟨vs, h1, h2⟩ := h.ex
  generalize es.length = n at h1
  cases h1 <;> rfl
theorem EO.toS (h : EO aw0 own ro Sc el ev es L) (hL : ∀ p ∈ L, p ∈ S) (hSc : ∀ p ∈ Sc, p ∈ S) : EsS aw0 own ro S ev es := by
  obtain ⟨vs, h1, h2⟩ := h.ex
  generalize hn : es.length = n at h1
  cases h1 with
  | nil =>
    have : es = [] := List.eq_nil_of_length_eq_zero hn
    subst this; exact .nil
  | some hl =>
    rename_i b
    subst hn
    exact .at (fun aw L' M hS => ⟨_, (M.at_ _ (hS _ (hL _ (List.mem_singleton.2 rfl)))).1, fun i v hi => by simpa using hi⟩) (h2.mono fun v bs hv => hv.more hSc)
theorem EO.push {K : Value → AW → Prop} {e : En} {cv xv : Value} (h : EO aw0 own ro Sc el ev es L) (M : Hp aw0 own ro aw (L ++ l)) (hlen : es.length < 2 ^ 40) (hx : Src aw 4 xv 1 [.int .u64 e.term, .int .u64 e.session, .int .u64 e.number, cv]) (hc : Rws aw0 own ro Sc cv e.cell) (ho : one cv = true)
    (hK : ∀ v' L' aw', EO aw0 own ro Sc el v' (es ++ [e]) L' → Hp aw0 own ro aw' (L' ++ l) → K v' aw') : app aw el 4 48 ev xv K := by
  obtain ⟨vs, h1, h2⟩ := h.ex
  refine app_p h1 M hx (by decide) (by show (true && (true && (true && (one cv && true)))) = true; rw [ho]; rfl) (by omega) fun b aw' M' => ?_
  have hl := h2.len
  have e1 : vs.take (es.length * 4) = vs := List.take_of_length_le (by omega)
  rw [e1] at M'
  refine hK _ [(b, _)] aw' ⟨⟨vs ++ [.int .u64 e.term, .int .u64 e.session, .int .u64 e.number, cv], ?_, h2.append (.cons hc ho .nil)⟩⟩ M'
  have := SlP.some (el := el) (size := 4) (b := b) (n := es.length + 1) (os := vs ++ [.int .u64 e.term, .int .u64 e.session, .int .u64 e.number, cv]) (by simp; omega)
  simpa using this
theorem ix_e {X : Value → Prop} {j : Int} {i : Nat} {e : En} (h : EsS aw0 own ro S v es) (hj : j = (i : Int)) (hi : es[i]? = some e)
    (hX : ∀ b o cv, Rws aw0 own ro S cv e.cell → one cv = true → (∀ (aw : AW) (L : List (Nat × Blk)), Hp aw0 own ro aw L → (∀ p ∈ S, p ∈ L) → aw.get b o = some (.int .u64 e.term) ∧ aw.get b (o + 1) = some (.int .u64 e.session) ∧ aw.get b (o + 2) = some (.int .u64 e.number) ∧ aw.get b (o + 3) = some cv) →
      X (.pointer (some ⟨b, o, none⟩))) : ixS v j 4 X := by
  subst hj
  obtain ⟨b, off, c, cv, rfl, k1, k2, k3⟩ := h.get hi
  have hlt := (List.getElem?_eq_some_iff.1 hi).1
  exact ⟨b, off, es.length, c, _, rfl, by omega, by omega, rfl, hX b (off + ((i : Int).toNat) * 4) cv k1 k2 (by simpa using k3)⟩
end
end Go.Am
namespace Go.Proofs.Try
open Go Go.Am Go.RowKit Go.Oc
variable [SymE]
section
variable {aw0 aw : AW} {own : List Nat} {ro l L S Sc : List (Nat × Blk)} {E : List PanicEntry → AW → Prop} {v pv ev dv : Value} {rb mb tb : Nat} {bad : Bool} {sx : Oc.St} {Q : (Int × Int × Int × Int × Int × Int × Int × Bool × Value × Value × Int) → AW → Prop}
end
end Go.Proofs.Try
