/- Printed by a program of the prover: what the Go functions of this seat do, in steps. -/
import Derived.Test.YtdamanhpnbefgaaDoorRows
import Derived.Test.YtdamanhpnbefgaaDoorTrydB
import Derived.Test.YtdamanhpnbefgaaDoorTrydS2
import Derived.Test.YtdamanhpnbefgaaDoorAm13
import Derived.Stop.LaidErr
import Derived.WalkKit
import Derived.ProofKit
import Derived.OpenShut
import Derived.ShutString
import Derived.ChangeOld
import Derived.Below
import Derived.LaidMore
import Derived.Stop.Joined
namespace Go.Proofs.YtdamanhpnbefgaaDoor
open Go.ChangeShapes Go.WideShapes Go.ChangeAt Go.RowKit Go.Am
open Go.ChangeMaps (open_string shut_string)
set_option linter.unusedVariables false

theorem own : ownKnob Tryd.prog.godebug = none := by kernel_rfl
theorem laidOut : laidOutB Tryd.prog = true := by kernel_rfl
def laidAll : List (String × DataW Unit) := [("math/bits.deBruijn32tab", Rows.laid_math_bits_deBruijn32tab), ("math/bits.deBruijn64tab", Rows.laid_math_bits_deBruijn64tab), ("internal/strconv.uint64pow10", Rows.laid_internal_strconv_uint64pow10), ("strconv.ErrRange", Rows.laid_strconv_ErrRange), ("strconv.ErrSyntax", Rows.laid_strconv_ErrSyntax), ("battledore/lex.words", Rows.laid_battledore_lex_words), ("battledore/lex.signs", Rows.laid_battledore_lex_signs)]
theorem door_met (os : Os) (args : Array Value) : laidMetH Tryd.prog laidAll ((World.doorLaid Tryd.prog 4000 os).forCall (fun _ _ => 0) ⟨#[], args, []⟩).memory :=
  laidMetH_of_parts3 (fuel := 8) (laidMet_of_run' 8 (by kernel_rfl) (by kernel_rfl)) (by kernel_rfl) (by kernel_rfl)

theorem gsz : Tryd.prog.globals.size = 8 := by kernel_rfl
theorem row75 (u : TypeId) (h : Tryd.prog.typeName? 3 u = some "*errors.errorString") : u = 75 :=
  typeName_ptr_named (nm := "errors.errorString") (by rw [show "*" ++ "errors.errorString" = "*errors.errorString" by decide]; kernel_rfl) (by kernel_rfl) (by decide) u (by rw [show "*" ++ "errors.errorString" = "*errors.errorString" by decide]; exact h)
theorem rel0 {W : World} (hL : laidMetH Tryd.prog laidAll W) (ents : List Ent) :
    ∃ (er : Ent) (aw : AW), Rel 8 W.heap.size W (inj0 8 W (er :: ents)) aw W ∧ aw.ro ∧ Tryd.G0 aw ∧ aw.next = 9 + ents.length ∧ ∀ b, 9 ≤ b → aw.m b = none := by
  have hL' : laidMet Tryd.prog laidAll W := by
    rw [MakeChecks.laidMetH_plain _ _ _ (by kernel_rfl)] at hL; exact hL
  have hLm := hL'
  obtain ⟨ps, hv, _, _⟩ := hL'
  obtain ⟨g, t, cs, fuel, p, h1, h2, h3, h4⟩ := laid_get hv "battledore/lex.signs" Rows.laid_battledore_lex_signs (by simp [laidAll])
  obtain rfl := Option.some.inj ((show Tryd.prog.globalNamed "battledore/lex.signs" = some 0 by kernel_rfl).symm.trans h1)
  obtain rfl := Option.some.inj ((show (Tryd.prog.globals[0]?).map (·.type) = some 50 by kernel_rfl).symm.trans h2)
  have a1 : cs.toList = strV Lx.signs := trod_strs (l := Lx.signs) Tryd.underlying50 Tryd.underlying9 (by kernel_rfl) (by kernel_rfl) h4
  obtain ⟨t1, fz1, b1⟩ := var_heap h1 h3
  clear h1 h2 h3 h4 fuel p
  obtain ⟨g, t, cs', fuel, p, h1, h2, h3, h4⟩ := laid_get hv "battledore/lex.words" Rows.laid_battledore_lex_words (by simp [laidAll])
  obtain rfl := Option.some.inj ((show Tryd.prog.globalNamed "battledore/lex.words" = some 1 by kernel_rfl).symm.trans h1)
  obtain rfl := Option.some.inj ((show (Tryd.prog.globals[1]?).map (·.type) = some 51 by kernel_rfl).symm.trans h2)
  have a2 : cs'.toList = strV Lx.words := trod_strs (l := Lx.words) Tryd.underlying51 Tryd.underlying9 (by kernel_rfl) (by kernel_rfl) h4
  obtain ⟨t2, fz2, b2⟩ := var_heap h1 h3
  clear h1 h2 h3 h4 fuel p
  obtain ⟨a, sa, hva, hca, _, _⟩ := laid_sentinel hLm.tail.tail.tail (show Tryd.prog.globalNamed "strconv.ErrRange" = some 4 by kernel_rfl) (show (Tryd.prog.globals[4]?).map (·.type) = some 47 by kernel_rfl) Tryd.underlying47 row75 Tryd.underlying75 Tryd.underlying77 rfl rfl Tryd.underlying9 (by kernel_rfl) (by kernel_rfl)
  obtain ⟨t4, fz4, b4⟩ := var_heap (show Tryd.prog.globalNamed "strconv.ErrRange" = some 4 by kernel_rfl) hva
  have hspot : a.spot = none := by
    unfold World.cell? at hca
    split at hca
    · split at hca
      · simp at hca
      · rename_i h; simpa using h
    · simp at hca
  have c0 : csz W 0 = cs.size := by simp [csz, b1]
  have c1 : csz W 1 = cs'.size := by simp [csz, b2]
  have c4 : csz W 4 = 1 := by simp [csz, b4]
  have s1 : cs.size = (strV Lx.signs).length := by rw [← a1]; simp
  have s2 : cs'.size = (strV Lx.words).length := by rw [← a2]; simp
  have r0 := rel_start 8 W (⟨a.block, a.off, 0, 0⟩ :: ents)
  have ro0 : (⟨fun _ => none, 8 + (⟨a.block, a.off, 0, 0⟩ :: ents).length⟩ : AW).ro := fun c C h => by simp at h
  have r1 := r0.lay ro0 (b := 0) (e := ⟨0, 0, csz W 0, 0⟩) (by simp [inj0]) (cells := strV Lx.signs) (esz := 0) b1 c0.symm (by simp only; omega) rfl (fun _ => ⟨rfl, by simp only; omega⟩) (fun i v hi => ⟨v, by rw [← a1] at hi; simpa using hi, .ofPlain (strV_plain hi)⟩)
  have ro1 := ro0.lay_ro' (b := 0) (B := ⟨strV Lx.signs, t1, 0, false, 0⟩) rfl
  have r2 := r1.lay ro1 (b := 1) (e := ⟨1, 0, csz W 1, 0⟩) (by simp [inj0]) (cells := strV Lx.words) (esz := 0) b2 c1.symm (by simp only; omega) rfl (fun _ => ⟨rfl, by simp only; omega⟩) (fun i v hi => ⟨v, by rw [← a2] at hi; simpa using hi, .ofPlain (strV_plain hi)⟩)
  have ro2 := ro1.lay_ro' (b := 1) (B := ⟨strV Lx.words, t2, 0, false, 0⟩) rfl
  have r3 := r2.lay ro2 (b := 4) (e := ⟨4, 0, csz W 4, 0⟩) (by simp [inj0]) (cells := [.iface 75 (.pointer (some ⟨8, 0, none⟩))]) (esz := 0) b4 (by simp [c4]) (by simp [c4]) rfl (fun _ => ⟨rfl, by simp [c4]⟩) (fun i v hi => by
    cases i with
    | zero =>
      simp at hi; subst hi
      refine ⟨_, rfl, .iface _ ?_⟩
      have := VR.ptr (s := inj0 8 W (⟨a.block, a.off, 0, 0⟩ :: ents)) (b := 8) (o := 0) (e := ⟨a.block, a.off, 0, 0⟩) (by simp [inj0])
      have ha : a = ⟨a.block, a.off + 0, none⟩ := by cases a; simp_all
      rw [ha]; exact this
    | succ i => simp at hi)
  have ro3 := ro2.lay_ro' (b := 4) (B := ⟨[.iface 75 (.pointer (some ⟨8, 0, none⟩))], t4, 0, false, 0⟩) rfl
  refine ⟨_, _, r3, ro3, ⟨by simp [AW.lay]; omega, ⟨t1, by simp [AW.lay]⟩, ⟨t2, by simp [AW.lay]⟩, t4, 75, ⟨8, 0, none⟩, by simp [AW.lay]⟩, by simp [AW.lay]; omega, fun b hb => ?_⟩
  simp [AW.lay, show b ≠ 4 by omega, show b ≠ 1 by omega, show b ≠ 0 by omega]

/-- what a law's call finds: the program's variables, and one slice of bytes (or none) -/
theorem relB {W : World} (hL : laidMetH Tryd.prog laidAll W) {a : Option Addr} {len cap : Nat} {zs : List Int} (hi : IsRow .u8 W a len cap zs) :
    ∃ s aw v l, Rel Tryd.prog.globals.size W.heap.size W s aw W ∧ Tryd.G0 aw ∧ 9 ≤ aw.next ∧ BytesIn aw v l ∧ VR s v (.slice a len cap) := by
  rw [gsz]
  obtain ⟨er, aw, hr, hro, hg, hn, _⟩ := rel0 hL [entOf W a]
  obtain ⟨aw', v, l, h1, h2, h3, h4, h5⟩ := relBytes (b := 9) hr hro hi (by simp [inj0]) (by rw [hn]; simp)
  refine ⟨_, aw', v, l, h1, ?_, by rw [h3, hn]; simp, h4, h5⟩
  unfold Tryd.G0 at hg ⊢
  rw [h3, h2 0 (by omega), h2 1 (by omega), h2 4 (by omega)]
  exact hg
theorem walkB {f : FuncId} {sh : Bool → Value} (hsh : ∀ b, sh b = .bool b) (H : ∀ aw v l, Tryd.G0 aw → 9 ≤ aw.next → BytesIn aw v l → CallP Tryd.prog f [v] aw sh (fun r _ => r = true) (fun _ _ => False))
    {w : World} (hL : laidMetH Tryd.prog laidAll w) {a : Option Addr} {len cap : Nat} {zs : List Int} (hi : IsRow .u8 w a len cap zs) :
    Calls Tryd.prog f #[.slice a len cap] w fun e w' => e = .returned (.bool true) ∧ Below w.heap.size w w' := by
  obtain ⟨s, aw, v, l, h1, h2, h3, h4, h5⟩ := relB hL hi
  exact calls_true hsh (H aw v l h2 h3 h4) h1 (.cons h5 .nil)
end Go.Proofs.YtdamanhpnbefgaaDoor
