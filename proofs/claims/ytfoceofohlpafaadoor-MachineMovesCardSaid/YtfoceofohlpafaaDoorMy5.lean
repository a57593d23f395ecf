/- MachineMoves: the law. -/
import Derived.Test.YtfoceofohlpafaaDoorMy4
import Derived.Test.YtfoceofohlpafaaDoorMy3a
import Derived.Test.YtfoceofohlpafaaDoorMy3b
import Derived.Test.YtfoceofohlpafaaDoorMy3c
import Derived.Test.YtfoceofohlpafaaDoorMy3d
import Derived.Test.YtfoceofohlpafaaDoorMK3
import Derived.Test.YtfoceofohlpafaaDoorMv1
set_option linter.unusedVariables false
set_option linter.unusedSimpArgs false
set_option linter.unusedSectionVars false
set_option maxRecDepth 100000
namespace Go.Proofs.YtfoceofohlpafaaDoor
open Go Go.Am Go.RowKit Go.Ri Go.Proofs.Tryd
theorem chkAll (t1 t2 : TypeId) : ∀ n, n ≤ 14 → chkRun t1 t2 n = true
  | 0, _ => chkM0 t1 t2
  | 1, _ => chkM1 t1 t2
  | 2, _ => chkM2 t1 t2
  | 3, _ => chkM3 t1 t2
  | 4, _ => chkM4 t1 t2
  | 5, _ => chkM5 t1 t2
  | 6, _ => chkM6 t1 t2
  | 7, _ => chkM7 t1 t2
  | 8, _ => chkM8 t1 t2
  | 9, _ => chkM9 t1 t2
  | 10, _ => chkM10 t1 t2
  | 11, _ => chkM11 t1 t2
  | 12, _ => chkM12 t1 t2
  | 13, _ => chkM13 t1 t2
  | 14, _ => chkM14 t1 t2
  | n + 15, h => absurd h (by omega)
variable [SymE]
theorem mcS_ok : ∀ n, (mcS n).all (okX 8) = true
  | 0 => rfl
  | n + 1 => by rw [mcS, List.all_append, mcS_ok n]; rfl
theorem FM_ok (h : ∀ t, SymE.E (1 + 2 * t) = .int .i64 2 ∨ SymE.E (1 + 2 * t) = .int .i64 7) : FM.ok := by
  refine ⟨fun e he => ?_, (fun e he => by cases he), (fun e he => by cases he), (fun e he => by cases he)⟩
  simp only [FM, List.mem_flatMap, List.mem_cons, List.not_mem_nil, or_false] at he
  obtain ⟨t, _, rfl | rfl⟩ := he
  · show bin0 .geq (SymE.E (1 + 2 * t)) (.int .i64 0) = some (.bool true)
    rcases h t with h | h <;> rw [h] <;> kernel_rfl
  · show bin0 .lss (SymE.E (1 + 2 * t)) (.int .i64 8) = some (.bool true)
    rcases h t with h | h <;> rw [h] <;> kernel_rfl
theorem mcS_map {s : List UInt8} {ls : List (Bool × Int)} {ren : Nat → Nat} (h0 : SymE.E 0 = .string (mkB s)) (h1 : ∀ t x, ls[t]? = some x → SymE.E (1 + 2 * t) = .int .i64 ((gN x.1 : Nat) : Int) ∧ SymE.E (2 + 2 * t) = .int .i64 x.2) : ∀ t, t ≤ ls.length → (mcS t).map (rnX ren) = mcV (mkB s) (ls.take t)
  | 0, _ => rfl
  | t + 1, ht => by
    have hx : ls[t]? = some ls[t] := List.getElem?_eq_getElem (by omega)
    obtain ⟨a, b⟩ := h1 t _ hx
    have e : ls.take (t + 1) = ls.take t ++ [ls[t]] := by rw [List.take_add_one, hx]; rfl
    rw [mcS, List.map_append, mcS_map h0 h1 t (by omega), e, mcV_app]
    congr 1
    show stepC (SymE.E 0) (SymE.E (1 + 2 * t)) (SymE.E (2 + 2 * t)) = _
    rw [h0, a, b]
    rfl
section
variable {aw0 aw : AW} {own : List Nat} {ro l : List (Nat × Blk)} {t1 t2 : TypeId} {cb nc : Nat} {E : List PanicEntry → AW → Prop} {s : List UInt8} {ls : List (Bool × Int)}
theorem chkMv (h0 : SymE.E 0 = .string (mkB s)) (h1 : ∀ t x, ls[t]? = some x → SymE.E (1 + 2 * t) = .int .i64 ((gN x.1 : Nat) : Int) ∧ SymE.E (2 + 2 * t) = .int .i64 x.2) (h2 : ∀ t, SymE.E (1 + 2 * t) = .int .i64 2 ∨ SymE.E (1 + 2 * t) = .int .i64 7)
    (hn : ls.length ≤ 14) (hnc : nc = 8 * ls.length + 2) {b : Nat} {Q' : Bool → AW → Prop} (M' : Hp aw0 own (ro0 t1 t2) aw ((b, funB cb nc UNK) :: l)) (hcb : At l cb (CBM s ls)) (h : Q' true aw) : CallP Tryd.prog 21 [Sl b 1, .int .i64 ((8 : Nat) : Int)] aw Tryd.sh21 Q' E := by
  letI : FT := ftOf FM
  haveI : FTok := ftOk (FM_ok h2)
  obtain ⟨M1, hM⟩ := retW_some (chkAll t1 t2 ls.length hn)
  refine run_renX (ren := fun n => if n = 6 then b else if n = 7 then cb else n) hX0 hmix hM (by rw [gsz]; decide) (by rw [gsz]; exact fun g hg => by rw [if_neg (by omega), if_neg (by omega)]) (fun p hp => ?_) ?_ rfl rfl (r := true) rfl h
  · rcases List.mem_append.1 hp with hp | hp
    · exact gr_as (by decide) rfl rfl M' p hp
    · simp only [List.mem_cons, List.not_mem_nil, or_false] at hp
      rcases hp with rfl | rfl
      · refine ⟨by show 6 < 8; decide, rfl, [], true, 0, ?_, fun h => by cases h⟩
        have := M'.m .here
        rw [hnc] at this
        exact this
      · refine ⟨by show 7 < 8; decide, ?_, [], true, 0, ?_, fun h => by cases h⟩
        · show (mcS ls.length ++ lastC).all (okX 8) = true
          rw [List.all_append, mcS_ok]; rfl
        · have := M'.m (.there hcb)
          show aw.m cb = some ⟨(mcS ls.length ++ lastC).map _ ++ [], 34, 4, true, 0⟩
          rw [List.map_append, mcS_map h0 h1 _ (Nat.le_refl _), List.take_length, List.append_nil]
          exact this
  · rfl
theorem movesRun {Q : (Int × Int × ByteArray × ByteArray × Value × Int × Value) → AW → Prop} (hro : ∀ p ∈ ro0 t1 t2, p ∈ ro) (h0 : SymE.E 0 = .string (mkB s)) (h1 : ∀ t x, ls[t]? = some x → SymE.E (1 + 2 * t) = .int .i64 ((gN x.1 : Nat) : Int) ∧ SymE.E (2 + 2 * t) = .int .i64 x.2) (h2 : ∀ t, SymE.E (1 + 2 * t) = .int .i64 2 ∨ SymE.E (1 + 2 * t) = .int .i64 7)
    (hs : s.length ≤ 200) (hn : ls.length ≤ 14) (hnc : nc = 8 * ls.length + 2) (M : Hp aw0 own ro aw ((cb, CBM s ls) :: l))
    (hQ : ∀ e w rs mo fu m aw' Lm l', ((ls.length ≤ 10 ∧ e = 0 ∧ fu = 100 - 2 * (ls.length : Int)) ∨ (10 < ls.length ∧ e = 9 ∧ rs = (⟨#[109, 111, 118, 101, 115]⟩ : ByteArray))) → MovB mo (mvs (ls.take (min ls.length 10))) Lm → Hp aw0 own ro aw' (Lm ++ l') → Q (e, w, rs, mkB ((rep s (min ls.length 11)).take 50), mo, fu, Pt m) aw') :
    CallP Tryd.prog 13 [.slice (some ⟨cb, 0, none⟩) nc UNK, .int .i64 100] aw Tryd.sh13 Q E := by
  refine run13_x M (by decide) (by decide) (0 + 1) (fun b aw' l' Q' M' h => ?_) fun m hb mb gb fb p b1 b2 b3 rb tb aw5 H => ⟨8 * ls.length + 2 + 1, ?_⟩
  · exact chkMv h0 h1 h2 hn hnc (M'.less hro) (At.app .here) h
  · refine goM (l := l) hs hn hnc ?_ ?_ ls [] (.pointer none) nil3 nil3 [] [] [] mb aw5 rfl (by decide) (.inl rfl) ⟨.nil, fun _ => ⟨rfl, rfl⟩⟩ .nil (by decide) (by rw [List.append_nil]; exact H)
    · intro h10 mo Lm B ws mb aw' hM M
      have := hQ 0 ((WN 0 : Nat) : Int) ⟨#[]⟩ mo (100 - 2 * (ls.length : Int)) m aw' Lm ((m, B) :: HL hb mb ws 4000 ((cb, CBM s ls) :: l)) (.inl ⟨h10, rfl, rfl⟩) (by rw [Nat.min_eq_left h10, List.take_length]; exact hM) (M.perm (by
        classical exact List.perm_iff_count.2 fun a => by simp only [List.count_cons, List.count_append, HL]; omega))
      rw [Nat.min_eq_left (show ls.length ≤ 11 by omega)] at this
      exact this
    · intro h10 fu mo Lm B ws mb aw' hM M
      have := hQ 9 0 ⟨#[109, 111, 118, 101, 115]⟩ mo fu m aw' Lm ((m, B) :: HL hb mb ws 4000 ((cb, CBM s ls) :: l)) (.inr ⟨h10, rfl, rfl⟩) (by rw [Nat.min_eq_right (by omega)]; exact hM) (M.perm (by
        classical exact List.perm_iff_count.2 fun a => by simp only [List.count_cons, List.count_append, HL]; omega))
      rw [Nat.min_eq_right (show 11 ≤ ls.length by omega)] at this
      exact this
end
end Go.Proofs.YtfoceofohlpafaaDoor
