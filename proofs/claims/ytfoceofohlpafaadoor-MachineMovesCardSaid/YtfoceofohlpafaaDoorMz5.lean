/- machine: functions are added; a run from its beginning to its loop, and its ends. -/
import Derived.Test.YtfoceofohlpafaaDoorMz4
set_option linter.unusedVariables false
set_option linter.unusedSimpArgs false
set_option linter.unusedSectionVars false
namespace Go.Proofs.Tryd
open Go Go.Am Go.RowKit
variable [SymE]
set_option maxHeartbeats 1000000
theorem _root_.Go.Am.At.app {L l : List (Nat × Blk)} {b : Nat} {B : Blk} (h : At l b B) : At (L ++ l) b B := by
  induction L with
  | nil => exact h
  | cons x L ih => exact .there ih
section
variable {aw0 aw : AW} {own : List Nat} {ro l : List (Nat × Blk)} {m lb nf ng : Nat} {h gl sk fr tr ad bu mo : Value} {fuel space most : Int} {E : List PanicEntry → AW → Prop} {cs : List Value}
theorem add_x {Q : Int → AW → Prop} (M : Hp aw0 own ro aw ((m, MB h nil3 gl sk fr tr fuel space most ad bu mo) :: (lb, ⟨cs, 43, 2, true, 0⟩) :: l)) (hcs : cs.length = nf * 2) (h0 : 0 < nf) (hn : nf < 4000) (h1 : cs.all one = true) (hgl : IsSl gl ng)
    (hC : ∀ (b : Nat) (aw' : AW) (l' : List (Nat × Blk)) (Q' : Bool → AW → Prop), Hp aw0 own ro aw' ((b, ⟨cs, 43, 2, true, 0⟩) :: (l' ++ l)) → Q' true aw' → CallP prog 21 [Sl b nf, .int .i64 (ng : Int)] aw' sh21 Q' E)
    (hQ : ∀ fb aw', Hp aw0 own ro aw' ((m, MB h (Sl fb nf) gl sk fr tr fuel space most ad bu mo) :: (fb, ⟨cs, 43, 2, true, 0⟩) :: (lb, ⟨cs, 43, 2, true, 0⟩) :: l) → Q 0 aw') :
    CallP prog 16 [Pt m, .slice (some ⟨lb, 0, none⟩) nf nf] aw sh16 Q E := by
  refine F16_ok _ _ aw ?_
  unfold S16_0
  have hsrc : ∀ (aw' : AW), In aw' lb ⟨cs, 43, 2, true, 0⟩ → Src aw' 2 (.slice (some ⟨lb, 0, none⟩) nf nf) nf cs := fun aw' hi => src_x hi (by show 0 + nf * 2 ≤ cs.length; omega) (by rw [List.drop_zero]; exact List.take_of_length_le (by show cs.length ≤ nf * 2; omega))
  refine nilB_x rfl rfl (cnd_0x rfl ?_)
  refine nck_x (fldA_x (ldV_x (M.im .here) (by repeat constructor) (slen_x (slen_x ?_))))
  have e1 : IntKind.i64.wrap (((0 : Nat) : Int) + ((nf : Nat) : Int)) = (nf : Int) := by rw [show ((0 : Nat) : Int) + (nf : Int) = (nf : Int) by omega, i64_nat (by omega)]
  rw [e1]
  refine cnd_0x (decide_eq_false (by omega)) (nck_x (fldA_x (ldV_x (M.im .here) (by repeat constructor) (nck_x (fldA_x (ldV_x (M.im .here) (by repeat constructor) ?_))))))
  refine hgl.slen ⟨rfl, rfl, alcS_x M fun pb aw1 M1 => again_x (M1.im (.there .here)) (by repeat constructor) ?_⟩
  refine concat2 h0 (by omega) h1 M1 (fun aw' b B M' => hsrc aw' (M'.im (.there (.there (.there .here))))) fun b aw2 M2 => ?_
  refine again_x (M2.im (.there (.there .here))) (by repeat constructor) ?_
  refine hC b aw2 [(pb, ⟨[nil3, .slice (some ⟨lb, 0, none⟩) nf nf], 44, 1, true, 0⟩), (m, MB h nil3 gl sk fr tr fuel space most ad bu mo), (lb, ⟨cs, 43, 2, true, 0⟩)] _ (by simpa using M2) ?_
  refine cnd_0x rfl (nck_x (fldA_x (ldV_x (M2.im (.there (.there .here))) (by repeat constructor) ?_)))
  refine app_nil M2 (hsrc _ (M2.im (.there (.there (.there .here))))) h0 (by omega) fun fb aw3 M3 => ?_
  refine nck_x (fldA_x (st_x M3 (.there (.there (.there .here))) (by repeat constructor) rfl rfl rfl fun aw4 M4 => ?_))
  have M5 := ((M4.drop (.there .here)).drop (.there .here)).front (.there .here)
  exact hQ fb aw4 M5
end
section
variable {aw0 aw : AW} {own : List Nat} {ro l : List (Nat × Blk)} {m hb fb nf fn tb rb b1 b2 b3 k n2 w : Nat} {gl sk fr tr ad bu mo : Value} {fuel0 space0 most0 : Int} {E : List PanicEntry → AW → Prop} {Q : (Int × Int × ByteArray × ByteArray × Value × Int) → AW → Prop} {FU : Blk}
abbrev ZB : Blk := ⟨[.bool false], 4, 0, true, 0⟩
abbrev LL (m b1 b2 b3 rb tb : Nat) (l : List (Nat × Blk)) : List (Nat × Blk) := (b1, SB m) :: (b2, ZB) :: (b3, R0) :: (rb, R0) :: (tb, R0) :: l
abbrev Q35 (Q : (Int × Int × ByteArray × ByteArray × Value × Int) → AW → Prop) (E : List PanicEntry → AW → Prop) (m tb rb n2 : Nat) : (Bool × Int × Int × ByteArray × ByteArray × Value × Int) → AW → Prop := fun r52 aw53 =>
  Am.st aw53 (Pt rb) [.int .i64 r52.2.1, .int .u64 r52.2.2.1, .string r52.2.2.2.1, .string r52.2.2.2.2.1, r52.2.2.2.2.2.1, .int .i64 r52.2.2.2.2.2.2] fun aw54 => S17_2 Q E n2 (Pt m) (Pt tb) (Pt rb) r52.1 aw54
theorem run_x {f mv rm : Int} (M : Hp aw0 own ro aw ((m, MB (Pt hb) (Sl fb nf) gl sk fr tr fuel0 space0 most0 ad bu mo) :: l)) (hF : Here ro l fb FU) (hc : FU.cells[fn * 2]? = some (.int .i64 0)) (hfn : fn < nf) (hf : 0 ≤ f) (hf2 : f ≤ 20000) (hmv : 0 ≤ mv) (hrm : 0 ≤ rm) (n2 : Nat)
    (K : ∀ b1 b2 b3 rb tb aw', MM aw0 own ro ⟨m, hb, Sl fb nf, gl, nil3, .pointer none, nil3, nil3, rm, mv⟩ [WN 0, WN 0] [(fn, 0, 1)] f (LL m b1 b2 b3 rb tb l) aw' → ∃ k, S35_1 (Q35 Q E m tb rb n2) E k (Pt b1) (Pt b2) (Pt b3) aw') :
    CallP prog 17 [Pt m, .int .i64 (fn : Int), .int .i64 f, .int .i64 mv, .int .i64 rm] aw sh17 Q E := by
  refine F17_ok _ _ _ _ _ aw ?_
  unfold S17_0
  refine alc_x M fun tb aw1 M1 => nilB_x rfl rfl (cnd_0x rfl (cnd_0x (decide_eq_false (by omega)) ?_))
  refine nck_x (fldA_x (ldV_x (M1.im (.there .here)) (by repeat constructor) (slen_x (cnd_0x (decide_eq_false (by omega)) ?_))))
  refine nck_x (fldA_x (ldV_x (M1.im (.there .here)) (by repeat constructor) ?_))
  refine ixS_x (by omega) (by omega) (fldA_x (ldI_x (hp_h M1 hF.cons.cons) (Cell.of (by rw [show 0 + ((fn : Nat) : Int).toNat * 2 + 0 = fn * 2 by omega]; exact hc)) ?_))
  refine cnd_0x rfl (cnd_0x (decide_eq_false (by omega)) (cnd_0x (decide_eq_false (by omega)) (cnd_0x (decide_eq_false (by omega)) ?_)))
  rw [decide_eq_false (show ¬ rm < 0 by omega)]
  refine run_begin M1 fun bs bf rb aw2 M2 => ⟨n2 + 1, ?_⟩
  show S17_2s Q E (S17_2 Q E n2) _ _ _ _ aw2
  unfold S17_2s
  refine cnd_1x rfl ?_
  refine F35_ok _ aw2 ?_
  unfold S35_0
  refine ⟨rfl, alc_x M2 fun b1 aw3 M3 => alc_x M3 fun b2 aw4 M4 => alc_x M4 fun b3 aw5 M5 => ?_⟩
  refine K b1 b2 b3 rb tb aw5 ⟨bs, bf, [], [], ?_⟩
  have e : FRB [(fn, 0, 1)] [] = ⟨[.int .i64 (fn : Int), .int .i64 0, .int .i64 1], 85, 3, true, 0⟩ := rfl
  rw [e]
  exact M5.perm (by classical exact List.perm_iff_count.2 fun a => by simp only [List.count_cons]; ac_rfl)
theorem MM.perm {X : MC} {st : List Nat} {fs : List Fr} {fuel : Int} {l' : List (Nat × Blk)} (H : MM aw0 own ro X st fs fuel l aw) (h : l.Perm l') : MM aw0 own ro X st fs fuel l' aw := by
  obtain ⟨bs, bf, sj, fj, M⟩ := H.ex
  exact ⟨bs, bf, sj, fj, M.perm (((h.cons _).cons _).cons _)⟩
end
end Go.Proofs.Tryd
