/- The law's own 'run': a machine is made, a function added, and run. -/
import Derived.Test.YtfoceofohlpafaaDoorMt4
import Derived.Test.YtfoceofohlpafaaDoorMRun
import Derived.Test.YtfoceofohlpafaaDoorMaE
set_option linter.unusedVariables false
set_option linter.unusedSimpArgs false
set_option linter.unusedSectionVars false
namespace Go.Proofs.Tryd
open Go Go.Am Go.RowKit
variable [SymE]
set_option maxHeartbeats 1000000
abbrev MX (m hb fb gb : Nat) : MC := ⟨m, hb, Sl fb 1, Sl gb 8, nil3, .pointer none, nil3, nil3, 50, 10⟩
abbrev funB (cb nc cc : Nat) : Blk := ⟨[.int .i64 0, .slice (some ⟨cb, 0, none⟩) nc cc], 43, 2, true, 0⟩
abbrev RL (fb gb p cb nc cc : Nat) (CB : Blk) (l : List (Nat × Blk)) : List (Nat × Blk) := (fb, funB cb nc cc) :: (gb, WB (gw 8) []) :: (p, R0) :: (cb, CB) :: l
def QR (Q : (Int × Int × ByteArray × ByteArray × Value × Int × Value) → AW → Prop) (m p : Nat) : (Int × Int × ByteArray × ByteArray × Value × Int) → AW → Prop := fun r61 aw62 =>
  Am.st aw62 (Pt p) [.int .i64 r61.1, .int .u64 r61.2.1, .string r61.2.2.1, .string r61.2.2.2.1, r61.2.2.2.2.1, .int .i64 r61.2.2.2.2.2] fun aw63 =>
  ptr (Pt p) fun b70 i71 => gI .i64 aw63 b70 i71 fun c73 => gI .u64 aw63 b70 (i71 + 1) fun c74 => gS aw63 b70 (i71 + 2) fun c75 => gS aw63 b70 (i71 + 3) fun c76 => gV aw63 b70 (i71 + 4) fun c77 => gI .i64 aw63 b70 (i71 + 5) fun c78 => Q (c73, c74, c75, c76, c77, c78, Pt m) aw63
section
variable {aw0 aw : AW} {own : List Nat} {ro l : List (Nat × Blk)} {m p cb nc cc : Nat} {E : List PanicEntry → AW → Prop} {Q : (Int × Int × ByteArray × ByteArray × Value × Int × Value) → AW → Prop} {CB B : Blk}
theorem ret13 {e w fu : Int} {rs out : ByteArray} {mv : Value} (hmv : one mv = true) (M : Hp aw0 own ro aw ((m, B) :: (p, R0) :: l)) (hQ : ∀ aw', Hp aw0 own ro aw' ((m, B) :: l) → Q (e, w, rs, out, mv, fu, Pt m) aw') : QR Q m p (e, w, rs, out, mv, fu) aw := by
  unfold QR
  refine st_x M (.there .here) (by repeat constructor) rfl rfl (by simp only [List.all_cons, List.all_nil, hmv, Bool.and_true]; rfl) fun aw1 M1 => ?_
  refine ptr_x (gI_x (M1.im (.there .here)) (by repeat constructor) (gI_x (M1.im (.there .here)) (by repeat constructor) (gS_x (M1.im (.there .here)) (by repeat constructor) (gS_x (M1.im (.there .here)) (by repeat constructor) (gV_x (M1.im (.there .here)) (by repeat constructor) (gI_x (M1.im (.there .here)) (by repeat constructor) ?_))))))
  exact hQ aw1 (M1.drop (.there .here))
theorem hw8_len : (hw 8).length = 16 := rfl
theorem run13_x {f : Int} (M : Hp aw0 own ro aw ((cb, CB) :: l)) (hf : 0 ≤ f) (hf2 : f ≤ 20000) (n2 : Nat)
    (hC : ∀ (b : Nat) (aw' : AW) (l' : List (Nat × Blk)) (Q' : Bool → AW → Prop), Hp aw0 own ro aw' ((b, funB cb nc cc) :: (l' ++ ((cb, CB) :: l))) → Q' true aw' → CallP prog 21 [Sl b 1, .int .i64 ((8 : Nat) : Int)] aw' sh21 Q' E)
    (K : ∀ m hb mb gb fb p b1 b2 b3 rb tb aw', MM aw0 own ro (MX m hb fb gb) [WN 0, WN 0] [(0, 0, 1)] f (HL hb mb (hw 8) 4000 (LL m b1 b2 b3 rb tb (RL fb gb p cb nc cc CB l))) aw' → ∃ k, S35_1 (Q35 (QR Q m p) E m tb rb n2) E k (Pt b1) (Pt b2) (Pt b3) aw') :
    CallP prog 13 [.slice (some ⟨cb, 0, none⟩) nc cc, .int .i64 f] aw sh13 Q E := by
  refine F13_ok _ _ aw ?_
  unfold S13_0
  refine alc_x M fun p aw1 M1 => ?_
  refine newM_x (qu := 4000) (pr := 8) (by decide) (by decide) (by decide) M1 fun m hb v gl Lm Lg aw2 hv hg M2 => ?_
  obtain ⟨mb, rfl, rfl⟩ : ∃ mb, v = Sl mb 16 ∧ Lm = [(mb, WB (hw 8) [])] := by
    cases hv with
    | some h => exact ⟨_, rfl, by simp [WB]⟩
  obtain ⟨gb, rfl, rfl⟩ : ∃ gb, gl = Sl gb 8 ∧ Lg = [(gb, WB (gw 8) [])] := by
    generalize hn : 8 = n at hg
    generalize hw : (gw n).map W = q at hg
    cases hg with
    | nil => cases hn
    | some h => subst hn; subst hw; exact ⟨_, rfl, by simp [WB]⟩
  refine cnd_0x rfl ⟨rfl, alcS_x M2 fun lb aw3 M3 => ?_⟩
  have M3 : Hp aw0 own ro aw3 ((lb, funB cb nc cc) :: (m, MB (Pt hb) nil3 (Sl gb 8) nil3 nil3 nil3 0 0 0 (.pointer none) nil3 nil3) :: (hb, HB (Sl mb 16) ((4000 : Nat) : Int) 0) :: ([(mb, WB (hw 8) [])] ++ ([(gb, WB (gw 8) [])] ++ ((p, R0) :: (cb, CB) :: l)))) := M3
  have M4 : Hp aw0 own ro aw3 ((m, MB (Pt hb) nil3 (Sl gb 8) nil3 nil3 nil3 0 0 0 (.pointer none) nil3 nil3) :: (lb, funB cb nc cc) :: ((hb, HB (Sl mb 16) ((4000 : Nat) : Int) 0) :: (mb, WB (hw 8) []) :: (gb, WB (gw 8) []) :: (p, R0) :: (cb, CB) :: l)) := M3.perm (by
    classical exact List.perm_iff_count.2 fun a => by simp only [List.count_cons, List.count_append, List.count_nil]; omega)
  refine add_x (nf := 1) (ng := 8) M4 rfl (by decide) (by decide) rfl (.inr ⟨gb, rfl⟩) (fun b aw' l' Q' M' h => ?_) fun fb aw4 M5 => cnd_0x rfl ?_
  · refine hC b aw' (l' ++ ((hb, HB (Sl mb 16) ((4000 : Nat) : Int) 0) :: (mb, WB (hw 8) []) :: (gb, WB (gw 8) []) :: [(p, R0)])) Q' ?_ h
    simpa using M'
  refine run_x (fn := 0) (f := f) (mv := 10) (rm := 50) M5 (.inr .here) rfl (by decide) hf hf2 (by decide) (by decide) n2 fun b1 b2 b3 rb tb aw5 H => ?_
  refine K m hb mb gb fb p b1 b2 b3 rb tb aw5 ?_
  obtain ⟨bs, bf, sj, fj, M6⟩ := H.ex
  refine ⟨bs, bf, sj, fj, ?_⟩
  have M6 : Hp aw0 own ro aw5 ((m, MB (Pt hb) (Sl fb 1) (Sl gb 8) (Sl bs [WN 0, WN 0].length) (Sl bf [(0, 0, 1)].length) nil3 f 50 10 (.pointer none) nil3 nil3) :: (bf, FRB [(0, 0, 1)] fj) :: (bs, WB [WN 0, WN 0] sj) :: (b1, SB m) :: (b2, ZB) :: (b3, R0) :: (rb, R0) :: (tb, R0) :: (fb, funB cb nc cc) :: (lb, funB cb nc cc) :: (hb, HB (Sl mb 16) ((4000 : Nat) : Int) 0) :: (mb, WB (hw 8) []) :: (gb, WB (gw 8) []) :: (p, R0) :: (cb, CB) :: l) := M6
  have M7 : Hp aw0 own ro aw5 ((lb, funB cb nc cc) :: ((m, MCB (MX m hb fb gb) (Sl bs [WN 0, WN 0].length) (Sl bf [(0, 0, 1)].length) f) :: (bf, FRB [(0, 0, 1)] fj) :: (bs, WB [WN 0, WN 0] sj) :: HL hb mb (hw 8) 4000 (LL m b1 b2 b3 rb tb (RL fb gb p cb nc cc CB l)))) := M6.perm (by
    classical exact List.perm_iff_count.2 fun a => by simp only [List.count_cons, List.count_append, List.count_nil, MCB, HL, LL, RL, hw8_len]; omega)
  exact M7.drop .here
end
end Go.Proofs.Tryd
namespace Go.Proofs.YtfoceofohlpafaaDoor
open Go Go.Am Go.RowKit Go.Ri Go.Proofs.Tryd
variable [SymE]
section
variable {aw0 : AW} {own : List Nat} {l : List (Nat × Blk)} {t1 t2 : TypeId} {cb nc cc : Nat} {E : List PanicEntry → AW → Prop} {C Cs cj : List Value}
end
end Go.Proofs.YtfoceofohlpafaaDoor
