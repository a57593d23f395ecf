/- MachineFuel. -/
import Derived.Test.YtfoceofohlpafaaDoorMRun
import Derived.Test.YtfoceofohlpafaaDoorMaE
set_option linter.unusedVariables false
set_option linter.unusedSimpArgs false
set_option linter.unusedSectionVars false
set_option maxRecDepth 100000
namespace Go.Proofs.YtfoceofohlpafaaDoor
open Go Go.Am Go.RowKit Go.Ri Go.Proofs.Tryd
abbrev funC (b1 b2 : Nat) : List Value := [.int .i64 0, .slice (some ⟨b1, 0, none⟩) 10 10, .int .i64 0, .slice (some ⟨b2, 0, none⟩) 4 4]
abbrev LF : List (Nat × List Value × TypeId × Nat) := [(6, funC 7 8, 43, 2), (7, bodyC, 34, 4), (8, mainC (.map (some 0)), 34, 4)]
theorem chkF (t1 t2 : TypeId) : retW (@callN ftW Tryd.prog X0 tab 200 60 21 [.slice (some ⟨6, 0, none⟩) 2 UNK, .int .i64 ((0 : Nat) : Int)] (memR 9 (GR t1 t2 ++ LF))) = true := by kernel_rfl
variable [SymE]
section
variable {aw0 aw : AW} {own : List Nat} {l : List (Nat × Blk)} {t1 t2 : TypeId} {E : List PanicEntry → AW → Prop}
def rnF (b bb bm : Nat) (n : Nat) : Nat := if n = 6 then b else if n = 7 then bb else if n = 8 then bm else n
def RestF (k_5 f_6 : Int) (r2 : Int × Int × ByteArray × ByteArray × Value × Int) (E : List PanicEntry → AW → Prop) (aw3 : AW) : Prop :=
  alc aw3 [.int .i64 0, .int .u64 0, .string (⟨#[]⟩ : ByteArray), .string (⟨#[]⟩ : ByteArray), (.slice none 0 0), .int .i64 0] 29 0 fun p4 aw5 =>
  Am.st aw5 p4 [.int .i64 r2.1, .int .u64 r2.2.1, .string r2.2.2.1, .string r2.2.2.2.1, r2.2.2.2.2.1, .int .i64 r2.2.2.2.2.2] fun aw8 =>
  cnd (decide (f_6 < (IntKind.i64.wrap (k_5 + 1)))) (fldA p4 0 fun p16 =>
  ldI .i64 aw8 p16 fun x24 =>
  cnd (decide (x24 = 10)) (fldA p4 5 fun p27 =>
  ldI .i64 aw8 p27 fun x35 =>
  cnd (decide (x35 = 0)) (fldA p4 1 fun p38 =>
  ldI .u64 aw8 p38 fun x46 =>
  (decide (x46 = 0)) = true) (false = true)) (false = true)) (fldA p4 0 fun p48 =>
  ldI .i64 aw8 p48 fun x56 =>
  cnd (decide (x56 = 0)) (fldA p4 1 fun p59 =>
  ldI .u64 aw8 p59 fun x67 =>
  CallP prog 14 [.int .i64 7] aw8 sh14 (fun r69 aw70 =>
  again1 aw70 p59 (.int .u64 x67) ∧ cnd (decide (x67 = r69)) (fldA p4 5 fun p72 =>
  ldI .i64 aw70 p72 fun x80 =>
  (decide (x80 = (IntKind.i64.wrap ((IntKind.i64.wrap (f_6 - k_5)) - 1)))) = true) (false = true)) E) (false = true))
theorem fuel_x {n fu : Int} {kk ff : Nat} (M : Hp aw0 own (ro0 t1 t2) aw []) (hE : SymE.E 0 = .int .i64 (kk : Int)) (hk : Int.tmod (IntKind.i64.wrap n) 1500 = (kk : Int)) (hf : Int.tmod (IntKind.i64.wrap fu) 2000 = (ff : Int)) (hk2 : kk < 1500) (hf2 : ff < 2000) :
    CallP prog 4 [.int .u16 n, .int .u16 fu] aw sh4 (fun r _ => r = true) E := by
  refine F4_ok _ _ aw ?_
  unfold S4_0
  refine awk_x M (cnd_0x rfl ?_)
  refine newM_x (qu := 2000) (pr := 0) (by decide) (by decide) (by decide) M fun m hb v gl Lm Lg aw1 hv hg M1 => ?_
  refine alcS_x M1 fun bb aw2 M2 => alcS_x M2 fun bm aw3 M3 => cnd_0x rfl ⟨rfl, rfl, alcS_x M3 fun lb aw4 M4 => ?_⟩
  rw [hk] at M4 ⊢
  rw [hf]
  have M4 : Hp aw0 own (ro0 t1 t2) aw4 ((lb, ⟨funC bb bm, 43, 2, true, 0⟩) :: (bm, ⟨mainC (.int .i64 (kk : Int)), 34, 4, true, 0⟩) :: (bb, ⟨bodyC, 34, 4, true, 0⟩) :: (m, MB (Pt hb) nil3 gl nil3 nil3 nil3 0 0 0 (.pointer none) nil3 nil3) :: (hb, HB v ((2000 : Nat) : Int) 0) :: (Lm ++ (Lg ++ []))) := M4
  have M5 : Hp aw0 own (ro0 t1 t2) aw4 ((m, MB (Pt hb) nil3 gl nil3 nil3 nil3 0 0 0 (.pointer none) nil3 nil3) :: (lb, ⟨funC bb bm, 43, 2, true, 0⟩) :: ((bm, ⟨mainC (.int .i64 (kk : Int)), 34, 4, true, 0⟩) :: (bb, ⟨bodyC, 34, 4, true, 0⟩) :: (hb, HB v ((2000 : Nat) : Int) 0) :: (Lm ++ (Lg ++ [])))) := M4.perm (by
    classical exact List.perm_iff_count.2 fun a => by simp only [List.count_cons]; ac_rfl)
  have hgl : IsSl gl 0 := slP_isSl hg
  refine add_x (nf := 2) (ng := 0) M5 rfl (by decide) (by decide) rfl hgl (fun b aw' l' Q' M' h => ?_) fun fb aw5 M6 => ?_
  · have hbm : At ((b, (⟨funC bb bm, 43, 2, true, 0⟩ : Blk)) :: (l' ++ ((bm, ⟨mainC (.int .i64 (kk : Int)), 34, 4, true, 0⟩) :: (bb, ⟨bodyC, 34, 4, true, 0⟩) :: (hb, HB v ((2000 : Nat) : Int) 0) :: (Lm ++ (Lg ++ []))))) bm ⟨mainC (.int .i64 (kk : Int)), 34, 4, true, 0⟩ := .there (At.app .here)
    have hbb : At ((b, (⟨funC bb bm, 43, 2, true, 0⟩ : Blk)) :: (l' ++ ((bm, ⟨mainC (.int .i64 (kk : Int)), 34, 4, true, 0⟩) :: (bb, ⟨bodyC, 34, 4, true, 0⟩) :: (hb, HB v ((2000 : Nat) : Int) 0) :: (Lm ++ (Lg ++ []))))) bb ⟨bodyC, 34, 4, true, 0⟩ := .there (At.app (.there .here))
    have := chk_x (nf := 2) (ng := 0) (nx := 9) (L := LF) (ren := rnF b bb bm) (E := E) chkF (by decide) (fun g hg => by unfold rnF; rw [if_neg (by omega), if_neg (by omega), if_neg (by omega)]) M' (fun p hp => ?_) h
    · exact this
    · simp only [LF, List.mem_cons, List.not_mem_nil, or_false] at hp
      rcases hp with rfl | rfl | rfl
      · exact ⟨by decide, rfl, [], true, 0, M'.m .here, fun h => rfl⟩
      · exact ⟨by decide, rfl, [], true, 0, M'.m hbb, fun h => rfl⟩
      · refine ⟨by decide, rfl, [], true, 0, ?_, fun h => rfl⟩
        have := M'.m hbm
        rw [← hE] at this
        exact this
  unfold S4_1
  refine cnd_0x rfl ?_
  have M6 : Hp aw0 own (ro0 t1 t2) aw5 ((m, MB (Pt hb) (Sl fb 2) gl nil3 nil3 nil3 0 0 0 (.pointer none) nil3 nil3) :: ((fb, ⟨funC bb bm, 43, 2, true, 0⟩) :: (lb, ⟨funC bb bm, 43, 2, true, 0⟩) :: (bm, ⟨mainC (.int .i64 (kk : Int)), 34, 4, true, 0⟩) :: (bb, ⟨bodyC, 34, 4, true, 0⟩) :: (hb, HB v ((2000 : Nat) : Int) 0) :: (Lm ++ (Lg ++ [])))) := M6
  have end1 : kk + 1 ≤ ff → ∀ sk' fr' aw', Hp aw0 own (ro0 t1 t2) aw' ((m, MB (Pt hb) (Sl fb 2) gl sk' fr' nil3 ((ff - 1 - kk : Nat) : Int) 0 0 (.pointer none) nil3 nil3) :: []) → RestF (kk : Int) (ff : Int) (0, ((WN 7 : Nat) : Int), ⟨#[]⟩, ⟨#[]⟩, nil3, ((ff - 1 - kk : Nat) : Int)) E aw' := fun hle sk' fr' aw' M' => by
    unfold RestF
    refine alc_x M' fun p aw8 M8 => st_x M8 .here (by repeat constructor) rfl rfl rfl fun aw9 M9 => ?_
    rw [show IntKind.i64.wrap ((kk : Int) + 1) = ((kk + 1 : Nat) : Int) by rw [show (kk : Int) + 1 = ((kk + 1 : Nat) : Int) by omega]; exact i64_nat (by omega)]
    refine cnd_0x (decide_eq_false (by omega)) (fldA_x (ldI_x (M9.im .here) (by repeat constructor) (cnd_1x rfl (fldA_x (ldI_x (M9.im .here) (by repeat constructor) (num_x _ ?_))))))
    refine again_x (M9.im .here) (by repeat constructor) (cnd_1x (by rw [Wn_nat]; simp) (fldA_x (ldI_x (M9.im .here) (by repeat constructor) ?_)))
    rw [i64_in (n := (ff : Int) - (kk : Int)) (by omega) (by omega), i64_in (n := (ff : Int) - (kk : Int) - 1) (by omega) (by omega)]
    exact decide_eq_true (by show ((ff - 1 - kk : Nat) : Int) = _; omega)
  have end0 : ff < kk + 1 → ∀ sk' fr' aw', Hp aw0 own (ro0 t1 t2) aw' ((m, MB (Pt hb) (Sl fb 2) gl sk' fr' nil3 0 0 0 (.pointer none) nil3 nil3) :: []) → RestF (kk : Int) (ff : Int) (10, 0, ⟨#[]⟩, ⟨#[]⟩, nil3, 0) E aw' := fun hle sk' fr' aw' M' => by
    unfold RestF
    refine alc_x M' fun p aw8 M8 => st_x M8 .here (by repeat constructor) rfl rfl rfl fun aw9 M9 => ?_
    rw [show IntKind.i64.wrap ((kk : Int) + 1) = ((kk + 1 : Nat) : Int) by rw [show (kk : Int) + 1 = ((kk + 1 : Nat) : Int) by omega]; exact i64_nat (by omega)]
    refine cnd_1x (decide_eq_true (by omega)) (fldA_x (ldI_x (M9.im .here) (by repeat constructor) (cnd_1x rfl (fldA_x (ldI_x (M9.im .here) (by repeat constructor) (cnd_1x rfl (fldA_x (ldI_x (M9.im .here) (by repeat constructor) ?_))))))))
    exact decide_eq_true rfl
  refine run_x (fn := 1) (f := (ff : Int)) (mv := 0) (rm := 0) M6 (.inr .here) rfl (by decide) (by omega) (by omega) (Int.le_refl _) (Int.le_refl _) 1 fun b1 b2 b3 rb tb aw6 H => ⟨(1 + 1 + 8 * kk + 4) + 1 + 1 + 1, ?_⟩
  have one1 : ∀ (q : Value) (l' : List (Nat × Blk)) (aw' : AW) (B : Blk), Hp aw0 own (ro0 t1 t2) aw' ((m, B) :: l') → Hp aw0 own (ro0 t1 t2) aw' ((m, B) :: []) := fun q l' aw' B M => by
    have : Hp aw0 own (ro0 t1 t2) aw' (l' ++ [(m, B)]) := M.perm (by
      classical exact List.perm_iff_count.2 fun a => by simp only [List.count_cons, List.count_append, List.count_nil]; omega)
    exact this.dropL
  have H1 := H.perm (l' := (hb, HB v ((2000 : Nat) : Int) 0) :: (Lm ++ LL m b1 b2 b3 rb tb ((fb, ⟨funC bb bm, 43, 2, true, 0⟩) :: (lb, ⟨funC bb bm, 43, 2, true, 0⟩) :: (bm, ⟨mainC (.int .i64 (kk : Int)), 34, 4, true, 0⟩) :: (bb, ⟨bodyC, 34, 4, true, 0⟩) :: Lg))) (by
    classical exact List.perm_iff_count.2 fun a => by simp only [List.count_cons, List.count_append, List.count_nil, LL]; omega)
  have hv0 : SlP 26 1 v ([] : List Nat).length (([] : List Nat).map W ++ []) Lm := hv
  have cM : ∀ {x : List (Nat × Blk)}, CodeAt (ro0 t1 t2) (x ++ LL m b1 b2 b3 rb tb ((fb, ⟨funC bb bm, 43, 2, true, 0⟩) :: (lb, ⟨funC bb bm, 43, 2, true, 0⟩) :: (bm, ⟨mainC (.int .i64 (kk : Int)), 34, 4, true, 0⟩) :: (bb, ⟨bodyC, 34, 4, true, 0⟩) :: Lg)) (Sl fb 2) 1 4 (mainC (.int .i64 (kk : Int))) := fun {x} =>
    ⟨fb, 2, UNK, bm, 4, _, _, _, _, _, rfl, by decide, .inr (At.app (.there (.there (.there (.there (.there .here)))))), rfl, .inr (At.app (.there (.there (.there (.there (.there (.there (.there .here))))))))⟩
  have cB : ∀ {x : List (Nat × Blk)}, CodeAt (ro0 t1 t2) (x ++ LL m b1 b2 b3 rb tb ((fb, ⟨funC bb bm, 43, 2, true, 0⟩) :: (lb, ⟨funC bb bm, 43, 2, true, 0⟩) :: (bm, ⟨mainC (.int .i64 (kk : Int)), 34, 4, true, 0⟩) :: (bb, ⟨bodyC, 34, 4, true, 0⟩) :: Lg)) (Sl fb 2) 0 10 bodyC := fun {x} =>
    ⟨fb, 2, UNK, bb, 10, _, _, _, _, _, rfl, by decide, .inr (At.app (.there (.there (.there (.there (.there .here)))))), rfl, .inr (At.app (.there (.there (.there (.there (.there (.there (.there (.there .here)))))))))⟩
  have sB : ∀ {x : List (Nat × Blk)}, At (x ++ LL m b1 b2 b3 rb tb ((fb, ⟨funC bb bm, 43, 2, true, 0⟩) :: (lb, ⟨funC bb bm, 43, 2, true, 0⟩) :: (bm, ⟨mainC (.int .i64 (kk : Int)), 34, 4, true, 0⟩) :: (bb, ⟨bodyC, 34, 4, true, 0⟩) :: Lg)) b1 (SB m) := fun {x} => At.app .here
  refine mm_clos (fs := []) (pc := 0) (X := ⟨m, hb, Sl fb 2, gl, nil3, .pointer none, nil3, nil3, 0, 0⟩) hv0 H1 ((cM (x := (hb, HB v ((2000 : Nat) : Int) 0) :: Lm)).ins (by decide) (by decide) rfl) (sB (x := (hb, HB v ((2000 : Nat) : Int) 0) :: Lm)) (by decide) (by decide) (by decide) (by decide) fun mb aw7 H2 => ?_
  refine mm_int (fs := []) (pc := 1) H2 ((cM (x := [_, _])).ins (by decide) (by decide) rfl) (sB (x := [_, _])) (by decide) (by decide) fun aw8 H3 => ?_
  have fE : ∀ (st : List Nat) (fs : List Fr) (aw' : AW) (l' : List (Nat × Blk)) (n2 : Nat), ff < kk + 1 → MM aw0 own (ro0 t1 t2) ⟨m, hb, Sl fb 2, gl, nil3, .pointer none, nil3, nil3, 0, 0⟩ st fs 0 ((hb, HB (Sl mb ([] ++ [256 + 5] ++ [WN 0]).length) ((2000 : Nat) : Int) 0) :: (mb, WB ([] ++ [256 + 5] ++ [WN 0]) []) :: LL m b1 b2 b3 rb tb l') aw' → DK35 (Q35 (fun r a => RestF (kk : Int) (ff : Int) r E a) E m tb rb (0 + 1)) E (Pt b1) (Pt b2) (Pt b3) (.panic (over 10)) aw' := fun st fs aw' l' n2 hlt H => by
    have H' := H.perm (l' := LL m b1 b2 b3 rb tb ((hb, HB (Sl mb ([] ++ [256 + 5] ++ [WN 0]).length) ((2000 : Nat) : Int) 0) :: (mb, WB ([] ++ [256 + 5] ++ [WN 0]) []) :: l')) (by
      classical exact List.perm_iff_count.2 fun a => by simp only [List.count_cons, List.count_append, List.count_nil, LL]; omega)
    exact fin_over (by decide) rfl rfl rfl H' fun sk' fr' aw'' M' => end0 hlt sk' fr' aw'' (one1 nil3 _ _ _ M')
  cases ff with
  | zero => exact mm_call0 (fs := []) (pc := 2) H3 ((cM (x := [_, _])).ins (by decide) (by decide) rfl) (sB (x := [_, _])) (by decide) fun aw9 H4 => fE _ _ aw9 _ 0 (by omega) H4
  | succ ff =>
    refine mm_call (fs := []) (pc := 2) (j := 0) (fi := 0) H3 ((cM (x := [_, _])).ins (by decide) (by decide) rfl) (sB (x := [_, _])) (by decide) (by decide) rfl (by omega) (by omega) .here (.there .here) (by decide) rfl (by decide) (by decide) (by decide) rfl (by decide) (by decide) fun aw9 H4 => ?_
    rw [show (((ff + 1 : Nat) : Int) - 1) = ((ff : Nat) : Int) by omega] at H4
    refine body_x (X := ⟨m, hb, Sl fb 2, gl, nil3, .pointer none, nil3, nil3, 0, 0⟩) (cB (x := [_, _])) (sB (x := [_, _])) rfl (by decide) .here (.there .here) (by decide) rfl rfl kk [WN 0, WN 0] [(1, 3, 1)] ff aw9 (1 + 1) (by simp; omega) (by simp; omega) (by omega) H4 (fun hlt st fs aw' H' => fE _ _ aw' _ 0 (by omega) H') fun hle aw10 H5 => ?_
    refine mm_ret (fs := []) (pc := 3) H5 ((cM (x := [_, _])).ins (by decide) (by decide) rfl) (sB (x := [_, _])) (by decide) (by decide) (by decide) (by decide) fun aw11 H6 => ?_
    have H7 := H6.perm (l' := LL m b1 b2 b3 rb tb ((hb, HB (Sl mb ([] ++ [256 + 5] ++ [WN 0]).length) ((2000 : Nat) : Int) 0) :: (mb, WB ([] ++ [256 + 5] ++ [WN 0]) []) :: ((fb, ⟨funC bb bm, 43, 2, true, 0⟩) :: (lb, ⟨funC bb bm, 43, 2, true, 0⟩) :: (bm, ⟨mainC (.int .i64 (kk : Int)), 34, 4, true, 0⟩) :: (bb, ⟨bodyC, 34, 4, true, 0⟩) :: Lg))) (by
      classical exact List.perm_iff_count.2 fun a => by simp only [List.count_cons, List.count_append, List.count_nil, LL]; omega)
    refine fin_ok (st := []) (w := WN 7) rfl rfl rfl (by decide) H7 fun sk' fr' aw'' M' => ?_
    have := end1 (by omega) sk' fr' aw'' (by rw [show ff + 1 - 1 - kk = ff - kk by omega]; exact one1 nil3 _ _ _ M')
    rw [show ff + 1 - 1 - kk = ff - kk by omega] at this
    exact this
end
end Go.Proofs.YtfoceofohlpafaaDoor
