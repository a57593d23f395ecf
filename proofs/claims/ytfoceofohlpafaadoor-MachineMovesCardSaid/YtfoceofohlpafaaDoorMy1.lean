/- machine: what was printed, and the moves, at a run's end. -/
import Derived.Test.YtfoceofohlpafaaDoorMu1
import Derived.Test.YtfoceofohlpafaaDoorL3
set_option linter.unusedVariables false
set_option linter.unusedSimpArgs false
set_option linter.unusedSectionVars false
namespace Go.Proofs.Tryd
open Go Go.Am Go.RowKit
variable [SymE]
set_option maxHeartbeats 1000000
structure OutB (bu : Value) (o : List UInt8) (Lb : List (Nat × Blk)) : Prop where
  sl : SlP 5 1 bu o.length (bytesV o) Lb
  e : o = [] → bu = nil3 ∧ Lb = []
section
variable {aw0 aw : AW} {own : List Nat} {ro l Lb : List (Nat × Blk)} {m bs tb rb n w : Nat} {h fu gl sk fr tr ad mo bu : Value} {fuel space most : Int} {E : List PanicEntry → AW → Prop} {Q : (Int × Int × ByteArray × ByteArray × Value × Int) → AW → Prop} {st : List Nat} {sj : List Value} {o : List UInt8}
theorem bytesV_length (x : List UInt8) : (bytesV x).length = x.length := by simp [bytesV]
theorem string_x {Q : ByteArray → AW → Prop} (hO : OutB bu o Lb) (hl : o.length < 2 ^ 60) (M : Hp aw0 own ro aw ((m, MB h fu gl sk fr tr fuel space most ad bu mo) :: (Lb ++ l))) (hQ : ∀ aw', Hp aw0 own ro aw' ((m, MB h fu gl sk fr tr fuel space most ad bu mo) :: l) → Q (mkB o) aw') : CallP prog 36 [.pointer (some ⟨m, 9, none⟩)] aw sh36 Q E := by
  by_cases h0 : o = []
  · obtain ⟨e1, e2⟩ := hO.e h0
    subst e1; subst e2; subst h0
    exact string0 M (hQ aw M)
  refine F36_ok _ aw ?_
  unfold S36_0
  have hpos : 0 < o.length := List.length_pos_iff.2 h0
  obtain ⟨hs, _⟩ := hO
  generalize hos : bytesV o = os at hs
  generalize hn : o.length = n at hs
  cases hs with
  | nil => omega
  | @some b n os hle =>
    refine nck_x (fldA_x (ldV_x (M.im .here) (by repeat constructor) (nck_x (fldA_x (ldV_x (M.im .here) (by repeat constructor) (slen_x ?_))))))
    refine ⟨_, .inl ⟨b, 0, n, UNK, rfl, by omega⟩, rfl, again_x (M.im .here) (by repeat constructor) ?_⟩
    have hB := M.m (.there .here)
    have hout : Out ((m, MB h fu gl sk fr tr fuel space most ad (Sl b n) mo) :: ([(b, (⟨os, 5, 1, true, 0⟩ : Blk))] ++ l)) b ⟨os, 5, 1, true, 0⟩ ((m, MB h fu gl sk fr tr fuel space most ad (Sl b n) mo) :: l) := .there .here
    refine ⟨mkB o, aw.kill b, .inr ⟨o, b, _, h0, by omega, by omega, rfl, ?_, hB, rfl, rfl, rfl, rfl⟩, hQ _ (M.kill hout)⟩
    rw [getN_m hB (by rw [← hos, bytesV_length]; omega), List.drop_zero]
    show some (List.take o.length os) = _
    rw [← hos, List.take_of_length_le (by rw [bytesV_length]; exact Nat.le_refl _)]
theorem run_tailO {e w' : Int} {r oo : ByteArray} {mv : Value} {f : Int} (hmv : one mv = true) (M : Hp aw0 own ro aw ((rb, RB e w' r oo mv f) :: (m, MB h fu gl sk fr tr fuel space most ad bu mo) :: (tb, R0) :: l))
    (hQ : ∀ aw', Hp aw0 own ro aw' ((m, MB h fu gl nil3 fr tr fuel space most ad bu mo) :: l) → Q (e, w', r, oo, mv, f) aw') : S17_3 Q E (Pt m) (Pt tb) (Pt rb) aw := by
  unfold S17_3
  refine nck_x (fldA_x (st_x M (by repeat constructor) (by repeat constructor) rfl rfl rfl fun aw1 M => ?_))
  refine ptr_x (gI_x (M.im .here) (by repeat constructor) (gI_x (M.im .here) (by repeat constructor) (gS_x (M.im .here) (by repeat constructor) (gS_x (M.im .here) (by repeat constructor) (gV_x (M.im .here) (by repeat constructor) (gI_x (M.im .here) (by repeat constructor) ?_))))))
  refine st_x M (by repeat constructor) (by repeat constructor) rfl rfl (by simp only [List.all_cons, List.all_nil, hmv, Bool.and_true]; rfl) fun aw2 M => ?_
  refine ptr_x (gI_x (M.im (.there (.there .here))) (by repeat constructor) (gI_x (M.im (.there (.there .here))) (by repeat constructor) (gS_x (M.im (.there (.there .here))) (by repeat constructor) (gS_x (M.im (.there (.there .here))) (by repeat constructor) (gV_x (M.im (.there (.there .here))) (by repeat constructor) (gI_x (M.im (.there (.there .here))) (by repeat constructor) ?_))))))
  exact hQ aw2 ((M.drop .here).drop (.there .here))
theorem run_okO (hO : OutB bu o Lb) (hol : o.length < 2 ^ 60) (hmo : one mo = true) (hst : st.length < 2 ^ 39) {r : ByteArray} (M : Hp aw0 own ro aw ((rb, RB 0 0 r ⟨#[]⟩ nil3 0) :: (m, MB h fu gl (Sl bs (st.length + 1)) fr tr fuel space most ad bu mo) :: (tb, R0) :: (bs, WB (st ++ [w]) sj) :: (Lb ++ l)))
    (hQ : ∀ aw', Hp aw0 own ro aw' ((m, MB h fu gl nil3 fr tr fuel space most ad bu mo) :: l) → Q (0, (w : Int), r, mkB o, mo, fuel) aw') : S17_2 Q E (n + 1) (Pt m) (Pt tb) (Pt rb) false aw := by
  show S17_2s Q E _ _ _ _ _ aw
  unfold S17_2s
  refine cnd_0x rfl (nck_x (fldA_x (nck_x (fldA_x (ldV_x (M.im (.there .here)) (by repeat constructor) (nck_x (fldA_x (ldI_x (M.im (.there .here)) (by repeat constructor) ?_))))))))
  have M0 : Hp aw0 own ro aw ((m, MB h fu gl (Sl bs (st.length + 1)) fr tr fuel space most ad bu mo) :: (Lb ++ ((rb, RB 0 0 r ⟨#[]⟩ nil3 0) :: (tb, R0) :: (bs, WB (st ++ [w]) sj) :: l))) := M.perm (by
    classical exact List.perm_iff_count.2 fun a => by simp only [List.count_cons, List.count_append]; omega)
  refine string_x hO hol M0 fun aw1 M1 => ?_
  have M : Hp aw0 own ro aw1 ((rb, RB 0 0 r ⟨#[]⟩ nil3 0) :: (m, MB h fu gl (Sl bs (st.length + 1)) fr tr fuel space most ad bu mo) :: (tb, R0) :: (bs, WB (st ++ [w]) sj) :: l) := M1.front (.there .here)
  refine again_x (M.im (.there .here)) (by repeat constructor) (again_x (M.im (.there .here)) (by repeat constructor) (fldA_x ?_))
  refine st_x M (by repeat constructor) (by repeat constructor) rfl rfl rfl fun aw1 M => ?_
  refine again_x (M.im (.there .here)) (by repeat constructor) (again_x (M.im (.there .here)) (by repeat constructor) (fldA_x ?_))
  refine st_x M (by repeat constructor) (by repeat constructor) rfl rfl (by simp [hmo]) fun aw2 M => ?_
  refine again_x (M.im (.there .here)) (by repeat constructor) (fldA_x ?_)
  refine st_x M (by repeat constructor) (by repeat constructor) rfl rfl rfl fun aw3 M => ?_
  refine fldA_x (ldI_x (M.im .here) (by constructor) (cnd_1x rfl ?_))
  have M := (M.front (.there (.there (.there .here)))).front (.there (.there .here))
  refine pop_x M (by omega) fun aw4 M => ?_
  have M := (M.drop (.there .here)).front (.there .here)
  refine fldA_x (st_x M (by repeat constructor) (by repeat constructor) rfl rfl rfl fun aw5 M => ?_)
  exact run_tailO hmo M fun aw6 M => hQ aw6 M
theorem run_errO (hO : OutB bu o Lb) (hol : o.length < 2 ^ 60) {e : Int} (he : e ≠ 0) (hmo : one mo = true) {r : ByteArray} (M : Hp aw0 own ro aw ((rb, RB e 0 r ⟨#[]⟩ nil3 0) :: (m, MB h fu gl sk fr tr fuel space most ad bu mo) :: (tb, R0) :: (Lb ++ l)))
    (hQ : ∀ aw', Hp aw0 own ro aw' ((m, MB h fu gl nil3 fr tr fuel space most ad bu mo) :: l) → Q (e, 0, r, mkB o, mo, fuel) aw') : S17_2 Q E (n + 1) (Pt m) (Pt tb) (Pt rb) false aw := by
  show S17_2s Q E _ _ _ _ _ aw
  unfold S17_2s
  refine cnd_0x rfl (nck_x (fldA_x (nck_x (fldA_x (ldV_x (M.im (.there .here)) (by repeat constructor) (nck_x (fldA_x (ldI_x (M.im (.there .here)) (by repeat constructor) ?_))))))))
  have M0 : Hp aw0 own ro aw ((m, MB h fu gl sk fr tr fuel space most ad bu mo) :: (Lb ++ ((rb, RB e 0 r ⟨#[]⟩ nil3 0) :: (tb, R0) :: l))) := M.perm (by
    classical exact List.perm_iff_count.2 fun a => by simp only [List.count_cons, List.count_append]; omega)
  refine string_x hO hol M0 fun aw1 M1 => ?_
  have M : Hp aw0 own ro aw1 ((rb, RB e 0 r ⟨#[]⟩ nil3 0) :: (m, MB h fu gl sk fr tr fuel space most ad bu mo) :: (tb, R0) :: l) := M1.front (.there .here)
  refine again_x (M.im (.there .here)) (by repeat constructor) (again_x (M.im (.there .here)) (by repeat constructor) (fldA_x ?_))
  refine st_x M (by repeat constructor) (by repeat constructor) rfl rfl rfl fun aw1 M => ?_
  refine again_x (M.im (.there .here)) (by repeat constructor) (again_x (M.im (.there .here)) (by repeat constructor) (fldA_x ?_))
  refine st_x M (by repeat constructor) (by repeat constructor) rfl rfl (by simp [hmo]) fun aw2 M => ?_
  refine again_x (M.im (.there .here)) (by repeat constructor) (fldA_x ?_)
  refine st_x M (by repeat constructor) (by repeat constructor) rfl rfl rfl fun aw3 M => ?_
  refine fldA_x (ldI_x (M.im .here) (by constructor) (cnd_0x (by simpa using he) ?_))
  exact run_tailO hmo M fun aw6 M => hQ aw6 M
end
section
variable {aw0 aw : AW} {own : List Nat} {ro l Lb : List (Nat × Blk)} {m hb mb qu b1 b2 b3 rb tb fb gb p nc cc cb k n2 w : Nat} {E : List PanicEntry → AW → Prop} {Q : (Int × Int × ByteArray × ByteArray × Value × Int × Value) → AW → Prop} {ad bu mo : Value} {o : List UInt8} {ws : List Nat} {fuel : Int} {CB : Blk}
abbrev MO (m hb fb gb : Nat) (ad bu mo : Value) : MC := ⟨m, hb, Sl fb 1, Sl gb 8, nil3, ad, bu, mo, 50, 10⟩
theorem endO (hO : OutB bu o Lb) (hol : o.length < 2 ^ 60) (hmo : one mo = true) (H : MM aw0 own ro (MO m hb fb gb ad bu mo) ([] ++ [w]) [] fuel (HL hb mb ws qu (LL m b1 b2 b3 rb tb (RL fb gb p cb nc cc CB (Lb ++ l)))) aw)
    (hQ : ∀ B aw', Hp aw0 own ro aw' ((m, B) :: HL hb mb ws qu ((cb, CB) :: l)) → Q (0, (w : Int), ⟨#[]⟩, mkB o, mo, fuel, Pt m) aw') : S35_1 (Q35 (QR Q m p) E m tb rb (n2 + 1)) E (k + 1) (Pt b1) (Pt b2) (Pt b3) aw := by
  obtain ⟨bs, bf, sj, fj, M⟩ := H.ex
  simp only [MCB] at M
  have M1 : Hp aw0 own ro aw ((b3, R0) :: (b2, ZB) :: (b1, SB m) :: (m, MB (Pt hb) (Sl fb 1) (Sl gb 8) (Sl bs ([] ++ [w]).length) (Sl bf 0) nil3 fuel 50 10 ad bu mo) :: ((rb, R0) :: (tb, R0) :: (bs, WB ([] ++ [w]) sj) :: (Lb ++ ((bf, FRB [] fj) :: HL hb mb ws qu (RL fb gb p cb nc cc CB l))))) := M.perm (by
    classical exact List.perm_iff_count.2 fun a => by simp only [List.count_cons, List.count_append, LL, HL, RL, List.length_nil]; omega)
  refine run_end M1 fun aw1 M2 => ?_
  refine st_x M2 (.there .here) (by repeat constructor) rfl rfl rfl fun aw2 M3 => ?_
  have M4 := (M3.front (.there .here))
  refine run_okO (st := []) hO hol hmo (by decide) M4 fun aw3 M5 => ?_
  have M6 : Hp aw0 own ro aw3 ((bf, FRB [] fj) :: (fb, funB cb nc cc) :: (gb, WB (gw 8) []) :: ((m, MB (Pt hb) (Sl fb 1) (Sl gb 8) nil3 (Sl bf 0) nil3 fuel 50 10 ad bu mo) :: (p, R0) :: HL hb mb ws qu ((cb, CB) :: l))) := M5.perm (by
    classical exact List.perm_iff_count.2 fun a => by simp only [List.count_cons, HL, RL]; omega)
  exact ret13 hmo (((M6.drop .here).drop .here).drop .here) fun aw'' M3 => hQ _ aw'' M3
theorem endRaiseO {st : List Nat} {fs : List Fr} {s : ByteArray} (hO : OutB bu o Lb) (hol : o.length < 2 ^ 60) (hmo : one mo = true) (H : MM aw0 own ro (MO m hb fb gb ad bu mo) st fs fuel (HL hb mb ws qu (LL m b1 b2 b3 rb tb (RL fb gb p cb nc cc CB (Lb ++ l)))) aw)
    (hQ : ∀ B aw', Hp aw0 own ro aw' ((m, B) :: HL hb mb ws qu ((cb, CB) :: l)) → Q (9, 0, s, mkB o, mo, fuel, Pt m) aw') : DK35 (Q35 (QR Q m p) E m tb rb (n2 + 1)) E (Pt b1) (Pt b2) (Pt b3) (.panic (raise s)) aw := by
  obtain ⟨bs, bf, sj, fj, M⟩ := H.ex
  simp only [MCB] at M
  have M1 : Hp aw0 own ro aw ((b3, R0) :: (b2, ZB) :: (b1, SB m) :: (m, MB (Pt hb) (Sl fb 1) (Sl gb 8) (Sl bs st.length) (Sl bf fs.length) nil3 fuel 50 10 ad bu mo) :: ((rb, R0) :: (tb, R0) :: (Lb ++ ((bf, FRB fs fj) :: (bs, WB st sj) :: HL hb mb ws qu (RL fb gb p cb nc cc CB l))))) := M.perm (by
    classical exact List.perm_iff_count.2 fun a => by simp only [List.count_cons, List.count_append, HL, LL, RL]; omega)
  refine run_raise0 M1 fun aw1 M2 => ?_
  refine st_x M2 (.there .here) (by repeat constructor) rfl rfl rfl fun aw2 M3 => ?_
  refine run_errO hO hol (by show (9 : Int) ≠ 0; decide) hmo (M3.front (.there .here)) fun aw3 M5 => ?_
  have M6 : Hp aw0 own ro aw3 ((bf, FRB fs fj) :: (bs, WB st sj) :: (fb, funB cb nc cc) :: (gb, WB (gw 8) []) :: ((m, MB (Pt hb) (Sl fb 1) (Sl gb 8) nil3 (Sl bf fs.length) nil3 fuel 50 10 ad bu mo) :: (p, R0) :: HL hb mb ws qu ((cb, CB) :: l))) := M5.perm (by
    classical exact List.perm_iff_count.2 fun a => by simp only [List.count_cons, HL, LL, RL]; omega)
  exact ret13 hmo ((((M6.drop .here).drop .here).drop .here).drop .here) fun aw'' M3 => hQ _ aw'' M3
end
end Go.Proofs.Tryd
set_option linter.unusedVariables false
set_option linter.unusedSimpArgs false
set_option linter.unusedSectionVars false
namespace Go.Proofs.Tryd
open Go Go.Am Go.RowKit
theorem lies77 : liesAt prog prog.depth 77 (12 / prog.cellsOf 77) 9 75 1 = true := by kernel_rfl
variable [SymE]
set_option maxHeartbeats 1000000
def mvC : List (Bool × Int) → List Value
  | [] => []
  | x :: r => [.bool x.1, .int .i64 x.2] ++ mvC r
theorem mvC_len : ∀ ms, (mvC ms).length = ms.length * 2
  | [] => rfl
  | x :: r => by simp [mvC, mvC_len r]; omega
theorem mvC_app : ∀ (a b : List (Bool × Int)), mvC (a ++ b) = mvC a ++ mvC b
  | [], _ => rfl
  | x :: r, b => by simp [mvC, mvC_app r]
abbrev MovB (mo : Value) (ms : List (Bool × Int)) (Lm : List (Nat × Blk)) : Prop := SlP 48 2 mo ms.length (mvC ms) Lm
abbrev AdOk (m : Nat) (ad : Value) : Prop := ad = .pointer none ∨ ad = .pointer (some ⟨m, 9, none⟩)
theorem CodeAt.app {ro L l : List (Nat × Blk)} {fu : Value} {f cn : Nat} {cells : List Value} (h : CodeAt ro l fu f cn cells) : CodeAt ro (L ++ l) fu f cn cells := by
  obtain ⟨fb, nf, cf, cb, cc, FU, t, e, rw_, fz, h1, h2, h3, h4, h5⟩ := h.ex
  have a : ∀ {b : Nat} {B : Blk}, Here ro l b B → Here ro (L ++ l) b B := fun h => by
    rcases h with h | h
    · exact .inl h
    · exact .inr (At.app h)
  exact ⟨fb, nf, cf, cb, cc, FU, t, e, rw_, fz, h1, h2, a h3, h4, a h5⟩
section
variable {aw0 aw : AW} {own : List Nat} {ro l Lb Lm : List (Nat × Blk)} {m hb fb gb f pc base j j2 mb b1 b2 b3 k qu : Nat} {fuel N : Int} {st ws : List Nat} {fs : List Fr} {E : List PanicEntry → AW → Prop} {n a : Int} {t : ByteArray} {Q : (Bool × Int × Int × ByteArray × ByteArray × Value × Int) → AW → Prop} {ad bu mo : Value} {o s : List UInt8} {ms : List (Bool × Int)}
theorem copy_x {Q : Unit → AW → Prop} {h fu gl sk fr tr : Value} {fuel space most : Int} (had : AdOk m ad) (M : Hp aw0 own ro aw ((m, MB h fu gl sk fr tr fuel space most ad bu mo) :: l))
    (hQ : ∀ aw', Hp aw0 own ro aw' ((m, MB h fu gl sk fr tr fuel space most (.pointer (some ⟨m, 9, none⟩)) bu mo) :: l) → Q () aw') : CallP prog 92 [.pointer (some ⟨m, 9, none⟩)] aw sh92 Q E := by
  refine F92_ok _ aw ?_
  unfold S92_0
  refine nck_x (fldA_x (ldV_x (M.im .here) (by repeat constructor) ?_))
  have hL : Lies prog aw 75 2 (.pointer (some ⟨m, 9, none⟩)) := ⟨m, 9, _, rfl, M.m .here, rfl, by show 9 + 2 ≤ 12; decide, by decide, lies77⟩
  rcases had with rfl | rfl
  · refine nilB_x rfl rfl (cnd_1x rfl ⟨hL, hL, nck_x (fldA_x ?_)⟩)
    exact st_x M .here (by repeat constructor) rfl rfl rfl fun aw1 M1 => hQ aw1 M1
  · refine nilB_x rfl rfl (cnd_0x rfl (nck_x (fldA_x (ldV_x (M.im .here) (by repeat constructor) ⟨⟨rfl, _, _, rfl⟩, hQ aw M⟩))))
theorem write_x {Q : (Int × Value) → AW → Prop} {h fu gl sk fr tr : Value} {fuel space most : Int} (had : AdOk m ad) (hO : OutB bu o Lb) (hol : o.length + s.length < 2 ^ 30) (M : Hp aw0 own ro aw ((m, MB h fu gl sk fr tr fuel space most ad bu mo) :: (Lb ++ l)))
    (hQ : ∀ bu' Lb' aw' v, OutB bu' (o ++ s) Lb' → Hp aw0 own ro aw' ((m, MB h fu gl sk fr tr fuel space most (.pointer (some ⟨m, 9, none⟩)) bu' mo) :: (Lb' ++ l)) → Q v aw') : CallP prog 88 [.pointer (some ⟨m, 9, none⟩), .string (mkB s)] aw sh88 Q E := by
  refine F88_ok _ _ aw ?_
  unfold S88_0
  refine copy_x had M fun aw1 M1 => ?_
  refine nck_x (fldA_x (ldV_x (M1.im .here) (by repeat constructor) ?_))
  have hsrc : ∀ aw', Src aw' 1 (.string (mkB s)) s.length (bytesV s) := fun aw' => Src.str (aw := aw') (mkB s) rfl
  by_cases h0 : s = []
  · subst h0
    obtain ⟨q, c, hv⟩ := hO.sl.val
    subst hv
    refine app_none (cs := bytesV []) (hsrc aw1) (nck_x (fldA_x ?_))
    refine st_x M1 .here (by repeat constructor) rfl rfl rfl fun aw2 M2 => ?_
    exact hQ _ Lb aw2 _ (by rw [List.append_nil]; exact hO) M2
  · have hpos : 0 < s.length := List.length_pos_iff.2 h0
    have M2 : Hp aw0 own ro aw1 (Lb ++ ((m, MB h fu gl sk fr tr fuel space most (.pointer (some ⟨m, 9, none⟩)) bu mo) :: l)) := M1.perm (by
      classical exact List.perm_iff_count.2 fun a => by simp only [List.count_cons, List.count_append]; omega)
    refine app_p hO.sl M2 (hsrc aw1) hpos (by simp [bytesV]; intro _ _; rfl) (by omega) fun b aw2 M3 => nck_x (fldA_x ?_)
    refine st_x M3 (.there .here) (by repeat constructor) rfl rfl rfl fun aw3 M4 => ?_
    have e : (bytesV o).take (o.length * 1) ++ bytesV s = bytesV (o ++ s) := by
      rw [List.take_of_length_le (by rw [bytesV_length]; omega)]; simp [bytesV]
    rw [e] at M4
    have hO' : OutB (.slice (some ⟨b, 0, none⟩) (o.length + s.length) UNK) (o ++ s) [(b, ⟨bytesV (o ++ s), 5, 1, true, 0⟩)] := ⟨by
      rw [← List.length_append]; exact .some (by rw [bytesV_length]; omega), fun h => absurd (List.append_eq_nil_iff.1 h).2 h0⟩
    have M5 : Hp aw0 own ro aw3 ((b, ⟨bytesV (o ++ s), 5, 1, true, 0⟩) :: (m, MB h fu gl sk fr tr fuel space most (.pointer (some ⟨m, 9, none⟩)) (.slice (some ⟨b, 0, none⟩) (o.length + s.length) UNK) mo) :: l) := M4
    refine hQ _ _ aw3 _ hO' (M5.perm ?_)
    classical exact List.perm_iff_count.2 fun a => by simp only [List.count_cons, List.count_append, List.count_nil]; omega
theorem mm_print (H : MM aw0 own ro (MO m hb fb gb ad bu mo) (st ++ [2 * j] ++ [2 * j2]) (fs ++ [(f, pc, base)]) fuel (Lb ++ HL hb mb ws qu l) aw) (hI : InsAt ro (Lb ++ HL hb mb ws qu l) (Sl fb 1) f pc 7 n a t) (hS : At (Lb ++ HL hb mb ws qu l) b1 (SB m)) (hfl : fs.length < 2 ^ 39) (hst : st.length < 2 ^ 38)
    (h0 : 0 < fuel) (h1 : fuel < 2 ^ 60) (hj : ws[j]? = some (256 + 6)) (hy : ws[j + 1]? = some (WN 4)) (hT : TxtAt ws j2 (mkB s)) (hws : ws.length < 2 ^ 50) (hsl : s.length ≤ 200) (had : AdOk m ad) (hO : OutB bu o Lb) (hol : o.length ≤ 50)
    (hK : ∀ bu' Lb' aw', OutB bu' (o ++ s.take (50 - o.length)) Lb' → MM aw0 own ro (MO m hb fb gb (.pointer (some ⟨m, 9, none⟩)) bu' mo) (st ++ [WN 0]) (fs ++ [(f, pc + 1, base)]) (fuel - 1) (Lb' ++ HL hb mb ws qu l) aw' → S35_1 Q E k (Pt b1) (Pt b2) (Pt b3) aw') : S35_1 Q E (k + 1) (Pt b1) (Pt b2) (Pt b3) aw := by
  refine mm_fetch H hI hS (by omega) fun ib bs bf sj fj aw1 M => ?_
  have hl2 : (st ++ [2 * j] ++ [2 * j2]).length = st.length + 2 := by simp
  simp only [MCB] at M
  rw [hl2] at M
  refine ins_prim (i := 4) (hb := hb) (mb := mb) M hst h0 h1 (At.app .here) (At.app (.there .here)) hws hj hy (by decide) fun aw2 M2 => ?_
  refine F82_ok _ _ _ aw2 ?_
  unfold S82_0
  refine cnd_0x rfl (cnd_0x rfl (cnd_0x rfl ?_))
  unfold S82_1
  refine cnd_0x rfl (cnd_0x rfl (cnd_1x rfl ?_))
  refine nck_x (fldA_x (ldV_x (M2.im .here) (by repeat constructor) ?_))
  refine hText_x hT (.there (.there (.there (At.app .here)))) (.there (.there (.there (At.app (.there .here))))) hws M2 fun aw3 M3 => ?_
  refine nck_x (fldA_x (nck_x (fldA_x (ldI_x (M3.im .here) (by repeat constructor) (nck_x (fldA_x ?_))))))
  refine F89_ok _ aw3 ?_
  unfold S89_0
  refine nck_x (fldA_x (ldV_x (M3.im .here) (by repeat constructor) ?_))
  obtain ⟨q, c, hv⟩ := hO.sl.val
  have hslen : ∀ K : Int → Prop, K (o.length : Int) → slen bu K := fun K h => by rw [hv]; exact slen_x h
  refine hslen _ (again_x (M3.im .here) (by repeat constructor) ?_)
  have e1 : IntKind.i64.wrap (50 - (o.length : Int)) = ((50 - o.length : Nat) : Int) := by rw [show (50 : Int) - (o.length : Int) = ((50 - o.length : Nat) : Int) by omega, i64_nat (by omega)]
  rw [e1]
  refine cutS_i (a := 0) (d := min s.length (50 - o.length)) rfl (by rw [mkB_size]; omega) (Nat.zero_le _) (Nat.min_le_left _ _) ?_
  have e2 : (s.drop 0).take (min s.length (50 - o.length) - 0) = s.take (50 - o.length) := by
    rw [List.drop_zero, Nat.sub_zero]
    rcases Nat.le_total s.length (50 - o.length) with h | h
    · rw [Nat.min_eq_left h, List.take_of_length_le (Nat.le_refl _), List.take_of_length_le h]
    · rw [Nat.min_eq_right h]
  rw [e2]
  have M4 : Hp aw0 own ro aw3 ((m, MB (Pt hb) (Sl fb 1) (Sl gb 8) (Sl bs (st.length + 2)) (Sl bf (fs.length + 1)) nil3 (fuel - 1) 50 10 ad bu mo) :: (Lb ++ ((bs, WB (st ++ [2 * j] ++ [2 * j2]) sj) :: (bf, FB (frC fs) f (pc + 1) base fj) :: HL hb mb ws qu l))) := M3.perm (by
    classical exact List.perm_iff_count.2 fun a => by simp only [List.count_cons, List.count_append, HL]; omega)
  refine write_x had hO (by rw [List.length_take]; omega) M4 fun bu' Lb' aw4 v hO' M5 => num_x _ ?_
  rw [Wn_nat]
  have M6 : Hp aw0 own ro aw4 ((m, MB (Pt hb) (Sl fb 1) (Sl gb 8) (Sl bs (st ++ [2 * j] ++ [2 * j2]).length) (Sl bf (fs.length + 1)) nil3 (fuel - 1) 50 10 (.pointer (some ⟨m, 9, none⟩)) bu' mo) :: (bs, WB (st ++ [2 * j] ++ [2 * j2]) sj) :: ((bf, FB (frC fs) f (pc + 1) base fj) :: (Lb' ++ HL hb mb ws qu l))) := by
    rw [hl2]
    exact M5.perm (by
      classical exact List.perm_iff_count.2 fun a => by simp only [List.count_cons, List.count_append, HL]; omega)
  refine push_x M6 (by omega) fun bs2 aw5 M7 => ?_
  rw [show (st ++ [2 * j] ++ [2 * j2] ++ [WN 0]).length = st.length + 3 by simp] at M7
  refine ⟨bs2, WN 0, Lb' ++ HL hb mb ws qu l, _, _, _, _, _, _, _, _, _, _, M7, fun aw6 jj M8 => hK bu' Lb' aw6 hO' ⟨bs2, bf, jj, fj, ?_⟩⟩
  rw [FRB_snoc, show (fs ++ [(f, pc + 1, base)]).length = fs.length + 1 by simp]
  exact M8
theorem mm_move {tn : Bool} (H : MM aw0 own ro (MO m hb fb gb ad bu mo) (st ++ [2 * j] ++ [WN N]) (fs ++ [(f, pc, base)]) fuel (Lm ++ HL hb mb ws qu l) aw) (hI : InsAt ro (Lm ++ HL hb mb ws qu l) (Sl fb 1) f pc 7 n a t) (hS : At (Lm ++ HL hb mb ws qu l) b1 (SB m)) (hfl : fs.length < 2 ^ 39) (hst : st.length < 2 ^ 38)
    (h0 : 0 < fuel) (h1 : fuel < 2 ^ 60) (hj : ws[j]? = some (256 + 6)) (hy : ws[j + 1]? = some (WN (if tn then 7 else 2))) (hws : ws.length < 2 ^ 50) (hO : MovB mo ms Lm) (hml : ms.length ≤ 10)
    (hE : ms.length = 10 → ∀ st' fs' aw', MM aw0 own ro (MO m hb fb gb ad bu mo) st' fs' (fuel - 1) (Lm ++ HL hb mb ws qu l) aw' → DK35 Q E (Pt b1) (Pt b2) (Pt b3) (.panic (raise ⟨#[109, 111, 118, 101, 115]⟩)) aw')
    (hK : ms.length < 10 → ∀ mo' Lm' aw', MovB mo' (ms ++ [(tn, Nw ((WN N : Nat) : Int))]) Lm' → MM aw0 own ro (MO m hb fb gb ad bu mo') (st ++ [WN 0]) (fs ++ [(f, pc + 1, base)]) (fuel - 1) (Lm' ++ HL hb mb ws qu l) aw' → S35_1 Q E k (Pt b1) (Pt b2) (Pt b3) aw') : S35_1 Q E (k + 1) (Pt b1) (Pt b2) (Pt b3) aw := by
  refine mm_fetch H hI hS (by omega) fun ib bs bf sj fj aw1 M => ?_
  have hl2 : (st ++ [2 * j] ++ [WN N]).length = st.length + 2 := by simp
  simp only [MCB] at M
  rw [hl2] at M
  obtain ⟨q, c, hv⟩ := hO.val
  have hslen : ∀ K : Int → Prop, K (ms.length : Int) → slen mo K := fun K h => by rw [hv]; exact slen_x h
  have hmo1 : one mo = true := by rw [hv]; rfl
  have key : ∀ (i : Nat) (T : Bool), ((i : Int) = 7 ↔ T = true) → (i = 2 ∨ i = 7) → T = tn → ∀ aw2, Hp aw0 own ro aw2 ((m, MB (Pt hb) (Sl fb 1) (Sl gb 8) (Sl bs (st.length + 2)) (Sl bf (fs.length + 1)) nil3 (fuel - 1) 50 10 ad bu mo) :: (bs, WB (st ++ [2 * j] ++ [WN N]) sj) :: (bf, FB (frC fs) f (pc + 1) base fj) :: (Lm ++ HL hb mb ws qu l)) →
      CallP prog 82 [Pt m, .int .i64 (i : Int), .int .u64 ((WN N : Nat) : Int)] aw2 sh82 (fun _ aw2 => ∃ bs2 y l2 fu2 gl2 tr2 hb2 sp2 ms2 ad2 bu2 mo2 fl2, Hp aw0 own ro aw2 ((m, MB hb2 fu2 gl2 (Sl bs2 (st.length + 3)) (Sl bf (fs.length + 1)) tr2 fl2 sp2 ms2 ad2 bu2 mo2) :: (bs2, WB (st ++ [2 * j] ++ [WN N] ++ [y]) []) :: (bf, FB (frC fs) f (pc + 1) base fj) :: l2) ∧
      ∀ aw3 jj, Hp aw0 own ro aw3 ((m, MB hb2 fu2 gl2 (Sl bs2 (st ++ [y]).length) (Sl bf (fs.length + 1)) tr2 fl2 sp2 ms2 ad2 bu2 mo2) :: (bf, FB (frC fs) f (pc + 1) base fj) :: (bs2, WB (st ++ [y]) jj) :: l2) → S35_1 Q E k (Pt b1) (Pt b2) (Pt b3) aw3) (fun ch aw => DK35 Q E (Pt b1) (Pt b2) (Pt b3) (.panic ch) aw) := by
    intro i T hiT hi hTn aw2 M2
    have body : S82_1 (fun _ aw2 => ∃ bs2 y l2 fu2 gl2 tr2 hb2 sp2 ms2 ad2 bu2 mo2 fl2, Hp aw0 own ro aw2 ((m, MB hb2 fu2 gl2 (Sl bs2 (st.length + 3)) (Sl bf (fs.length + 1)) tr2 fl2 sp2 ms2 ad2 bu2 mo2) :: (bs2, WB (st ++ [2 * j] ++ [WN N] ++ [y]) []) :: (bf, FB (frC fs) f (pc + 1) base fj) :: l2) ∧
      ∀ aw3 jj, Hp aw0 own ro aw3 ((m, MB hb2 fu2 gl2 (Sl bs2 (st ++ [y]).length) (Sl bf (fs.length + 1)) tr2 fl2 sp2 ms2 ad2 bu2 mo2) :: (bf, FB (frC fs) f (pc + 1) base fj) :: (bs2, WB (st ++ [y]) jj) :: l2) → S35_1 Q E k (Pt b1) (Pt b2) (Pt b3) aw3) (fun ch aw => DK35 Q E (Pt b1) (Pt b2) (Pt b3) (.panic ch) aw) (Pt m) (i : Int) ((WN N : Nat) : Int) (i : Int) true aw2 := by
      unfold S82_1
      refine cnd_1x rfl (nck_x (fldA_x (ldV_x (M2.im .here) (by repeat constructor) (hslen _ (nck_x (fldA_x (ldI_x (M2.im .here) (by repeat constructor) ?_)))))))
      by_cases h10 : ms.length = 10
      · refine cnd_1x (decide_eq_true (by omega)) (hE h10 (st ++ [2 * j] ++ [WN N]) (fs ++ [(f, pc + 1, base)]) aw2 ⟨bs, bf, sj, fj, ?_⟩)
        rw [FRB_snoc, show (fs ++ [(f, pc + 1, base)]).length = fs.length + 1 by simp, hl2]
        exact M2.perm (by
          classical exact List.perm_iff_count.2 fun a => by simp only [List.count_cons, List.count_append, MCB]; omega)
      · refine cnd_0x (decide_eq_false (by omega)) (nck_x (fldA_x (ldV_x (M2.im .here) (by repeat constructor) (n_x _ (again_x (M2.im .here) (by repeat constructor) ?_)))))
        refine alcS_x M2 fun pb aw3 M3 => again_x (M3.im (.there .here)) (by repeat constructor) ?_
        have M4 : Hp aw0 own ro aw3 (Lm ++ ((pb, ⟨[.bool (decide ((i : Int) = 7)), .int .i64 (Nw ((WN N : Nat) : Int))], 48, 2, true, 0⟩) :: (m, MB (Pt hb) (Sl fb 1) (Sl gb 8) (Sl bs (st.length + 2)) (Sl bf (fs.length + 1)) nil3 (fuel - 1) 50 10 ad bu mo) :: (bs, WB (st ++ [2 * j] ++ [WN N]) sj) :: (bf, FB (frC fs) f (pc + 1) base fj) :: HL hb mb ws qu l)) := M3.perm (by
          classical exact List.perm_iff_count.2 fun a => by simp only [List.count_cons, List.count_append, HL]; omega)
        refine app_p hO M4 (src_s (M3.im .here) rfl (.take (.take .nil))) (by decide) rfl (by omega) fun b aw4 M5 => ?_
        have ed : decide ((i : Int) = 7) = tn := by
          rw [← hTn]
          cases T with
          | true => exact decide_eq_true (hiT.2 rfl)
          | false => exact decide_eq_false fun h => by have := hiT.1 h; cases this
        rw [List.take_of_length_le (by rw [mvC_len]; omega), ed] at M5
        refine nck_x (fldA_x (st_x M5 (.there (.there .here)) (by repeat constructor) rfl rfl rfl fun aw5 M6 => num_x _ ?_))
        rw [Wn_nat]
        have M7 : Hp aw0 own ro aw5 ((m, MB (Pt hb) (Sl fb 1) (Sl gb 8) (Sl bs (st ++ [2 * j] ++ [WN N]).length) (Sl bf (fs.length + 1)) nil3 (fuel - 1) 50 10 ad bu (.slice (some ⟨b, 0, none⟩) (ms.length + 1) UNK)) :: (bs, WB (st ++ [2 * j] ++ [WN N]) sj) :: ((bf, FB (frC fs) f (pc + 1) base fj) :: ([(b, ⟨mvC ms ++ [.bool tn, .int .i64 (Nw ((WN N : Nat) : Int))], 48, 2, true, 0⟩)] ++ HL hb mb ws qu l))) := by
          rw [hl2]
          have M6' : Hp aw0 own ro aw5 ((b, ⟨mvC ms ++ [.bool tn, .int .i64 (Nw ((WN N : Nat) : Int))], 48, 2, true, 0⟩) :: (m, MB (Pt hb) (Sl fb 1) (Sl gb 8) (Sl bs (st.length + 2)) (Sl bf (fs.length + 1)) nil3 (fuel - 1) 50 10 ad bu (.slice (some ⟨b, 0, none⟩) (ms.length + 1) UNK)) :: (bs, WB (st ++ [2 * j] ++ [WN N]) sj) :: (bf, FB (frC fs) f (pc + 1) base fj) :: HL hb mb ws qu l) := M6.drop (.there .here)
          exact M6'.perm (by
            classical exact List.perm_iff_count.2 fun a => by simp only [List.count_cons, List.count_append, List.count_nil, HL]; omega)
        refine push_x M7 (by omega) fun bs2 aw6 M8 => ?_
        rw [show (st ++ [2 * j] ++ [WN N] ++ [WN 0]).length = st.length + 3 by simp] at M8
        have hO' : MovB (.slice (some ⟨b, 0, none⟩) (ms.length + 1) UNK) (ms ++ [(tn, Nw ((WN N : Nat) : Int))]) [(b, ⟨mvC ms ++ [.bool tn, .int .i64 (Nw ((WN N : Nat) : Int))], 48, 2, true, 0⟩)] := by
          have e : mvC ms ++ [.bool tn, .int .i64 (Nw ((WN N : Nat) : Int))] = mvC (ms ++ [(tn, Nw ((WN N : Nat) : Int))]) := by rw [mvC_app]; rfl
          show SlP 48 2 _ (ms ++ [(tn, Nw ((WN N : Nat) : Int))]).length _ _
          rw [e, show ms.length + 1 = (ms ++ [(tn, Nw ((WN N : Nat) : Int))]).length by simp]
          exact .some (by rw [mvC_len]; exact Nat.le_refl _)
        refine ⟨bs2, WN 0, [(b, ⟨mvC ms ++ [.bool tn, .int .i64 (Nw ((WN N : Nat) : Int))], 48, 2, true, 0⟩)] ++ HL hb mb ws qu l, _, _, _, _, _, _, _, _, _, _, M8, fun aw7 jj M9 => hK (by omega) _ _ aw7 hO' ⟨bs2, bf, jj, fj, ?_⟩⟩
        rw [FRB_snoc, show (fs ++ [(f, pc + 1, base)]).length = fs.length + 1 by simp]
        exact M9
    refine F82_ok _ _ _ aw2 ?_
    unfold S82_0
    rcases hi with rfl | rfl
    · refine cnd_0x rfl (cnd_0x rfl (cnd_1x rfl ?_))
      exact body
    · refine cnd_0x rfl (cnd_0x rfl (cnd_0x rfl ?_))
      exact body
  cases tn with
  | true => exact ins_prim (i := 7) (hb := hb) (mb := mb) M hst h0 h1 (At.app .here) (At.app (.there .here)) hws hj hy (by decide) (fun aw2 M2 => key 7 true (by simp) (.inr rfl) rfl aw2 M2)
  | false => exact ins_prim (i := 2) (hb := hb) (mb := mb) M hst h0 h1 (At.app .here) (At.app (.there .here)) hws hj hy (by decide) (fun aw2 M2 => key 2 false (by simp) (.inl rfl) rfl aw2 M2)
end
end Go.Proofs.Tryd
set_option linter.unusedVariables false
set_option linter.unusedSimpArgs false
set_option linter.unusedSectionVars false
set_option maxRecDepth 1000000
namespace Go.Proofs.YtfoceofohlpafaaDoor
open Go Go.Am Go.RowKit Go.Ri Go.Proofs.Tryd
abbrev e0 : Value := .string (⟨#[]⟩ : ByteArray)
abbrev stepC (s g n : Value) : List Value := [.int .u8 5, .int .i64 4, .int .i64 0, e0, .int .u8 1, .int .i64 0, .int .i64 0, s, .int .u8 7, .int .i64 0, .int .i64 0, e0, .int .u8 19, .int .i64 0, .int .i64 0, e0,
  .int .u8 5, g, .int .i64 0, e0, .int .u8 0, n, .int .i64 0, e0, .int .u8 7, .int .i64 0, .int .i64 0, e0, .int .u8 19, .int .i64 0, .int .i64 0, e0]
abbrev lastC : List Value := [.int .u8 0, .int .i64 0, .int .i64 0, e0, .int .u8 8, .int .i64 0, .int .i64 0, e0]
def mcS : Nat → List Value
  | 0 => []
  | t + 1 => mcS t ++ stepC (.map (some 0)) (.map (some (1 + 2 * t))) (.map (some (2 + 2 * t)))
noncomputable def FM : Facts := { bins := (List.range 14).flatMap fun t => [(.geq, .map (some (1 + 2 * t)), .int .i64 0, .bool true), (.lss, .map (some (1 + 2 * t)), .int .i64 8, .bool true)] }
noncomputable def chkRun (t1 t2 : TypeId) (n : Nat) : Bool := retW (@callN (ftOf FM) Tryd.prog X0 tab 2000 60 21 [.slice (some ⟨6, 0, none⟩) 1 UNK, .int .i64 ((8 : Nat) : Int)] (memR 8 (GR t1 t2 ++ [(6, [.int .i64 0, .slice (some ⟨7, 0, none⟩) (8 * n + 2) UNK], 43, 2), (7, mcS n ++ lastC, 34, 4)])))
end Go.Proofs.YtfoceofohlpafaaDoor
