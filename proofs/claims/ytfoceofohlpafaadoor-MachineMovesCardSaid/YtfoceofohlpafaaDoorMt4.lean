/- machine: instructions of texts. -/
import Derived.Test.YtfoceofohlpafaaDoorMt1
set_option linter.unusedVariables false
set_option linter.unusedSimpArgs false
set_option linter.unusedSectionVars false
namespace Go.Proofs.Tryd
open Go Go.Am Go.RowKit
variable [SymE]
set_option maxHeartbeats 1000000
abbrev HL (hb mb : Nat) (ws : List Nat) (qu : Nat) (l : List (Nat × Blk)) : List (Nat × Blk) := (hb, HB (Sl mb ws.length) (qu : Int) 0) :: (mb, WB ws []) :: l
theorem slP_W {mb : Nat} {ws : List Nat} : SlP 26 1 (Sl mb ws.length) ws.length (ws.map W ++ []) [(mb, WB ws [])] := .some (by simp)
section
variable {aw0 aw : AW} {own : List Nat} {ro l : List (Nat × Blk)} {X : MC} {m bs bf ib f pc base w i j j2 mb op b1 b2 b3 k qu : Nat} {fuel : Int} {st ws : List Nat} {fs : List Fr} {E : List PanicEntry → AW → Prop} {Q : (Bool × Int × Int × ByteArray × ByteArray × Value × Int) → AW → Prop} {n a : Int} {s t : ByteArray}
theorem mm_text (H : MM aw0 own ro X st (fs ++ [(f, pc, base)]) fuel (HL X.hb mb ws qu l) aw) (hI : InsAt ro (HL X.hb mb ws qu l) X.fu f pc 1 n a s) (hS : At (HL X.hb mb ws qu l) b1 (SB X.m)) (hfl : fs.length < 2 ^ 39) (hst : st.length < 2 ^ 39)
    (hs : s.size ≤ 4096) (hq : qu < 2 ^ 30) (hroom : ws.length + (1 + (s.size + 7) / 8) ≤ qu)
    (hK : ∀ mb' aw', MM aw0 own ro X (st ++ [2 * ws.length]) (fs ++ [(f, pc + 1, base)]) fuel (HL X.hb mb' (ws ++ txt s) qu l) aw' → S35_1 Q E k (Pt b1) (Pt b2) (Pt b3) aw') : S35_1 Q E (k + 1) (Pt b1) (Pt b2) (Pt b3) aw := by
  refine mm_fetch H hI hS (by omega) fun ib bs bf sj fj aw1 M => ?_
  unfold S58_1
  refine cnd_0x rfl (cnd_1x rfl (fldA_x (ldS_x (M.im .here) (by repeat constructor) ?_)))
  have M1 : Hp aw0 own ro aw1 ((X.m, MB (Pt X.hb) X.fu X.gl (Sl bs st.length) (Sl bf (fs.length + 1)) X.tr fuel X.space X.most X.ad X.bu X.mo) :: (bs, WB st sj) :: (X.hb, HB (Sl mb ws.length) (qu : Int) 0) :: ([(mb, WB ws [])] ++ ((bf, FB (frC fs) f (pc + 1) base fj) :: l))) := (M.drop .here).perm (by
    classical exact List.perm_iff_count.2 fun a => by simp only [List.count_cons, List.count_append, List.count_nil, MCB]; omega)
  refine text_x slP_W hst hs hq hroom M1 fun bs' mb' aw2 M2 => hK mb' aw2 ⟨bs', bf, [], fj, ?_⟩
  rw [FRB_snoc, show (fs ++ [(f, pc + 1, base)]).length = fs.length + 1 by simp]
  exact M2.perm (by classical exact List.perm_iff_count.2 fun a => by simp only [List.count_cons, List.count_append, List.count_nil, MCB]; omega)
end
end Go.Proofs.Tryd
set_option linter.unusedVariables false
set_option linter.unusedSimpArgs false
set_option linter.unusedSectionVars false
namespace Go.Proofs.Tryd
open Go Go.Am Go.RowKit
variable [SymE]
set_option maxHeartbeats 1000000
section
variable {aw0 aw : AW} {own : List Nat} {ro l : List (Nat × Blk)} {X : MC} {m bs bf ib f pc base w i j j2 mb op b1 b2 b3 k qu hb : Nat} {fuel space most : Int} {st ws : List Nat} {fs : List Fr} {E : List PanicEntry → AW → Prop} {n a : Int} {s t : ByteArray} {h fu gl sk fr tr ad bu mo : Value}
end
end Go.Proofs.Tryd
set_option linter.unusedVariables false
set_option linter.unusedSimpArgs false
set_option linter.unusedSectionVars false
namespace Go.Proofs.Tryd
open Go Go.Am Go.RowKit
variable [SymE]
set_option maxHeartbeats 1000000
section
variable {aw0 aw : AW} {own : List Nat} {ro l : List (Nat × Blk)} {X : MC} {m bs bf ib f pc base w i j j2 mb op b1 b2 b3 k qu hb : Nat} {fuel space most : Int} {st ws : List Nat} {fs : List Fr} {E : List PanicEntry → AW → Prop} {n a : Int} {s t : ByteArray} {h fu gl sk fr tr ad bu mo : Value} {Q : (Bool × Int × Int × ByteArray × ByteArray × Value × Int) → AW → Prop}
theorem ins_prim {x i : Nat} {bf : Nat} {BF : Blk} {sj : List Value} {Q : Unit → AW → Prop} {sk1 : Value} (M : Hp aw0 own ro aw ((ib, IB 7 n a s) :: (m, MB (Pt hb) fu gl (Sl bs (st.length + 2)) fr tr fuel space most ad bu mo) :: (bf, BF) :: (bs, WB (st ++ [2 * j] ++ [x]) sj) :: l)) (hst : st.length < 2 ^ 38)
    (h0 : 0 < fuel) (h1 : fuel < 2 ^ 60) (hH : At l hb (HB (Sl mb ws.length) (qu : Int) 0)) (hM : At l mb (WB ws [])) (hws : ws.length < 2 ^ 50)
    (hj : ws[j]? = some (256 + 6)) (hy : ws[j + 1]? = some (WN (i : Int))) (hi : i < 8)
    (hP : ∀ aw', Hp aw0 own ro aw' ((m, MB (Pt hb) fu gl (Sl bs (st.length + 2)) fr tr (fuel - 1) space most ad bu mo) :: (bs, WB (st ++ [2 * j] ++ [x]) sj) :: (bf, BF) :: l) → CallP prog 82 [Pt m, .int .i64 (i : Int), .int .u64 (x : Int)] aw' sh82 (fun _ aw2 => ∃ bs2 y l2 fu2 gl2 tr2 hb2 sp2 ms2 ad2 bu2 mo2 fl2, Hp aw0 own ro aw2 ((m, MB hb2 fu2 gl2 (Sl bs2 (st.length + 3)) fr tr2 fl2 sp2 ms2 ad2 bu2 mo2) :: (bs2, WB (st ++ [2 * j] ++ [x] ++ [y]) []) :: (bf, BF) :: l2) ∧
      ∀ aw3 jj, Hp aw0 own ro aw3 ((m, MB hb2 fu2 gl2 (Sl bs2 (st ++ [y]).length) fr tr2 fl2 sp2 ms2 ad2 bu2 mo2) :: (bf, BF) :: (bs2, WB (st ++ [y]) jj) :: l2) → Q () aw3) E) : S58_1 Q E (Pt m) sk1 (Pt ib) 7 aw := by
  unfold S58_1
  iterate 7 (first | refine cnd_0x rfl ?_)
  refine cnd_1x rfl ?_
  refine F72_ok _ aw ?_
  unfold S72_0
  have M1 := M.drop .here
  have ga : (st ++ [2 * j] ++ [x])[st.length]? = some (2 * j) := by rw [List.getElem?_append_left (by simp), List.getElem?_append_right (by simp)]; simp
  have gb : (st ++ [2 * j] ++ [x])[st.length + 1]? = some x := by rw [List.getElem?_append_right (by simp)]; simp
  have e1 : IntKind.i64.wrap (((st.length + 2 : Nat) : Int) - 1) = ((st.length + 1 : Nat) : Int) := by rw [show ((st.length + 2 : Nat) : Int) - 1 = ((st.length + 1 : Nat) : Int) by omega, i64_nat (by omega)]
  have e2 : IntKind.i64.wrap (((st.length + 2 : Nat) : Int) - 2) = ((st.length : Nat) : Int) := by rw [show ((st.length + 2 : Nat) : Int) - 2 = ((st.length : Nat) : Int) by omega, i64_nat (by omega)]
  refine step_x M1 h0 h1 fun aw1 M => ?_
  refine nck_x (fldA_x (ldV_x (M.im .here) (by repeat constructor) (slen_x (nck_x (fldA_x (ldV_x (M.im .here) (by repeat constructor) ?_))))))
  rw [e2]
  refine ixS_x (by omega) (by omega) (ldI_x (M.im (.there (.there .here))) (cellW ga) ?_)
  have iH := M.im (.there (.there (.there hH)))
  have iM := M.im (.there (.there (.there hM)))
  refine nck_x (fldA_x (ldV_x (M.im .here) (by repeat constructor) (kind_x iH iM (by omega) rfl hj (cnd_0x rfl (cnd_1x rfl ?_)))))
  refine mpart_x (i := 0) iH iM (M.im .here) (by omega) hj (by decide) (by decide) (by decide) hy (n_x _ ?_)
  rw [Nw_WN (by omega) (by omega)]
  refine nck_x (fldA_x (ldV_x (M.im .here) (by repeat constructor) ?_))
  rw [e1]
  refine ixS_x (by omega) (by omega) (ldI_x (M.im (.there (.there .here))) (cellW gb) ?_)
  have M2 := M.front (.there (.there .here)) |>.front (.there .here)
  refine CallP.mono (hP aw1 M2) (fun r aw2 h => ?_) (fun ch aw2 h => h)
  obtain ⟨bs2, y, l2, fu2, gl2, tr2, hb2, sp2, ms2, ad2, bu2, mo2, fl2, M3, hK⟩ := h
  have hl3 : st.length + 3 = (st ++ [2 * j] ++ [x]).length + 1 := by simp
  rw [hl3] at M3
  refine pop_x M3 (by simp; omega) fun aw3 M4 => ?_
  have hl2 : (st ++ [2 * j] ++ [x]).length = st.length + 2 := by simp
  rw [hl2] at M4
  refine nck_x (fldA_x (ldV_x (M4.im .here) (by repeat constructor) ?_))
  refine ixS_x (by omega) (by omega) ?_
  have e3 : WB (st ++ [2 * j] ++ [x]) [W y] = ⟨st.map W ++ W (2 * j) :: [W x, W y], 26, 1, true, 0⟩ := by simp [WB]
  rw [e3] at M4
  rw [show 0 + ((st.length : Nat) : Int).toNat * 1 = (st.map W).length by simp]
  refine st_x M4 (.there .here) put_at rfl rfl rfl fun aw4 M5 => ?_
  refine nck_x (fldA_x (ldV_x (M5.im .here) (by repeat constructor) ?_))
  refine cutV_x (a := 0) rfl rfl (Nat.zero_le _) (by omega) (M5.im (.there .here)) rfl ?_
  refine nck_x (fldA_x (st_x M5 .here (by repeat constructor) rfl rfl rfl fun aw5 M6 => hK aw5 [W x, W y] ?_))
  have e4 : WB (st ++ [y]) [W x, W y] = ⟨st.map W ++ W y :: [W x, W y], 26, 1, true, 0⟩ := by simp [WB]
  rw [e4, show (st ++ [y]).length = st.length + 1 by simp]
  exact M6.front (.there (.there .here)) |>.front (.there .here)
end
end Go.Proofs.Tryd
set_option linter.unusedVariables false
set_option linter.unusedSimpArgs false
set_option linter.unusedSectionVars false
namespace Go.Proofs.Tryd
open Go Go.Am Go.RowKit
variable [SymE]
set_option maxHeartbeats 1000000
section
variable {aw0 aw : AW} {own : List Nat} {ro l : List (Nat × Blk)} {X : MC} {m bs bf ib f pc base w i j j2 mb op b1 b2 b3 k qu hb : Nat} {fuel space most : Int} {st ws : List Nat} {fs : List Fr} {E : List PanicEntry → AW → Prop} {n a : Int} {s t : ByteArray} {h fu gl sk fr tr ad bu mo : Value} {Q : (Bool × Int × Int × ByteArray × ByteArray × Value × Int) → AW → Prop}
end
end Go.Proofs.Tryd
