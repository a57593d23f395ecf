/- machine: instructions of texts. -/
import Derived.Test.YtfoceofohlpafaaDoorMt3
set_option linter.unusedVariables false
set_option linter.unusedSimpArgs false
set_option linter.unusedSectionVars false
namespace Go.Proofs.Tryd
open Go Go.Am Go.RowKit
variable [SymE]
set_option maxHeartbeats 1000000
abbrev HL (hb mb : Nat) (ws : List Nat) (qu : Nat) (l : List (Nat × Blk)) : List (Nat × Blk) := (hb, HB (Sl mb ws.length) (qu : Int) 0) :: (mb, WB ws []) :: l
theorem slP_W {mb : Nat} {ws : List Nat} : SlP 26 1 (Sl mb ws.length) ws.length (ws.map W ++ []) [(mb, WB ws [])] := .some (by simp)
section
variable {aw0 aw : AW} {own : List Nat} {ro l : List (Nat × Blk)} {X : MC} {m bs bf ib f pc base w i j j2 mb op b1 b2 b3 k qu : Nat} {fuel : Int} {st ws : List Nat} {fs : List Fr} {E : List PanicEntry → AW → Prop} {Q : (Bool × Int × Int × ByteArray × ByteArray × Value × Int) → AW → Prop} {n a : Int} {s t : ByteArray}
end
end Go.Proofs.Tryd
set_option linter.unusedVariables false
set_option linter.unusedSimpArgs false
set_option linter.unusedSectionVars false
namespace Go.Proofs.Tryd
open Go Go.Am Go.RowKit
variable [SymE]
set_option maxHeartbeats 1000000
section
variable {aw0 aw : AW} {own : List Nat} {ro l : List (Nat × Blk)} {X : MC} {m bs bf ib f pc base w i j j2 mb op b1 b2 b3 k qu hb : Nat} {fuel space most : Int} {st ws : List Nat} {fs : List Fr} {E : List PanicEntry → AW → Prop} {n a : Int} {s t : ByteArray} {h fu gl sk fr tr ad bu mo : Value}
end
end Go.Proofs.Tryd
set_option linter.unusedVariables false
set_option linter.unusedSimpArgs false
set_option linter.unusedSectionVars false
namespace Go.Proofs.Tryd
open Go Go.Am Go.RowKit
variable [SymE]
set_option maxHeartbeats 1000000
section
variable {aw0 aw : AW} {own : List Nat} {ro l : List (Nat × Blk)} {X : MC} {m bs bf ib f pc base w i j j2 mb op b1 b2 b3 k qu hb : Nat} {fuel space most : Int} {st ws : List Nat} {fs : List Fr} {E : List PanicEntry → AW → Prop} {n a : Int} {s t : ByteArray} {h fu gl sk fr tr ad bu mo : Value} {Q : (Bool × Int × Int × ByteArray × ByteArray × Value × Int) → AW → Prop}
end
end Go.Proofs.Tryd
set_option linter.unusedVariables false
set_option linter.unusedSimpArgs false
set_option linter.unusedSectionVars false
namespace Go.Proofs.Tryd
open Go Go.Am Go.RowKit
variable [SymE]
set_option maxHeartbeats 1000000
section
variable {aw0 aw : AW} {own : List Nat} {ro l : List (Nat × Blk)} {X : MC} {m bs bf ib f pc base w i j j2 mb op b1 b2 b3 k qu hb : Nat} {fuel space most : Int} {st ws : List Nat} {fs : List Fr} {E : List PanicEntry → AW → Prop} {n a : Int} {s t : ByteArray} {h fu gl sk fr tr ad bu mo : Value} {Q : (Bool × Int × Int × ByteArray × ByteArray × Value × Int) → AW → Prop}
theorem mm_fail {l : List (Nat × Blk)} (H : MM aw0 own ro X st (fs ++ [(f, pc, base)]) fuel l aw) (hI : InsAt ro l X.fu f pc 26 n a s) (hS : At l b1 (SB X.m)) (hfl : fs.length < 2 ^ 39)
    (hK : ∀ aw', MM aw0 own ro X st (fs ++ [(f, pc + 1, base)]) fuel l aw' → DK35 Q E (Pt b1) (Pt b2) (Pt b3) (.panic (raise s)) aw') : S35_1 Q E (k + 1) (Pt b1) (Pt b2) (Pt b3) aw := by
  refine mm_fetch H hI hS (by omega) fun ib bs bf sj fj aw1 M => ?_
  unfold S58_1
  iterate 21 (first | refine cnd_0x rfl ?_)
  refine cnd_1x rfl (fldA_x (ldS_x (M.im .here) (by repeat constructor) (hK aw1 ⟨bs, bf, sj, fj, ?_⟩)))
  rw [FRB_snoc, show (fs ++ [(f, pc + 1, base)]).length = fs.length + 1 by simp]
  exact M.drop .here
theorem mm_try {l : List (Nat × Blk)} (H : MM aw0 own ro X st (fs ++ [(f, pc, base)]) fuel l aw) (hI : InsAt ro l X.fu f pc 24 (i : Int) a s) (hS : At l b1 (SB X.m)) (hfl : fs.length < 2 ^ 39) (htr : X.tr = nil3)
    (hK : ∀ tb aw', MM aw0 own ro { X with tr := Sl tb 1 } st (fs ++ [(f, pc + 1, base)]) fuel ((tb, ⟨[.int .i64 ((fs.length + 1 : Nat) : Int), .int .i64 (st.length : Int), .int .i64 (i : Int)], 132, 3, true, 0⟩) :: l) aw' → S35_1 Q E k (Pt b1) (Pt b2) (Pt b3) aw') : S35_1 Q E (k + 1) (Pt b1) (Pt b2) (Pt b3) aw := by
  refine mm_fetch H hI hS (by omega) fun ib bs bf sj fj aw1 M => ?_
  unfold S58_1
  iterate 19 (first | refine cnd_0x rfl ?_)
  simp only [MCB] at M
  rw [htr] at M
  refine cnd_1x rfl (nck_x (fldA_x (ldV_x (M.im (.there .here)) (by repeat constructor) ?_)))
  refine nck_x (fldA_x (ldV_x (M.im (.there .here)) (by repeat constructor) (slen_x (nck_x (fldA_x (ldV_x (M.im (.there .here)) (by repeat constructor) (slen_x (fldA_x (ldI_x (M.im .here) (by repeat constructor) ?_)))))))))
  refine alcS_x M fun b aw2 M2 => again_x (M2.im (.there (.there .here))) (by repeat constructor) ?_
  refine app_nil M2 (src_s (M2.im .here) rfl (.take (.take (.take .nil)))) (by omega) (by omega) fun tb aw3 M3 => ?_
  refine nck_x (fldA_x (st_x M3 (.there (.there (.there .here))) (by repeat constructor) rfl rfl rfl fun aw4 M4 => hK tb aw4 ⟨bs, bf, sj, fj, ?_⟩))
  rw [FRB_snoc, show (fs ++ [(f, pc + 1, base)]).length = fs.length + 1 by simp]
  have M5 : Hp aw0 own ro aw4 ((tb, ⟨[.int .i64 ((fs.length + 1 : Nat) : Int), .int .i64 (st.length : Int), .int .i64 (i : Int)], 132, 3, true, 0⟩) :: (X.m, MB (Pt X.hb) X.fu X.gl (Sl bs st.length) (Sl bf (fs.length + 1)) (Sl tb 1) fuel X.space X.most X.ad X.bu X.mo) :: (bf, FB (frC fs) f (pc + 1) base fj) :: (bs, WB st sj) :: l) := (M4.drop (.there .here)).drop (.there .here)
  exact M5.perm (by classical exact List.perm_iff_count.2 fun a => by simp only [List.count_cons, List.count_append, List.count_nil, MCB]; omega)
theorem mm_slide {l : List (Nat × Blk)} {st2 : List Nat} (H : MM aw0 own ro X (st ++ st2 ++ [w]) (fs ++ [(f, pc, base)]) fuel l aw) (hI : InsAt ro l X.fu f pc 18 (st2.length : Int) a s) (hS : At l b1 (SB X.m)) (hfl : fs.length < 2 ^ 39) (hst : st.length + st2.length < 2 ^ 38)
    (hK : ∀ aw', MM aw0 own ro X (st ++ [w]) (fs ++ [(f, pc + 1, base)]) fuel l aw' → S35_1 Q E k (Pt b1) (Pt b2) (Pt b3) aw') : S35_1 Q E (k + 1) (Pt b1) (Pt b2) (Pt b3) aw := by
  refine mm_fetch H hI hS (by omega) fun ib bs bf sj fj aw1 M => ?_
  unfold S58_1
  iterate 13 (first | refine cnd_0x rfl ?_)
  refine cnd_1x rfl ?_
  have M1 := (M.front (.there (.there (.there .here)))).front (.there (.there .here))
  rw [show (st ++ st2 ++ [w]).length = (st ++ st2).length + 1 by simp only [List.length_append, List.length_singleton]] at M1
  refine pop_x M1 (by simp; omega) fun aw2 M2 => ?_
  have e1 : IntKind.i64.wrap (((st ++ st2).length : Int) - (st2.length : Int)) = ((st.length : Nat) : Int) := by rw [show ((st ++ st2).length : Int) - (st2.length : Int) = ((st.length : Nat) : Int) by simp]; exact i64_nat (by omega)
  refine nck_x (fldA_x (ldV_x (M2.im .here) (by repeat constructor) (nck_x (fldA_x (ldV_x (M2.im .here) (by repeat constructor) (slen_x (fldA_x (ldI_x (M2.im (.there (.there .here))) (by repeat constructor) ?_))))))))
  rw [e1]
  refine cutV_x (a := 0) rfl rfl (Nat.zero_le _) (by simp) (M2.im (.there .here)) rfl ?_
  refine alcS_x M2 fun b aw3 M3 => ?_
  refine again_x (M3.im (.there .here)) (by repeat constructor) (again_x (M3.im (.there .here)) (by repeat constructor) (again_x (M3.im (.there (.there (.there .here)))) (by repeat constructor) ⟨cut_x (a := 0) rfl rfl (Nat.zero_le _) (by simp) (M3.im (.there (.there .here))) rfl, ?_⟩))
  refine app_mv M3 (.there (.there .here)) (by simp) (src_s (M3.im .here) rfl (.take .nil)) rfl (by omega) fun b2 aw4 M4 => ?_
  refine nck_x (fldA_x (st_x M4 (.there (.there .here)) (by repeat constructor) rfl rfl rfl fun aw5 M5 => hK aw5 ⟨b2, bf, [], fj, ?_⟩))
  have M6 := ((M5.drop (.there .here)).drop (.there (.there .here)))
  have e3 : ((st ++ st2).map W ++ W w :: sj).take ((st.length - 0) * 1) = st.map W := by
    rw [Nat.sub_zero, Nat.mul_one, List.map_append, List.append_assoc, List.take_append_of_le_length (by simp), List.take_of_length_le (by simp)]
  rw [e3] at M6
  rw [FRB_snoc, show (fs ++ [(f, pc + 1, base)]).length = fs.length + 1 by simp, show WB (st ++ [w]) [] = ⟨st.map W ++ [W w], 26, 1, true, 0⟩ by simp [WB], show (st ++ [w]).length = st.length - 0 + 1 by simp]
  have M7 : Hp aw0 own ro aw5 ((b2, ⟨st.map W ++ [W w], 26, 1, true, 0⟩) :: (X.m, MB (Pt X.hb) X.fu X.gl (Sl b2 (st.length - 0 + 1)) (Sl bf (fs.length + 1)) X.tr fuel X.space X.most X.ad X.bu X.mo) :: (bf, FB (frC fs) f (pc + 1) base fj) :: l) := M6
  exact M7.perm (by classical exact List.perm_iff_count.2 fun a => by simp only [List.count_cons, List.count_append, List.count_nil, MCB]; omega)
end
end Go.Proofs.Tryd
