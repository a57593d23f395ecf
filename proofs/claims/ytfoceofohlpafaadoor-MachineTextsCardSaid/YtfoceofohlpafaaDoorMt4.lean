/- machine: instructions of texts. -/
import Derived.Test.YtfoceofohlpafaaDoorMt3
set_option linter.unusedVariables false
set_option linter.unusedSimpArgs false
set_option linter.unusedSectionVars false
namespace Go.Proofs.Tryd
open Go Go.Am Go.RowKit
variable [SymE]
set_option maxHeartbeats 1000000
abbrev HL (hb mb : Nat) (ws : List Nat) (qu : Nat) (l : List (Nat × Blk)) : List (Nat × Blk) := (hb, HB (Sl mb ws.length) (qu : Int) 0) :: (mb, WB ws []) :: l
theorem slP_W {mb : Nat} {ws : List Nat} : SlP 26 1 (Sl mb ws.length) ws.length (ws.map W ++ []) [(mb, WB ws [])] := .some (by simp)
section
variable {aw0 aw : AW} {own : List Nat} {ro l : List (Nat × Blk)} {X : MC} {m bs bf ib f pc base w i j j2 mb op b1 b2 b3 k qu : Nat} {fuel : Int} {st ws : List Nat} {fs : List Fr} {E : List PanicEntry → AW → Prop} {Q : (Bool × Int × Int × ByteArray × ByteArray × Value × Int) → AW → Prop} {n a : Int} {s t : ByteArray}
theorem mm_text (H : MM aw0 own ro X st (fs ++ [(f, pc, base)]) fuel (HL X.hb mb ws qu l) aw) (hI : InsAt ro (HL X.hb mb ws qu l) X.fu f pc 1 n a s) (hS : At (HL X.hb mb ws qu l) b1 (SB X.m)) (hfl : fs.length < 2 ^ 39) (hst : st.length < 2 ^ 39)
    (hs : s.size ≤ 4096) (hq : qu < 2 ^ 30) (hroom : ws.length + (1 + (s.size + 7) / 8) ≤ qu)
    (hK : ∀ mb' aw', MM aw0 own ro X (st ++ [2 * ws.length]) (fs ++ [(f, pc + 1, base)]) fuel (HL X.hb mb' (ws ++ txt s) qu l) aw' → S35_1 Q E k (Pt b1) (Pt b2) (Pt b3) aw') : S35_1 Q E (k + 1) (Pt b1) (Pt b2) (Pt b3) aw := by
  refine mm_fetch H hI hS (by omega) fun ib bs bf sj fj aw1 M => ?_
  unfold S58_1
  refine cnd_0x rfl (cnd_1x rfl (fldA_x (ldS_x (M.im .here) (by repeat constructor) ?_)))
  have M1 : Hp aw0 own ro aw1 ((X.m, MB (Pt X.hb) X.fu X.gl (Sl bs st.length) (Sl bf (fs.length + 1)) X.tr fuel X.space X.most X.ad X.bu X.mo) :: (bs, WB st sj) :: (X.hb, HB (Sl mb ws.length) (qu : Int) 0) :: ([(mb, WB ws [])] ++ ((bf, FB (frC fs) f (pc + 1) base fj) :: l))) := (M.drop .here).perm (by
    classical exact List.perm_iff_count.2 fun a => by simp only [List.count_cons, List.count_append, List.count_nil, MCB]; omega)
  refine text_x slP_W hst hs hq hroom M1 fun bs' mb' aw2 M2 => hK mb' aw2 ⟨bs', bf, [], fj, ?_⟩
  rw [FRB_snoc, show (fs ++ [(f, pc + 1, base)]).length = fs.length + 1 by simp]
  exact M2.perm (by classical exact List.perm_iff_count.2 fun a => by simp only [List.count_cons, List.count_append, List.count_nil, MCB]; omega)
theorem mm_cat {si : ByteArray} (H : MM aw0 own ro X (st ++ [2 * j] ++ [2 * j2]) (fs ++ [(f, pc, base)]) fuel (HL X.hb mb ws qu l) aw) (hI : InsAt ro (HL X.hb mb ws qu l) X.fu f pc 20 9 a si) (hS : At (HL X.hb mb ws qu l) b1 (SB X.m)) (hfl : fs.length < 2 ^ 39) (hst : st.length < 2 ^ 38)
    (hT : TxtAt ws j s) (hT2 : TxtAt ws j2 t) (hq : qu < 2 ^ 30) (hws : ws.length < 2 ^ 50) (hs : s.size + t.size ≤ 4096) (hroom : ws.length + (1 + (s.size + t.size + 7) / 8) ≤ qu)
    (hK : ∀ mb' aw', MM aw0 own ro X (st ++ [2 * ws.length]) (fs ++ [(f, pc + 1, base)]) fuel (HL X.hb mb' (ws ++ txt (s ++ t)) qu l) aw' → S35_1 Q E k (Pt b1) (Pt b2) (Pt b3) aw') : S35_1 Q E (k + 1) (Pt b1) (Pt b2) (Pt b3) aw := by
  refine mm_fetch H hI hS (by omega) fun ib bs bf sj fj aw1 M => ?_
  unfold S58_1
  iterate 15 (first | refine cnd_0x rfl ?_)
  refine cnd_1x rfl (fldA_x (ldI_x (M.im .here) (by repeat constructor) ?_))
  refine F74_ok _ _ aw1 ?_
  unfold S74_0
  have M := M.drop .here
  have hl : (st ++ [2 * j] ++ [2 * j2]).length = st.length + 2 := by simp
  rw [hl] at M
  have e1 : IntKind.i64.wrap (((st.length + 2 : Nat) : Int) - 1) = ((st.length + 1 : Nat) : Int) := by rw [show ((st.length + 2 : Nat) : Int) - 1 = ((st.length + 1 : Nat) : Int) by omega, i64_nat (by omega)]
  have e2 : IntKind.i64.wrap (((st.length + 2 : Nat) : Int) - 2) = ((st.length : Nat) : Int) := by rw [show ((st.length + 2 : Nat) : Int) - 2 = ((st.length : Nat) : Int) by omega, i64_nat (by omega)]
  have gb : (st ++ [2 * j] ++ [2 * j2])[st.length + 1]? = some (2 * j2) := by rw [List.getElem?_append_right (by simp)]; simp
  have ga : (st ++ [2 * j] ++ [2 * j2])[st.length]? = some (2 * j) := by rw [List.getElem?_append_left (by simp), List.getElem?_append_right (by simp)]; simp
  refine nck_x (fldA_x (ldV_x (M.im .here) (by repeat constructor) (nck_x (fldA_x (ldV_x (M.im .here) (by repeat constructor) (slen_x ?_))))))
  rw [e1]
  refine ixS_x (by omega) (by omega) (ldI_x (M.im (.there (.there .here))) (cellW gb) ?_)
  refine nck_x (fldA_x (ldV_x (M.im .here) (by repeat constructor) (nck_x (fldA_x (ldV_x (M.im .here) (by repeat constructor) (slen_x ?_))))))
  rw [e2]
  refine ixS_x (by omega) (by omega) (ldI_x (M.im (.there (.there .here))) (cellW ga) (cnd_1x rfl ?_))
  refine nck_x (fldA_x (ldV_x (M.im .here) (by repeat constructor) (nck_x (fldA_x (ldV_x (M.im .here) (by repeat constructor) ?_)))))
  have hH : At ((X.m, MB (Pt X.hb) X.fu X.gl (Sl bs (st.length + 2)) (Sl bf (fs.length + 1)) X.tr fuel X.space X.most X.ad X.bu X.mo) :: (bf, FB (frC fs) f (pc + 1) base fj) :: (bs, WB (st ++ [2 * j] ++ [2 * j2]) sj) :: HL X.hb mb ws qu l) X.hb (HB (Sl mb ws.length) (qu : Int) 0) := .there (.there (.there .here))
  have hM : At ((X.m, MB (Pt X.hb) X.fu X.gl (Sl bs (st.length + 2)) (Sl bf (fs.length + 1)) X.tr fuel X.space X.most X.ad X.bu X.mo) :: (bf, FB (frC fs) f (pc + 1) base fj) :: (bs, WB (st ++ [2 * j] ++ [2 * j2]) sj) :: HL X.hb mb ws qu l) mb (WB ws []) := .there (.there (.there (.there .here)))
  refine hText_x hT hH hM hws M fun aw2 M2 => again_x (M2.im .here) (by repeat constructor) ?_
  refine hText_x hT2 hH hM hws M2 fun aw3 M3 => ?_
  rw [show ((s.size : Int) + (t.size : Int)) = ((s.size + t.size : Nat) : Int) by omega, i64_nat (by omega)]
  refine cnd_0x (decide_eq_false (by omega)) ⟨by omega, ?_⟩
  have e5 : (s ++ t).size = s.size + t.size := ByteArray.size_append
  have M4 : Hp aw0 own ro aw3 ((X.m, MB (Pt X.hb) X.fu X.gl (Sl bs (st ++ [2 * j] ++ [2 * j2]).length) (Sl bf (fs.length + 1)) X.tr fuel X.space X.most X.ad X.bu X.mo) :: (bs, WB (st ++ [2 * j] ++ [2 * j2]) sj) :: (X.hb, HB (Sl mb ws.length) (qu : Int) 0) :: ([(mb, WB ws [])] ++ ((bf, FB (frC fs) f (pc + 1) base fj) :: l))) := by
    rw [hl]
    exact M3.perm (by classical exact List.perm_iff_count.2 fun a => by simp only [List.count_cons, List.count_append, List.count_nil, MCB]; omega)
  refine text_x slP_W (by omega) (by omega) hq (by rw [e5]; exact hroom) M4 fun bs' mb' aw4 M5 => ?_
  rw [show (st ++ [2 * j] ++ [2 * j2] ++ [2 * ws.length]).length = (st ++ [2 * j] ++ [2 * j2]).length + 1 by simp] at M5
  refine pop_x M5 (by omega) fun aw5 M6 => ?_
  rw [hl] at M6
  refine nck_x (fldA_x (ldV_x (M6.im .here) (by repeat constructor) (nck_x (fldA_x (ldV_x (M6.im .here) (by repeat constructor) (slen_x ?_))))))
  rw [e2]
  refine cutV_x (a := 0) rfl rfl (Nat.zero_le _) (by omega) (M6.im (.there .here)) rfl ?_
  refine nck_x (fldA_x (st_x M6 .here (by repeat constructor) rfl rfl rfl fun aw6 M7 => ?_))
  have e6 : WB (st ++ [2 * j] ++ [2 * j2]) [W (2 * ws.length)] = WB st [W (2 * j), W (2 * j2), W (2 * ws.length)] := by rw [WB_snoc, WB_snoc]
  rw [e6] at M7
  refine push_x M7 (by omega) fun bs'' aw7 M8 => hK mb' aw7 ⟨bs'', bf, [], fj, ?_⟩
  rw [FRB_snoc, show (fs ++ [(f, pc + 1, base)]).length = fs.length + 1 by simp]
  exact M8.perm (by classical exact List.perm_iff_count.2 fun a => by simp only [List.count_cons, List.count_append, List.count_nil, MCB]; omega)
end
end Go.Proofs.Tryd
