/- machine: texts compared, looked at, their length; what is too long. -/
import Derived.Test.YtfoceofohlpafaaDoorMt4
set_option linter.unusedVariables false
set_option linter.unusedSimpArgs false
set_option linter.unusedSectionVars false
namespace Go.Proofs.Tryd
open Go Go.Am Go.RowKit
variable [SymE]
set_option maxHeartbeats 1000000
abbrev longB : ByteArray := ⟨#[108, 111, 110, 103]⟩
section
variable {aw0 aw : AW} {own : List Nat} {ro l : List (Nat × Blk)} {X : MC} {m bs bf ib f pc base w i j j2 mb op b1 b2 b3 k qu hb : Nat} {fuel space most : Int} {st ws : List Nat} {fs : List Fr} {E : List PanicEntry → AW → Prop} {n a : Int} {s t : ByteArray} {h fu gl sk fr tr ad bu mo : Value}
theorem mm_cat_long {si : ByteArray} {Q : (Bool × Int × Int × ByteArray × ByteArray × Value × Int) → AW → Prop} (H : MM aw0 own ro X (st ++ [2 * j] ++ [2 * j2]) (fs ++ [(f, pc, base)]) fuel (HL X.hb mb ws qu l) aw) (hI : InsAt ro (HL X.hb mb ws qu l) X.fu f pc 20 9 a si) (hS : At (HL X.hb mb ws qu l) b1 (SB X.m)) (hfl : fs.length < 2 ^ 39) (hst : st.length < 2 ^ 38)
    (hT : TxtAt ws j s) (hT2 : TxtAt ws j2 t) (hws : ws.length < 2 ^ 50) (hs : 4096 < s.size + t.size)
    (hK : ∀ aw', MM aw0 own ro X (st ++ [2 * j] ++ [2 * j2]) (fs ++ [(f, pc + 1, base)]) fuel (HL X.hb mb ws qu l) aw' → DK35 Q E (Pt b1) (Pt b2) (Pt b3) (.panic (raise longB)) aw') : S35_1 Q E (k + 1) (Pt b1) (Pt b2) (Pt b3) aw := by
  refine mm_fetch H hI hS (by omega) fun ib bs bf sj fj aw1 M => ?_
  have hz1 := hT.sz
  have hz2 := hT2.sz
  unfold S58_1
  iterate 15 (first | refine cnd_0x rfl ?_)
  refine cnd_1x rfl (fldA_x (ldI_x (M.im .here) (by repeat constructor) ?_))
  refine F74_ok _ _ aw1 ?_
  unfold S74_0
  have M := M.drop .here
  have hl : (st ++ [2 * j] ++ [2 * j2]).length = st.length + 2 := by simp
  rw [hl] at M
  have e1 : IntKind.i64.wrap (((st.length + 2 : Nat) : Int) - 1) = ((st.length + 1 : Nat) : Int) := by rw [show ((st.length + 2 : Nat) : Int) - 1 = ((st.length + 1 : Nat) : Int) by omega, i64_nat (by omega)]
  have e2 : IntKind.i64.wrap (((st.length + 2 : Nat) : Int) - 2) = ((st.length : Nat) : Int) := by rw [show ((st.length + 2 : Nat) : Int) - 2 = ((st.length : Nat) : Int) by omega, i64_nat (by omega)]
  have gb : (st ++ [2 * j] ++ [2 * j2])[st.length + 1]? = some (2 * j2) := by rw [List.getElem?_append_right (by simp)]; simp
  have ga : (st ++ [2 * j] ++ [2 * j2])[st.length]? = some (2 * j) := by rw [List.getElem?_append_left (by simp), List.getElem?_append_right (by simp)]; simp
  refine nck_x (fldA_x (ldV_x (M.im .here) (by repeat constructor) (nck_x (fldA_x (ldV_x (M.im .here) (by repeat constructor) (slen_x ?_))))))
  rw [e1]
  refine ixS_x (by omega) (by omega) (ldI_x (M.im (.there (.there .here))) (cellW gb) ?_)
  refine nck_x (fldA_x (ldV_x (M.im .here) (by repeat constructor) (nck_x (fldA_x (ldV_x (M.im .here) (by repeat constructor) (slen_x ?_))))))
  rw [e2]
  refine ixS_x (by omega) (by omega) (ldI_x (M.im (.there (.there .here))) (cellW ga) (cnd_1x rfl ?_))
  refine nck_x (fldA_x (ldV_x (M.im .here) (by repeat constructor) (nck_x (fldA_x (ldV_x (M.im .here) (by repeat constructor) ?_)))))
  have hH : At ((X.m, MB (Pt X.hb) X.fu X.gl (Sl bs (st.length + 2)) (Sl bf (fs.length + 1)) X.tr fuel X.space X.most X.ad X.bu X.mo) :: (bf, FB (frC fs) f (pc + 1) base fj) :: (bs, WB (st ++ [2 * j] ++ [2 * j2]) sj) :: HL X.hb mb ws qu l) X.hb (HB (Sl mb ws.length) (qu : Int) 0) := .there (.there (.there .here))
  have hM : At ((X.m, MB (Pt X.hb) X.fu X.gl (Sl bs (st.length + 2)) (Sl bf (fs.length + 1)) X.tr fuel X.space X.most X.ad X.bu X.mo) :: (bf, FB (frC fs) f (pc + 1) base fj) :: (bs, WB (st ++ [2 * j] ++ [2 * j2]) sj) :: HL X.hb mb ws qu l) mb (WB ws []) := .there (.there (.there (.there .here)))
  refine hText_x hT hH hM hws M fun aw2 M2 => again_x (M2.im .here) (by repeat constructor) ?_
  refine hText_x hT2 hH hM hws M2 fun aw3 M3 => ?_
  rw [show ((s.size : Int) + (t.size : Int)) = ((s.size + t.size : Nat) : Int) by omega, i64_nat (by omega)]
  refine cnd_1x (decide_eq_true (by omega)) (hK aw3 ⟨bs, bf, sj, fj, ?_⟩)
  rw [FRB_snoc, show (fs ++ [(f, pc + 1, base)]).length = fs.length + 1 by simp, hl]
  exact M3
theorem even_num {Q : Bool → AW → Prop} (hj : j < 2 ^ 62) (hQ : Q false aw) : CallP prog 49 [.int .u64 ((2 * j : Nat) : Int)] aw sh49 Q E := by
  refine isnum_x (by omega) (by omega) ?_
  rw [decide_eq_false (by omega)]; exact hQ
theorem alikeT_x {Q : Bool → AW → Prop} (hT : TxtAt ws j s) (hT2 : TxtAt ws j2 t) (hws : ws.length < 2 ^ 50) (h0 : 0 < fuel) (h1 : fuel < 2 ^ 60) (hH : At l hb (HB (Sl mb ws.length) (qu : Int) 0)) (hM : At l mb (WB ws []))
    (M : Hp aw0 own ro aw ((m, MB (Pt hb) fu gl sk fr tr fuel space most ad bu mo) :: l)) (hQ : ∀ aw', Hp aw0 own ro aw' ((m, MB (Pt hb) fu gl sk fr tr (fuel - 1) space most ad bu mo) :: l) → Q (decide (s = t)) aw') :
    CallP prog 90 [Pt m, .int .u64 ((2 * j : Nat) : Int), .int .u64 ((2 * j2 : Nat) : Int)] aw sh90 Q E := by
  have hlt : j < ws.length := (List.getElem?_eq_some_iff.1 hT.hd).1
  have hlt2 : j2 < ws.length := (List.getElem?_eq_some_iff.1 hT2.hd).1
  have k3 : ∀ z : Nat, (z * 2 ^ 8 + 3) % 256 = 3 := fun z => by omega
  refine F90_ok _ _ _ aw ?_
  unfold S90_0
  refine step_x M h0 h1 fun aw1 M1 => even_num (by omega) (cnd_0x rfl (even_num (by omega) ?_))
  unfold S90_1
  refine cnd_0x rfl (nck_x (fldA_x (ldV_x (M1.im .here) (by repeat constructor) ?_)))
  refine kind_x (M1.im (.there hH)) (M1.im (.there hM)) (by omega) rfl hT.hd ?_
  rw [k3]
  refine nck_x (fldA_x (ldV_x (M1.im .here) (by repeat constructor) ?_))
  refine kind_x (M1.im (.there hH)) (M1.im (.there hM)) (by omega) rfl hT2.hd ?_
  rw [k3]
  refine cnd_0x rfl (cnd_0x rfl ?_)
  unfold S90_2
  refine cnd_0x rfl (cnd_0x rfl (cnd_1x rfl ?_))
  refine nck_x (fldA_x (ldV_x (M1.im .here) (by repeat constructor) (nck_x (fldA_x (ldV_x (M1.im .here) (by repeat constructor) ?_)))))
  refine hText_x hT (.there hH) (.there hM) hws M1 fun aw2 M2 => again_x (M2.im .here) (by repeat constructor) ?_
  exact hText_x hT2 (.there hH) (.there hM) hws M2 fun aw3 M3 => hQ aw3 M3
theorem mm_eqT {Q : (Bool × Int × Int × ByteArray × ByteArray × Value × Int) → AW → Prop} (H : MM aw0 own ro X (st ++ [2 * j] ++ [2 * j2]) (fs ++ [(f, pc, base)]) fuel (HL X.hb mb ws qu l) aw) (hI : InsAt ro (HL X.hb mb ws qu l) X.fu f pc 20 5 a s) (hS : At (HL X.hb mb ws qu l) b1 (SB X.m)) (hfl : fs.length < 2 ^ 39) (hst : st.length < 2 ^ 38)
    {s1 t1 : ByteArray} (hT : TxtAt ws j s1) (hT2 : TxtAt ws j2 t1) (hws : ws.length < 2 ^ 50) (h0 : 0 < fuel) (h1 : fuel < 2 ^ 60)
    (hK : ∀ aw', MM aw0 own ro X (st ++ [WN (if s1 = t1 then 1 else 0)]) (fs ++ [(f, pc + 1, base)]) (fuel - 1) (HL X.hb mb ws qu l) aw' → S35_1 Q E k (Pt b1) (Pt b2) (Pt b3) aw') : S35_1 Q E (k + 1) (Pt b1) (Pt b2) (Pt b3) aw := by
  refine mm_fetch H hI hS (by omega) fun ib bs bf sj fj aw1 M => ?_
  unfold S58_1
  iterate 15 (first | refine cnd_0x rfl ?_)
  refine cnd_1x rfl (fldA_x (ldI_x (M.im .here) (by repeat constructor) ?_))
  refine F74_ok _ _ aw1 ?_
  unfold S74_0
  have M := M.drop .here
  have hl : (st ++ [2 * j] ++ [2 * j2]).length = st.length + 2 := by simp
  rw [hl] at M
  have e1 : IntKind.i64.wrap (((st.length + 2 : Nat) : Int) - 1) = ((st.length + 1 : Nat) : Int) := by rw [show ((st.length + 2 : Nat) : Int) - 1 = ((st.length + 1 : Nat) : Int) by omega, i64_nat (by omega)]
  have e2 : IntKind.i64.wrap (((st.length + 2 : Nat) : Int) - 2) = ((st.length : Nat) : Int) := by rw [show ((st.length + 2 : Nat) : Int) - 2 = ((st.length : Nat) : Int) by omega, i64_nat (by omega)]
  have gb : (st ++ [2 * j] ++ [2 * j2])[st.length + 1]? = some (2 * j2) := by rw [List.getElem?_append_right (by simp)]; simp
  have ga : (st ++ [2 * j] ++ [2 * j2])[st.length]? = some (2 * j) := by rw [List.getElem?_append_left (by simp), List.getElem?_append_right (by simp)]; simp
  refine nck_x (fldA_x (ldV_x (M.im .here) (by repeat constructor) (nck_x (fldA_x (ldV_x (M.im .here) (by repeat constructor) (slen_x ?_))))))
  rw [e1]
  refine ixS_x (by omega) (by omega) (ldI_x (M.im (.there (.there .here))) (cellW gb) ?_)
  refine nck_x (fldA_x (ldV_x (M.im .here) (by repeat constructor) (nck_x (fldA_x (ldV_x (M.im .here) (by repeat constructor) (slen_x ?_))))))
  rw [e2]
  refine ixS_x (by omega) (by omega) (ldI_x (M.im (.there (.there .here))) (cellW ga) (cnd_0x rfl (cnd_0x rfl ?_)))
  refine F84_ok _ _ _ _ aw1 ?_
  unfold S84_0
  refine n_x _ (n_x _ (cnd_0x rfl (cnd_0x rfl (cnd_0x rfl (cnd_0x rfl ?_)))))
  unfold S84_1
  refine cnd_0x rfl (cnd_1x rfl ?_)
  refine alikeT_x hT hT2 hws h0 h1 (.there (.there .here)) (.there (.there (.there .here))) M fun aw2 M2 => yes_x ?_
  refine nck_x (fldA_x (ldV_x (M2.im .here) (by repeat constructor) (nck_x (fldA_x (ldV_x (M2.im .here) (by repeat constructor) (slen_x ?_))))))
  rw [e2]
  refine cutV_x (a := 0) rfl rfl (Nat.zero_le _) (by omega) (M2.im (.there (.there .here))) rfl ?_
  refine nck_x (fldA_x (st_x M2 .here (by repeat constructor) rfl rfl rfl fun aw6 M7 => ?_))
  have e6 : WB (st ++ [2 * j] ++ [2 * j2]) sj = WB st (W (2 * j) :: W (2 * j2) :: sj) := by rw [WB_snoc, WB_snoc]
  rw [e6] at M7
  have M8 := (M7.front (.there (.there .here))).front (.there .here)
  refine push_x M8 (by omega) fun bs'' aw7 M9 => hK aw7 ⟨bs'', bf, [], fj, ?_⟩
  have e7 : (if decide (s1 = t1) = true then (1 : Int) else 0) = if s1 = t1 then 1 else 0 := by simp
  rw [e7] at M9
  rw [FRB_snoc, show (fs ++ [(f, pc + 1, base)]).length = fs.length + 1 by simp]
  exact (M9.front (.there (.there .here))).front (.there .here)
end
end Go.Proofs.Tryd
