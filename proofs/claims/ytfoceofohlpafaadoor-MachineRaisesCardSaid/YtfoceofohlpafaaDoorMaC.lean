/- Printed by a program of the prover: what the Go functions of this seat do, in steps. -/
import Derived.Test.YtfoceofohlpafaaDoorMaF
set_option linter.unusedSectionVars false
set_option linter.unusedSimpArgs false
set_option linter.unusedVariables false
namespace Go.Proofs.Tryd
open Go Go.Am Go.RowKit
set_option maxHeartbeats 4000000
set_option maxRecDepth 100000
noncomputable section
variable [SymE]
def C57_0 := bodyOf f57
theorem C57_is : f57.body = some C57_0 := by kernel_rfl
def C57_1 := cl C57_0
def R57_0 := regOps C57_1
def C57_2 := cr C57_0
def C57_3 := cl C57_2
def C57_4 := cl C57_3
def R57_1 := regOps C57_4
def C57_5 := cr C57_3
def C57_6 := cl C57_5
def C57_7 := cl C57_6
def R57_2 := regOps C57_7
def C57_8 := cr C57_6
def C57_9 := cr C57_5
def C57_10 := cr C57_2
def C57_11 := cl C57_10
def R57_3 := regOps C57_11
def C57_12 := cr C57_10
def C57_13 := cl C57_12
def R57_4 := regOps C57_13
def C57_14 := cr C57_12
def C57_15 := cl C57_14
def R57_5 := regOps C57_15
def C57_16 := cr C57_14
def C57_17 := cl C57_16
def R57_6 := regOps C57_17
def C57_18 := cr C57_16
def C57_19 := cl C57_18
def C57_20 := cl C57_19
def R57_7 := regOps C57_20
def C57_21 := cr C57_19
def C57_22 := cl C57_21
def C57_25 := cr C57_21
def C57_26 := cr C57_18
def C57_27 := cl C57_26
def R57_9 := regOps C57_27
def C57_28 := cr C57_26
def C57_29 := cl C57_28
def R57_10 := regOps C57_29
def C57_30 := cr C57_28
def C57_31 := cl C57_30
def R57_11 := regOps C57_31
def C57_32 := cr C57_30
theorem R57_0_N : dstsOk 94 R57_0 = true := by decide +kernel
theorem R57_1_N : dstsOk 94 R57_1 = true := by decide +kernel
theorem R57_2_N : dstsOk 94 R57_2 = true := by decide +kernel
theorem R57_3_N : dstsOk 94 R57_3 = true := by decide +kernel
theorem R57_3_O : linOk R57_3 [0, 1, 2, 3, 4, 5, 6, 7, 8, 9, 10, 11] [(12, [0, 1, 2, 3, 4, 5, 6, 7, 8, 9, 10, 11], []), (13, [], [])] = true := by decide +kernel
theorem R57_4_N : dstsOk 94 R57_4 = true := by decide +kernel
theorem R57_4_O : linOk R57_4 [0, 1, 2, 3, 4, 5, 6, 7, 8, 9, 10, 11, 12, 13] [(14, [], [])] = true := by decide +kernel
theorem R57_5_N : dstsOk 94 R57_5 = true := by decide +kernel
theorem R57_5_O : linOk R57_5 [0, 1, 2, 3, 4, 5, 6, 7, 8, 9, 10, 11, 12, 13, 14, 15, 16, 17] [(18, [1, 13, 14, 15], [19, 20]), (21, [], [])] = true := by decide +kernel
theorem R57_6_N : dstsOk 94 R57_6 = true := by decide +kernel
theorem R57_6_O : linOk R57_6 [0, 1, 2, 3, 4, 5, 6, 7, 8, 9, 10] [(11, [], [])] = true := by decide +kernel
theorem R57_7_N : dstsOk 94 R57_7 = true := by decide +kernel
theorem R57_9_N : dstsOk 94 R57_9 = true := by decide +kernel
theorem R57_10_N : dstsOk 94 R57_10 = true := by decide +kernel
theorem R57_11_N : dstsOk 94 R57_11 = true := by decide +kernel
theorem R57_11_O : linOk R57_11 [0, 1] [(2, [], [])] = true := by decide +kernel
def S57_0 (Q : (Bool × Int × Int × ByteArray × ByteArray × Value × Int) → AW → Prop) (E : List PanicEntry → AW → Prop)  (m_0 : Value) (s_1 : ByteArray) (aw : AW) : Prop :=
  alc aw [.int .i64 0, .int .u64 0, .string (⟨#[]⟩ : ByteArray), .string (⟨#[]⟩ : ByteArray), (.slice none 0 0), .int .i64 0] 29 0 fun p1 aw2 =>
  nck m_0 (fldA m_0 5 fun p6 =>
  ldV aw2 p6 fun x14 =>
  slen x14 fun n16 =>
  cnd (decide (n16 = 0)) (st aw2 p1 [.int .i64 9, .int .u64 0, .string s_1, .string (⟨#[]⟩ : ByteArray), (.slice none 0 0), .int .i64 0] fun aw23 =>
  ptr p1 fun b30 i31 => gI .i64 aw23 b30 i31 fun c33 => gI .u64 aw23 b30 (i31 + 1) fun c34 => gS aw23 b30 (i31 + 2) fun c35 => gS aw23 b30 (i31 + 3) fun c36 => gV aw23 b30 (i31 + 4) fun c37 => gI .i64 aw23 b30 (i31 + 5) fun c38 => Q (false, c33, c34, c35, c36, c37, c38) aw23) (nck m_0 (fldA m_0 5 fun p46 =>
  ldV aw2 p46 fun x54 =>
  nck m_0 (fldA m_0 5 fun p57 =>
  ldV aw2 p57 fun x65 =>
  slen x65 fun n67 =>
  ixS x54 (IntKind.i64.wrap (n67 - 1)) 3 fun p73 =>
  ptr p73 fun b82 i83 =>
  gI .i64 aw2 b82 i83 fun c85 =>
  gI .i64 aw2 b82 (i83 + 1) fun c86 =>
  gI .i64 aw2 b82 (i83 + 2) fun c87 =>
  alc aw2 [.int .i64 0, .int .i64 0, .int .i64 0] 132 0 fun p91 aw92 =>
  again1 aw92 p46 (x54) ∧ again1 aw92 p57 (x65) ∧ aw92.get b82 i83 = some (.int .i64 c85) ∧ aw92.get b82 (i83 + 1) = some (.int .i64 c86) ∧ aw92.get b82 (i83 + 2) = some (.int .i64 c87) ∧ st aw92 p91 [.int .i64 c85, .int .i64 c86, .int .i64 c87] fun aw95 =>
  nck m_0 (fldA m_0 5 fun p103 =>
  ldV aw95 p103 fun x111 =>
  nck m_0 (fldA m_0 5 fun p114 =>
  ldV aw95 p114 fun x122 =>
  slen x122 fun n124 =>
  cutV aw95 3 x111 0 (IntKind.i64.wrap (n124 - 1)) fun v130 =>
  nck m_0 (fldA m_0 5 fun p133 =>
  st aw95 p133 [v130] fun aw138 =>
  nck m_0 (fldA m_0 4 fun p146 =>
  ldV aw138 p146 fun x154 =>
  fldA p91 0 fun p156 =>
  ldI .i64 aw138 p156 fun x164 =>
  cutV aw138 3 x154 0 x164 fun v166 =>
  nck m_0 (fldA m_0 3 fun p169 =>
  ldV aw138 p169 fun x177 =>
  fldA p91 1 fun p179 =>
  ldI .i64 aw138 p179 fun x187 =>
  cutV aw138 1 x177 0 x187 fun v189 =>
  nck m_0 (fldA m_0 4 fun p192 =>
  st aw138 p192 [v166] fun aw197 =>
  again1 aw197 p179 (.int .i64 x187) ∧ Cut aw197 1 x177 0 x187 v189 ∧ nck m_0 (fldA m_0 3 fun p205 =>
  st aw197 p205 [v189] fun aw210 =>
  nck m_0 (fldA m_0 4 fun p218 =>
  ldV aw210 p218 fun x226 =>
  fldA p91 0 fun p228 =>
  ldI .i64 aw210 p228 fun x236 =>
  fldA p91 2 fun p238 =>
  ldI .i64 aw210 p238 fun x246 =>
  ixS x226 (IntKind.i64.wrap (x236 - 1)) 3 fun p248 =>
  fldA p248 1 fun p257 =>
  st aw210 p257 [.int .i64 x246] fun aw262 =>
  CallP prog 53 [.int .u8 3, .int .i64 (s_1.size : Int)] aw262 sh53 (fun r269 aw270 =>
  CallP prog 67 [m_0, .int .i64 r269] aw270 sh67 (fun r271 aw272 =>
  cnd (!r271) (False) (nck m_0 (fldA m_0 0 fun p275 =>
  ldV aw272 p275 fun x283 =>
  CallP prog 68 [x283, .string s_1, (.slice none 0 0)] aw272 sh68 (fun r285 aw286 =>
  CallP prog 34 [m_0, .int .u64 r285.1] aw286 sh34 (fun r287 aw288 =>
  ptr p1 fun b289 i290 =>
  gI .i64 aw288 b289 i290 fun c292 =>
  gI .u64 aw288 b289 (i290 + 1) fun c293 =>
  gS aw288 b289 (i290 + 2) fun c294 =>
  gS aw288 b289 (i290 + 3) fun c295 =>
  gV aw288 b289 (i290 + 4) fun c296 =>
  gI .i64 aw288 b289 (i290 + 5) fun c297 =>
  st aw288 p1 [.int .i64 c292, .int .u64 c293, .string c294, .string c295, c296, .int .i64 c297] fun aw304 =>
  ptr p1 fun b311 i312 => gI .i64 aw304 b311 i312 fun c314 => gI .u64 aw304 b311 (i312 + 1) fun c315 => gS aw304 b311 (i312 + 2) fun c316 => gS aw304 b311 (i312 + 3) fun c317 => gV aw304 b311 (i312 + 4) fun c318 => gI .i64 aw304 b311 (i312 + 5) fun c319 => Q (true, c314, c315, c316, c317, c318, c319) aw304) E) E))) E) E))))))))))))
theorem S57_0_ok (Q : (Bool × Int × Int × ByteArray × ByteArray × Value × Int) → AW → Prop) (E : List PanicEntry → AW → Prop)  (ρ : Env) (m_0 : Value) (s_1 : ByteArray) (aw : AW) (h0 : ρ 0 = m_0) (h1 : ρ 1 = .string s_1) (H : S57_0 Q E  m_0 s_1 aw) :
    AGo prog 94 [.code C57_0] ρ [] aw (RR prog f57 94 sh57 Q E) := by
  unfold S57_0 at H
  refine ago_seqE (rfl : C57_0 = .seq C57_1 C57_2) ?_
  refine ago_regE (rfl : C57_1 = .region 0 R57_0 false) (l := [0, 1]) rfl ?_
  refine lj 4 R57_0_N rfl rfl rfl (opv_assign rfl rfl rfl) ?_
  obtain ⟨p1, aw2, hp3, ha4, H⟩ := H
  refine lj 5 R57_0_N rfl rfl rfl (ov_alloc rfl z29 rfl rfl hp3 ha4) ?_
  refine aops_nil ?_
  refine ago_seqE (rfl : C57_2 = .seq C57_3 C57_10) ?_
  refine ago_seqE (rfl : C57_3 = .seq C57_4 C57_5) ?_
  refine ago_regE (rfl : C57_4 = .region 1 R57_1 false) (l := [0, 1, 2, 3, 4, 5]) rfl ?_
  refine lj 9 R57_1_N rfl rfl rfl (opv_move rfl rfl h0) ?_
  obtain ⟨hp5, H⟩ := H
  refine lj 10 R57_1_N rfl rfl rfl (ov_nck rfl rfl rfl hp5) ?_
  obtain ⟨b7, i8, p6, hp9, hv10, H⟩ := H
  refine lj 11 R57_1_N rfl rfl rfl (ov_fldA rfl rfl underlying77 rfl sz71 (by decide) rfl hp9 rfl hv10) ?_
  obtain ⟨b11, i12, x14, hp13, hg15, H⟩ := H
  refine lj 12 R57_1_N rfl rfl rfl (ov_ldV rfl underlying71 rfl rfl rfl hp13 hg15) ?_
  obtain ⟨q17, l18, c19, n16, hv20, hn21, H⟩ := H
  refine lj 13 R57_1_N rfl rfl rfl (ov_len rfl rfl rfl underlying71 rfl hv20 hn21) ?_
  refine lj 14 R57_1_N rfl rfl rfl (opv_eqI rfl rfl rfl rfl rfl) ?_
  refine aops_nil ?_
  refine ago_condE  (rfl : C57_5 = .cond (.tmp 14) C57_6 C57_9) rfl rfl (fun hb22 => ?_) (fun hb22 => ?_)
  · replace H := cnd_t H hb22
    refine ago_seqE (rfl : C57_6 = .seq C57_7 C57_8) ?_
    refine ago_regE (rfl : C57_7 = .region 2 R57_2 false) (l := [0, 1, 2, 3]) rfl ?_
    refine lj 15 R57_2_N rfl rfl rfl (opv_move rfl rfl h1) ?_
    refine lj 16 R57_2_N rfl rfl rfl (ov_bld (r := [.int .i64 9, .int .u64 0, .string s_1, .string (⟨#[]⟩ : ByteArray), (.slice none 0 0), .int .i64 0]) rfl rfl bo29 (mp_cons rfl (mp_cons rfl rfl)) (fillP rfl rfl rfl rfl (fillP rfl rfl rfl rfl (fillN rfl)))) ?_
    refine lj 4 R57_2_N rfl rfl rfl (opv_assign rfl rfl rfl) ?_
    obtain ⟨b24, i25, aw23, hp26, hw27, ho28, ha29, H⟩ := H
    refine lk (dt := none) R57_2_N rfl rfl rfl (ov_st rfl rfl rfl rfl rfl rfl sz29 hp26 hw27 ho28 ha29) ?_
    refine aops_nil ?_
    obtain ⟨b30, i31, hp32, c33, hg39, c34, hg40, c35, hg41, c36, hg42, c37, hg43, c38, hg44, H⟩ := H
    exact ago_retE (rfl : C57_8 = .ret) (r := (false, c33, c34, c35, c36, c37, c38)) (ares_2 rfl (oneT rfl) (oneN rfl hp32 underlying29 rfl sz29 (getN_cons hg39 (getN_cons hg40 (getN_cons hg41 (getN_cons hg42 (getN_cons hg43 (getN_cons hg44 getN_nil)))))))) rfl H
  replace H := cnd_f H hb22
  refine ago_skipE (rfl : C57_9 = .skip) ?_
  refine ago_seqE (rfl : C57_10 = .seq C57_11 C57_12) ?_
  obtain ⟨hp45, H⟩ := H
  obtain ⟨b47, i48, p46, hp49, hv50, H⟩ := H
  obtain ⟨b51, i52, x54, hp53, hg55, H⟩ := H
  obtain ⟨hp56, H⟩ := H
  obtain ⟨b58, i59, p57, hp60, hv61, H⟩ := H
  obtain ⟨b62, i63, x65, hp64, hg66, H⟩ := H
  obtain ⟨q68, l69, c70, n67, hv71, hn72, H⟩ := H
  obtain ⟨b74, i75, l76, c77, p73, hp78, h079, hj80, hv81, H⟩ := H
  obtain ⟨b82, i83, hp84, c85, hg88, c86, hg89, c87, hg90, H⟩ := H
  refine ago_drawH (p := [0, 1, 2, 3, 4, 5, 6, 7, 8, 9, 10, 11]) (tl := [(12, [0, 1, 2, 3, 4, 5, 6, 7, 8, 9, 10, 11], []), (13, [], [])]) (hv := [(0, m_0), (1, m_0), (2, p46), (3, x54), (4, m_0), (5, m_0), (6, p57), (7, x65), (8, Value.int .i64 n67), (9, Value.int .i64 (IntKind.i64.wrap (n67 - 1))), (10, p73), (11, Value.agg #[.int .i64 c85, .int .i64 c86, .int .i64 c87])]) (rfl : C57_11 = .region 3 R57_3 true) mixed R57_3_N R57_3_O rfl (pv_cons rfl (pv_cons rfl (pv_cons rfl (pv_cons rfl (pv_cons rfl (pv_cons rfl (pv_cons rfl (pv_cons rfl (pv_cons rfl (pv_cons rfl (pv_cons rfl (pv_cons rfl (pv_nil _)))))))))))))
    (fc 17 m_0 (hd_v rfl fun ρ hρ => ⟨rfl, opv_move rfl rfl ((hρ 0 (lmem rfl)).trans h0)⟩) rfl rfl
    (fc 18 m_0 (hd_v rfl fun ρ hρ => ⟨rfl, ov_nck rfl rfl ((hρ 17 (lmem rfl)).trans rfl) hp45⟩) rfl rfl
    (fc 19 p46 (hd_v rfl fun ρ hρ => ⟨rfl, ov_fldA rfl rfl underlying77 rfl sz71 (by decide) ((hρ 18 (lmem rfl)).trans rfl) hp49 rfl hv50⟩) rfl rfl
    (fc 20 x54 (hd_v rfl fun ρ hρ => ⟨rfl, ov_ldV rfl underlying71 rfl rfl ((hρ 19 (lmem rfl)).trans rfl) hp53 hg55⟩) rfl rfl
    (fc 21 m_0 (hd_v rfl fun ρ hρ => ⟨rfl, opv_move rfl rfl ((hρ 0 (lmem rfl)).trans h0)⟩) rfl rfl
    (fc 22 m_0 (hd_v rfl fun ρ hρ => ⟨rfl, ov_nck rfl rfl ((hρ 21 (lmem rfl)).trans rfl) hp56⟩) rfl rfl
    (fc 23 p57 (hd_v rfl fun ρ hρ => ⟨rfl, ov_fldA rfl rfl underlying77 rfl sz71 (by decide) ((hρ 22 (lmem rfl)).trans rfl) hp60 rfl hv61⟩) rfl rfl
    (fc 24 x65 (hd_v rfl fun ρ hρ => ⟨rfl, ov_ldV rfl underlying71 rfl rfl ((hρ 23 (lmem rfl)).trans rfl) hp64 hg66⟩) rfl rfl
    (fc 25 (.int .i64 n67) (hd_v rfl fun ρ hρ => ⟨rfl, ov_len rfl rfl rfl underlying71 ((hρ 24 (lmem rfl)).trans rfl) hv71 hn72⟩) rfl rfl
    (fc 26 (.int .i64 (IntKind.i64.wrap (n67 - 1))) (hd_v rfl fun ρ hρ => ⟨rfl, opv_sub rfl rfl rfl ((hρ 25 (lmem rfl)).trans rfl) rfl⟩) rfl rfl
    (fc 27 p73 (hd_v rfl fun ρ hρ => ⟨rfl, ov_ixS rfl rfl rfl underlying71 sz132 ((hρ 20 (lmem rfl)).trans rfl) ((hρ 26 (lmem rfl)).trans rfl) hp78 h079 hj80 hv81⟩) rfl rfl
    (fc 28 (.agg #[.int .i64 c85, .int .i64 c86, .int .i64 c87]) (hd_v rfl fun ρ hρ => ⟨rfl, ov_ldN rfl underlying132 rfl sz132 rfl ((hρ 27 (lmem rfl)).trans rfl) hp84 (getN_cons hg88 (getN_cons hg89 (getN_cons hg90 getN_nil)))⟩) rfl rfl
    ffn)))))))))))) ?_
  obtain ⟨p91, aw92, hp93, ha94, H⟩ := H
  refine lt_val (dt := some 6) (v := p91) rfl rfl (fun ρ hρ => ⟨rfl, ov_alloc rfl z132 rfl rfl hp93 ha94⟩) ?_
  obtain ⟨hg55, H⟩ := H
  replace hg55 := hg55 _ _ hp53
  obtain ⟨hg66, H⟩ := H
  replace hg66 := hg66 _ _ hp64
  obtain ⟨hg88, H⟩ := H
  obtain ⟨hg89, H⟩ := H
  obtain ⟨hg90, H⟩ := H
  refine lt_next (l := [0, 1, 2, 3, 4, 5, 6, 7, 8, 9, 10, 11]) (hv := []) rfl rfl (pv_nil _)
    (fc 17 m_0 (hd_v rfl fun ρ hρ => ⟨rfl, opv_move rfl rfl ((hρ 0 (lmem rfl)).trans h0)⟩) rfl rfl
    (fc 18 m_0 (hd_v rfl fun ρ hρ => ⟨rfl, ov_nck rfl rfl ((hρ 17 (lmem rfl)).trans rfl) hp45⟩) rfl rfl
    (fc 19 p46 (hd_v rfl fun ρ hρ => ⟨rfl, ov_fldA rfl rfl underlying77 rfl sz71 (by decide) ((hρ 18 (lmem rfl)).trans rfl) hp49 rfl hv50⟩) rfl rfl
    (fc 20 x54 (hd_v rfl fun ρ hρ => ⟨rfl, ov_ldV rfl underlying71 rfl rfl ((hρ 19 (lmem rfl)).trans rfl) hp53 hg55⟩) rfl rfl
    (fc 21 m_0 (hd_v rfl fun ρ hρ => ⟨rfl, opv_move rfl rfl ((hρ 0 (lmem rfl)).trans h0)⟩) rfl rfl
    (fc 22 m_0 (hd_v rfl fun ρ hρ => ⟨rfl, ov_nck rfl rfl ((hρ 21 (lmem rfl)).trans rfl) hp56⟩) rfl rfl
    (fc 23 p57 (hd_v rfl fun ρ hρ => ⟨rfl, ov_fldA rfl rfl underlying77 rfl sz71 (by decide) ((hρ 22 (lmem rfl)).trans rfl) hp60 rfl hv61⟩) rfl rfl
    (fc 24 x65 (hd_v rfl fun ρ hρ => ⟨rfl, ov_ldV rfl underlying71 rfl rfl ((hρ 23 (lmem rfl)).trans rfl) hp64 hg66⟩) rfl rfl
    (fc 25 (.int .i64 n67) (hd_v rfl fun ρ hρ => ⟨rfl, ov_len rfl rfl rfl underlying71 ((hρ 24 (lmem rfl)).trans rfl) hv71 hn72⟩) rfl rfl
    (fc 26 (.int .i64 (IntKind.i64.wrap (n67 - 1))) (hd_v rfl fun ρ hρ => ⟨rfl, opv_sub rfl rfl rfl ((hρ 25 (lmem rfl)).trans rfl) rfl⟩) rfl rfl
    (fc 27 p73 (hd_v rfl fun ρ hρ => ⟨rfl, ov_ixS rfl rfl rfl underlying71 sz132 ((hρ 20 (lmem rfl)).trans rfl) ((hρ 26 (lmem rfl)).trans rfl) hp78 h079 hj80 hv81⟩) rfl rfl
    (fc 28 (.agg #[.int .i64 c85, .int .i64 c86, .int .i64 c87]) (hd_v rfl fun ρ hρ => ⟨rfl, ov_ldN rfl underlying132 rfl sz132 rfl ((hρ 27 (lmem rfl)).trans rfl) hp84 (getN_cons hg88 (getN_cons hg89 (getN_cons hg90 getN_nil)))⟩) rfl rfl
    ffn)))))))))))) ?_
  obtain ⟨b96, i97, aw95, hp98, hw99, ho100, ha101, H⟩ := H
  refine lt_val (dt := none) (v := undef) rfl rfl (fun ρ hρ => ⟨rfl, ov_st rfl rfl rfl ((hρ 6 (lmem rfl)).trans rfl) ((hρ 28 (lmem rfl)).trans rfl) rfl sz132 hp98 hw99 ho100 ha101⟩) ?_
  refine lt_next (l := []) (hv := []) rfl rfl (pv_nil _)
    ffn ?_
  refine lt_end ?_
  refine ago_seqE (rfl : C57_12 = .seq C57_13 C57_14) ?_
  refine ago_cut (fun ρ => ρ 0 = m_0 ∧ ρ 1 = .string s_1 ∧ ρ 5 = p1 ∧ ρ 6 = p91 ∧ True) ⟨h0, h1, rfl, rfl, trivial⟩ (fun ρ ⟨h0, h1, h5, h6, _⟩ => ?_)
  obtain ⟨hp102, H⟩ := H
  obtain ⟨b104, i105, p103, hp106, hv107, H⟩ := H
  obtain ⟨b108, i109, x111, hp110, hg112, H⟩ := H
  obtain ⟨hp113, H⟩ := H
  obtain ⟨b115, i116, p114, hp117, hv118, H⟩ := H
  obtain ⟨b119, i120, x122, hp121, hg123, H⟩ := H
  obtain ⟨q125, l126, c127, n124, hv128, hn129, H⟩ := H
  obtain ⟨v130, hq131, H⟩ := H
  obtain ⟨hp132, H⟩ := H
  obtain ⟨b134, i135, p133, hp136, hv137, H⟩ := H
  refine ago_drawH (p := [0, 1, 2, 3, 4, 5, 6, 7, 8, 9, 10, 11, 12, 13]) (tl := [(14, [], [])]) (hv := [(0, m_0), (1, m_0), (2, m_0), (3, p103), (4, x111), (5, m_0), (6, m_0), (7, p114), (8, x122), (9, Value.int .i64 n124), (10, Value.int .i64 (IntKind.i64.wrap (n124 - 1))), (11, v130), (12, m_0), (13, p133)]) (rfl : C57_13 = .region 4 R57_4 true) mixed R57_4_N R57_4_O rfl (pv_cons rfl (pv_cons rfl (pv_cons rfl (pv_cons rfl (pv_cons rfl (pv_cons rfl (pv_cons rfl (pv_cons rfl (pv_cons rfl (pv_cons rfl (pv_cons rfl (pv_cons rfl (pv_cons rfl (pv_cons rfl (pv_nil _)))))))))))))))
    (fc 29 m_0 (hd_v rfl fun ρ hρ => ⟨rfl, opv_move rfl rfl ((hρ 0 (lmem rfl)).trans h0)⟩) rfl rfl
    (fc 30 m_0 (hd_v rfl fun ρ hρ => ⟨rfl, opv_move rfl rfl ((hρ 0 (lmem rfl)).trans h0)⟩) rfl rfl
    (fc 31 m_0 (hd_v rfl fun ρ hρ => ⟨rfl, ov_nck rfl rfl ((hρ 30 (lmem rfl)).trans rfl) hp102⟩) rfl rfl
    (fc 32 p103 (hd_v rfl fun ρ hρ => ⟨rfl, ov_fldA rfl rfl underlying77 rfl sz71 (by decide) ((hρ 31 (lmem rfl)).trans rfl) hp106 rfl hv107⟩) rfl rfl
    (fc 33 x111 (hd_v rfl fun ρ hρ => ⟨rfl, ov_ldV rfl underlying71 rfl rfl ((hρ 32 (lmem rfl)).trans rfl) hp110 hg112⟩) rfl rfl
    (fc 34 m_0 (hd_v rfl fun ρ hρ => ⟨rfl, opv_move rfl rfl ((hρ 0 (lmem rfl)).trans h0)⟩) rfl rfl
    (fc 35 m_0 (hd_v rfl fun ρ hρ => ⟨rfl, ov_nck rfl rfl ((hρ 34 (lmem rfl)).trans rfl) hp113⟩) rfl rfl
    (fc 36 p114 (hd_v rfl fun ρ hρ => ⟨rfl, ov_fldA rfl rfl underlying77 rfl sz71 (by decide) ((hρ 35 (lmem rfl)).trans rfl) hp117 rfl hv118⟩) rfl rfl
    (fc 37 x122 (hd_v rfl fun ρ hρ => ⟨rfl, ov_ldV rfl underlying71 rfl rfl ((hρ 36 (lmem rfl)).trans rfl) hp121 hg123⟩) rfl rfl
    (fc 38 (.int .i64 n124) (hd_v rfl fun ρ hρ => ⟨rfl, ov_len rfl rfl rfl underlying71 ((hρ 37 (lmem rfl)).trans rfl) hv128 hn129⟩) rfl rfl
    (fc 39 (.int .i64 (IntKind.i64.wrap (n124 - 1))) (hd_v rfl fun ρ hρ => ⟨rfl, opv_sub rfl rfl rfl ((hρ 38 (lmem rfl)).trans rfl) rfl⟩) rfl rfl
    (fc 40 v130 (hd_v rfl fun ρ hρ => ⟨rfl, ov_cutV rfl rfl underlying71 sz132 ((hρ 33 (lmem rfl)).trans rfl) (bndN _ _ _) (bndS ((hρ 39 (lmem rfl)).trans rfl)) hq131⟩) rfl rfl
    (fc 41 m_0 (hd_v rfl fun ρ hρ => ⟨rfl, ov_nck rfl rfl ((hρ 29 (lmem rfl)).trans rfl) hp132⟩) rfl rfl
    (fc 42 p133 (hd_v rfl fun ρ hρ => ⟨rfl, ov_fldA rfl rfl underlying77 rfl sz71 (by decide) ((hρ 41 (lmem rfl)).trans rfl) hp136 rfl hv137⟩) rfl rfl
    ffn)))))))))))))) ?_
  obtain ⟨b139, i140, aw138, hp141, hw142, ho143, ha144, H⟩ := H
  refine lt_val (dt := none) (v := undef) rfl rfl (fun ρ hρ => ⟨rfl, ov_st rfl rfl rfl ((hρ 42 (lmem rfl)).trans rfl) ((hρ 40 (lmem rfl)).trans rfl) (cells_all ho143) sz71 hp141 hw142 ho143 ha144⟩) ?_
  refine lt_next (l := []) (hv := []) rfl rfl (pv_nil _)
    ffn ?_
  refine lt_end ?_
  refine ago_seqE (rfl : C57_14 = .seq C57_15 C57_16) ?_
  refine ago_cut (fun ρ => ρ 0 = m_0 ∧ ρ 1 = .string s_1 ∧ ρ 5 = p1 ∧ ρ 6 = p91 ∧ True) ⟨h0, h1, h5, h6, trivial⟩ (fun ρ ⟨h0, h1, h5, h6, _⟩ => ?_)
  obtain ⟨hp145, H⟩ := H
  obtain ⟨b147, i148, p146, hp149, hv150, H⟩ := H
  obtain ⟨b151, i152, x154, hp153, hg155, H⟩ := H
  obtain ⟨b157, i158, p156, hp159, hv160, H⟩ := H
  obtain ⟨b161, i162, x164, hp163, hg165, H⟩ := H
  obtain ⟨v166, hq167, H⟩ := H
  obtain ⟨hp168, H⟩ := H
  obtain ⟨b170, i171, p169, hp172, hv173, H⟩ := H
  obtain ⟨b174, i175, x177, hp176, hg178, H⟩ := H
  obtain ⟨b180, i181, p179, hp182, hv183, H⟩ := H
  obtain ⟨b184, i185, x187, hp186, hg188, H⟩ := H
  obtain ⟨v189, hq190, H⟩ := H
  obtain ⟨hp191, H⟩ := H
  obtain ⟨b193, i194, p192, hp195, hv196, H⟩ := H
  refine ago_drawH (p := [0, 1, 2, 3, 4, 5, 6, 7, 8, 9, 10, 11, 12, 13, 14, 15, 16, 17]) (tl := [(18, [1, 13, 14, 15], [19, 20]), (21, [], [])]) (hv := [(0, m_0), (1, m_0), (2, m_0), (3, m_0), (4, p146), (5, x154), (6, p156), (7, Value.int .i64 x164), (8, v166), (9, m_0), (10, m_0), (11, p169), (12, x177), (13, p179), (14, Value.int .i64 x187), (15, v189), (16, m_0), (17, p192)]) (rfl : C57_15 = .region 5 R57_5 true) mixed R57_5_N R57_5_O rfl (pv_cons rfl (pv_cons rfl (pv_cons rfl (pv_cons rfl (pv_cons rfl (pv_cons rfl (pv_cons rfl (pv_cons rfl (pv_cons rfl (pv_cons rfl (pv_cons rfl (pv_cons rfl (pv_cons rfl (pv_cons rfl (pv_cons rfl (pv_cons rfl (pv_cons rfl (pv_cons rfl (pv_nil _)))))))))))))))))))
    (fc 43 m_0 (hd_v rfl fun ρ hρ => ⟨rfl, opv_move rfl rfl ((hρ 0 (lmem rfl)).trans h0)⟩) rfl rfl
    (fc 44 m_0 (hd_v rfl fun ρ hρ => ⟨rfl, opv_move rfl rfl ((hρ 0 (lmem rfl)).trans h0)⟩) rfl rfl
    (fc 45 m_0 (hd_v rfl fun ρ hρ => ⟨rfl, opv_move rfl rfl ((hρ 0 (lmem rfl)).trans h0)⟩) rfl rfl
    (fc 46 m_0 (hd_v rfl fun ρ hρ => ⟨rfl, ov_nck rfl rfl ((hρ 45 (lmem rfl)).trans rfl) hp145⟩) rfl rfl
    (fc 47 p146 (hd_v rfl fun ρ hρ => ⟨rfl, ov_fldA rfl rfl underlying77 rfl sz70 (by decide) ((hρ 46 (lmem rfl)).trans rfl) hp149 rfl hv150⟩) rfl rfl
    (fc 48 x154 (hd_v rfl fun ρ hρ => ⟨rfl, ov_ldV rfl underlying70 rfl rfl ((hρ 47 (lmem rfl)).trans rfl) hp153 hg155⟩) rfl rfl
    (fc 49 p156 (hd_v rfl fun ρ hρ => ⟨rfl, ov_fldA rfl rfl underlying132 rfl sz3 (by decide) ((hρ 6 (lmem rfl)).trans h6) hp159 rfl hv160⟩) rfl rfl
    (fc 50 (.int .i64 x164) (hd_v rfl fun ρ hρ => ⟨rfl, ov_ldI rfl underlying3 rfl ((hρ 49 (lmem rfl)).trans rfl) hp163 hg165⟩) rfl rfl
    (fc 51 v166 (hd_v rfl fun ρ hρ => ⟨rfl, ov_cutV rfl rfl underlying70 sz85 ((hρ 48 (lmem rfl)).trans rfl) (bndN _ _ _) (bndS ((hρ 50 (lmem rfl)).trans rfl)) hq167⟩) rfl rfl
    (fc 52 m_0 (hd_v rfl fun ρ hρ => ⟨rfl, opv_move rfl rfl ((hρ 0 (lmem rfl)).trans h0)⟩) rfl rfl
    (fc 53 m_0 (hd_v rfl fun ρ hρ => ⟨rfl, ov_nck rfl rfl ((hρ 52 (lmem rfl)).trans rfl) hp168⟩) rfl rfl
    (fc 54 p169 (hd_v rfl fun ρ hρ => ⟨rfl, ov_fldA rfl rfl underlying77 rfl sz62 (by decide) ((hρ 53 (lmem rfl)).trans rfl) hp172 rfl hv173⟩) rfl rfl
    (fc 55 x177 (hd_v rfl fun ρ hρ => ⟨rfl, ov_ldV rfl underlying62 rfl rfl ((hρ 54 (lmem rfl)).trans rfl) hp176 hg178⟩) rfl rfl
    (fc 56 p179 (hd_v rfl fun ρ hρ => ⟨rfl, ov_fldA rfl rfl underlying132 rfl sz3 (by decide) ((hρ 6 (lmem rfl)).trans h6) hp182 rfl hv183⟩) rfl rfl
    (fc 57 (.int .i64 x187) (hd_v rfl fun ρ hρ => ⟨rfl, ov_ldI rfl underlying3 rfl ((hρ 56 (lmem rfl)).trans rfl) hp186 hg188⟩) rfl rfl
    (fc 58 v189 (hd_v rfl fun ρ hρ => ⟨rfl, ov_cutV rfl rfl underlying62 sz26 ((hρ 55 (lmem rfl)).trans rfl) (bndN _ _ _) (bndS ((hρ 57 (lmem rfl)).trans rfl)) hq190⟩) rfl rfl
    (fc 59 m_0 (hd_v rfl fun ρ hρ => ⟨rfl, ov_nck rfl rfl ((hρ 43 (lmem rfl)).trans rfl) hp191⟩) rfl rfl
    (fc 60 p192 (hd_v rfl fun ρ hρ => ⟨rfl, ov_fldA rfl rfl underlying77 rfl sz70 (by decide) ((hρ 59 (lmem rfl)).trans rfl) hp195 rfl hv196⟩) rfl rfl
    ffn)))))))))))))))))) ?_
  obtain ⟨b198, i199, aw197, hp200, hw201, ho202, ha203, H⟩ := H
  refine lt_val (dt := none) (v := undef) rfl rfl (fun ρ hρ => ⟨rfl, ov_st rfl rfl rfl ((hρ 60 (lmem rfl)).trans rfl) ((hρ 51 (lmem rfl)).trans rfl) (cells_all ho202) sz70 hp200 hw201 ho202 ha203⟩) ?_
  obtain ⟨hg188, H⟩ := H
  replace hg188 := hg188 _ _ hp186
  obtain ⟨hq190, H⟩ := H
  obtain ⟨hp204, H⟩ := H
  obtain ⟨b206, i207, p205, hp208, hv209, H⟩ := H
  refine lt_next (l := [1, 13, 14, 15, 19, 20]) (hv := [(19, m_0), (20, p205)]) rfl rfl (pv_cons rfl (pv_cons rfl (pv_nil _)))
    (fc 44 m_0 (hd_v rfl fun ρ hρ => ⟨rfl, opv_move rfl rfl ((hρ 0 (lmem rfl)).trans h0)⟩) rfl rfl
    (fc 56 p179 (hd_v rfl fun ρ hρ => ⟨rfl, ov_fldA rfl rfl underlying132 rfl sz3 (by decide) ((hρ 6 (lmem rfl)).trans h6) hp182 rfl hv183⟩) rfl rfl
    (fc 57 (.int .i64 x187) (hd_v rfl fun ρ hρ => ⟨rfl, ov_ldI rfl underlying3 rfl ((hρ 56 (lmem rfl)).trans rfl) hp186 hg188⟩) rfl rfl
    (fc 58 v189 (hd_v rfl fun ρ hρ => ⟨rfl, ov_cutV rfl rfl underlying62 sz26 ((hρ 55 (lmem rfl)).trans rfl) (bndN _ _ _) (bndS ((hρ 57 (lmem rfl)).trans rfl)) hq190⟩) rfl rfl
    (fc 61 m_0 (hd_v rfl fun ρ hρ => ⟨rfl, ov_nck rfl rfl ((hρ 44 (lmem rfl)).trans rfl) hp204⟩) rfl rfl
    (fc 62 p205 (hd_v rfl fun ρ hρ => ⟨rfl, ov_fldA rfl rfl underlying77 rfl sz62 (by decide) ((hρ 61 (lmem rfl)).trans rfl) hp208 rfl hv209⟩) rfl rfl
    ffn)))))) ?_
  obtain ⟨b211, i212, aw210, hp213, hw214, ho215, ha216, H⟩ := H
  refine lt_val (dt := none) (v := undef) rfl rfl (fun ρ hρ => ⟨rfl, ov_st rfl rfl rfl ((hρ 62 (lmem rfl)).trans rfl) ((hρ 58 (lmem rfl)).trans rfl) (cells_all ho215) sz62 hp213 hw214 ho215 ha216⟩) ?_
  refine lt_next (l := []) (hv := []) rfl rfl (pv_nil _)
    ffn ?_
  refine lt_end ?_
  refine ago_seqE (rfl : C57_16 = .seq C57_17 C57_18) ?_
  refine ago_cut (fun ρ => ρ 0 = m_0 ∧ ρ 1 = .string s_1 ∧ ρ 5 = p1 ∧ ρ 6 = p91 ∧ True) ⟨h0, h1, h5, h6, trivial⟩ (fun ρ ⟨h0, h1, h5, h6, _⟩ => ?_)
  obtain ⟨hp217, H⟩ := H
  obtain ⟨b219, i220, p218, hp221, hv222, H⟩ := H
  obtain ⟨b223, i224, x226, hp225, hg227, H⟩ := H
  obtain ⟨b229, i230, p228, hp231, hv232, H⟩ := H
  obtain ⟨b233, i234, x236, hp235, hg237, H⟩ := H
  obtain ⟨b239, i240, p238, hp241, hv242, H⟩ := H
  obtain ⟨b243, i244, x246, hp245, hg247, H⟩ := H
  obtain ⟨b249, i250, l251, c252, p248, hp253, h0254, hj255, hv256, H⟩ := H
  obtain ⟨b258, i259, p257, hp260, hv261, H⟩ := H
  refine ago_drawH (p := [0, 1, 2, 3, 4, 5, 6, 7, 8, 9, 10]) (tl := [(11, [], [])]) (hv := [(0, m_0), (1, m_0), (2, p218), (3, x226), (4, p228), (5, Value.int .i64 x236), (6, Value.int .i64 (IntKind.i64.wrap (x236 - 1))), (7, p238), (8, Value.int .i64 x246), (9, p248), (10, p257)]) (rfl : C57_17 = .region 6 R57_6 true) mixed R57_6_N R57_6_O rfl (pv_cons rfl (pv_cons rfl (pv_cons rfl (pv_cons rfl (pv_cons rfl (pv_cons rfl (pv_cons rfl (pv_cons rfl (pv_cons rfl (pv_cons rfl (pv_cons rfl (pv_nil _))))))))))))
    (fc 63 m_0 (hd_v rfl fun ρ hρ => ⟨rfl, opv_move rfl rfl ((hρ 0 (lmem rfl)).trans h0)⟩) rfl rfl
    (fc 64 m_0 (hd_v rfl fun ρ hρ => ⟨rfl, ov_nck rfl rfl ((hρ 63 (lmem rfl)).trans rfl) hp217⟩) rfl rfl
    (fc 65 p218 (hd_v rfl fun ρ hρ => ⟨rfl, ov_fldA rfl rfl underlying77 rfl sz70 (by decide) ((hρ 64 (lmem rfl)).trans rfl) hp221 rfl hv222⟩) rfl rfl
    (fc 66 x226 (hd_v rfl fun ρ hρ => ⟨rfl, ov_ldV rfl underlying70 rfl rfl ((hρ 65 (lmem rfl)).trans rfl) hp225 hg227⟩) rfl rfl
    (fc 67 p228 (hd_v rfl fun ρ hρ => ⟨rfl, ov_fldA rfl rfl underlying132 rfl sz3 (by decide) ((hρ 6 (lmem rfl)).trans h6) hp231 rfl hv232⟩) rfl rfl
    (fc 68 (.int .i64 x236) (hd_v rfl fun ρ hρ => ⟨rfl, ov_ldI rfl underlying3 rfl ((hρ 67 (lmem rfl)).trans rfl) hp235 hg237⟩) rfl rfl
    (fc 69 (.int .i64 (IntKind.i64.wrap (x236 - 1))) (hd_v rfl fun ρ hρ => ⟨rfl, opv_sub rfl rfl rfl ((hρ 68 (lmem rfl)).trans rfl) rfl⟩) rfl rfl
    (fc 70 p238 (hd_v rfl fun ρ hρ => ⟨rfl, ov_fldA rfl rfl underlying132 rfl sz3 (by decide) ((hρ 6 (lmem rfl)).trans h6) hp241 rfl hv242⟩) rfl rfl
    (fc 71 (.int .i64 x246) (hd_v rfl fun ρ hρ => ⟨rfl, ov_ldI rfl underlying3 rfl ((hρ 70 (lmem rfl)).trans rfl) hp245 hg247⟩) rfl rfl
    (fc 72 p248 (hd_v rfl fun ρ hρ => ⟨rfl, ov_ixS rfl rfl rfl underlying70 sz85 ((hρ 66 (lmem rfl)).trans rfl) ((hρ 69 (lmem rfl)).trans rfl) hp253 h0254 hj255 hv256⟩) rfl rfl
    (fc 73 p257 (hd_v rfl fun ρ hρ => ⟨rfl, ov_fldA rfl rfl underlying85 rfl sz3 (by decide) ((hρ 72 (lmem rfl)).trans rfl) hp260 rfl hv261⟩) rfl rfl
    ffn))))))))))) ?_
  obtain ⟨b263, i264, aw262, hp265, hw266, ho267, ha268, H⟩ := H
  refine lt_val (dt := none) (v := undef) rfl rfl (fun ρ hρ => ⟨rfl, ov_st rfl rfl rfl ((hρ 73 (lmem rfl)).trans rfl) ((hρ 71 (lmem rfl)).trans rfl) rfl sz3 hp265 hw266 ho267 ha268⟩) ?_
  refine lt_next (l := []) (hv := []) rfl rfl (pv_nil _)
    ffn ?_
  refine lt_end ?_
  refine ago_seqE (rfl : C57_18 = .seq C57_19 C57_26) ?_
  refine ago_seqE (rfl : C57_19 = .seq C57_20 C57_21) ?_
  refine ago_cut (fun ρ => ρ 0 = m_0 ∧ ρ 1 = .string s_1 ∧ ρ 5 = p1 ∧ True) ⟨h0, h1, h5, trivial⟩ (fun ρ ⟨h0, h1, h5, _⟩ => ?_)
  refine ago_regE (rfl : C57_20 = .region 7 R57_7 false) (l := [0, 1, 2, 3, 4, 5]) rfl ?_
  refine lj 74 R57_7_N rfl rfl rfl (opv_move rfl rfl h0) ?_
  refine lj 75 R57_7_N rfl rfl rfl (opv_move rfl rfl h1) ?_
  refine lj 76 R57_7_N rfl rfl rfl (opv_lenS rfl rfl rfl underlying9 rfl) ?_
  refine lc 77 R57_7_N rfl rfl rfl (opc_of rfl rfl is53 (ma_cons rfl (ma_cons rfl rfl))) H (fun _ _ h => ⟨rfl, h⟩) fun r269 aw270 H => ?_
  refine lc 78 R57_7_N rfl rfl rfl (opc_of rfl rfl is67 (ma_cons rfl (ma_cons rfl rfl))) H (fun _ _ h => ⟨rfl, h⟩) fun r271 aw272 H => ?_
  refine lj 79 R57_7_N rfl rfl rfl (opv_not rfl rfl rfl) ?_
  refine aops_nil ?_
  refine ago_condE  (rfl : C57_21 = .cond (.tmp 79) C57_22 C57_25) rfl rfl (fun hb273 => ?_) (fun hb273 => ?_)
  · exact (cnd_t H hb273).elim
  replace H := cnd_f H hb273
  refine ago_skipE (rfl : C57_25 = .skip) ?_
  refine ago_seqE (rfl : C57_26 = .seq C57_27 C57_28) ?_
  refine ago_regE (rfl : C57_27 = .region 9 R57_9 false) (l := [0, 1, 2, 3, 4, 5, 6, 7, 8, 9, 10]) rfl ?_
  refine lj 82 R57_9_N rfl rfl rfl (opv_move rfl rfl h0) ?_
  obtain ⟨hp274, H⟩ := H
  refine lj 83 R57_9_N rfl rfl rfl (ov_nck rfl rfl rfl hp274) ?_
  obtain ⟨b276, i277, p275, hp278, hv279, H⟩ := H
  refine lj 84 R57_9_N rfl rfl rfl (ov_fldA rfl rfl underlying77 rfl sz50 (by decide) rfl hp278 rfl hv279) ?_
  obtain ⟨b280, i281, x283, hp282, hg284, H⟩ := H
  refine lj 85 R57_9_N rfl rfl rfl (ov_ldV rfl underlying50 rfl rfl rfl hp282 hg284) ?_
  refine lj 86 R57_9_N rfl rfl rfl (opv_move rfl rfl h1) ?_
  refine lc 87 R57_9_N rfl rfl rfl (opc_of rfl rfl is68 (ma_cons rfl (ma_cons rfl (ma_cons rfl rfl)))) H (fun _ _ h => ⟨rfl, h⟩) fun r285 aw286 H => ?_
  refine lj 81 R57_9_N rfl rfl rfl (opv_move rfl rfl rfl) ?_
  refine lj 88 R57_9_N rfl rfl rfl (opv_extract rfl rfl rfl rfl) ?_
  refine lj 89 R57_9_N rfl rfl rfl (opv_extract rfl rfl rfl rfl) ?_
  refine lj 7 R57_9_N rfl rfl rfl (opv_assign rfl rfl rfl) ?_
  refine lj 8 R57_9_N rfl rfl rfl (opv_assign rfl rfl rfl) ?_
  refine aops_nil ?_
  refine ago_seqE (rfl : C57_28 = .seq C57_29 C57_30) ?_
  refine ago_cut (fun ρ => ρ 0 = m_0 ∧ ρ 5 = p1 ∧ ρ 7 = .int .u64 r285.1 ∧ True) ⟨h0, h5, rfl, trivial⟩ (fun ρ ⟨h0, h5, h7, _⟩ => ?_)
  refine ago_regE (rfl : C57_29 = .region 10 R57_10 false) (l := [0, 1, 2]) rfl ?_
  refine lj 90 R57_10_N rfl rfl rfl (opv_move rfl rfl h0) ?_
  refine lj 91 R57_10_N rfl rfl rfl (opv_move rfl rfl h7) ?_
  refine lc 92 R57_10_N rfl rfl rfl (opc_of rfl rfl is34 (ma_cons rfl (ma_cons rfl rfl))) H (fun _ _ h => ⟨rfl, h⟩) fun r287 aw288 H => ?_
  refine aops_nil ?_
  refine ago_seqE (rfl : C57_30 = .seq C57_31 C57_32) ?_
  obtain ⟨b289, i290, hp291, c292, hg298, c293, hg299, c294, hg300, c295, hg301, c296, hg302, c297, hg303, H⟩ := H
  refine ago_drawH (p := [0, 1]) (tl := [(2, [], [])]) (hv := [(0, Value.agg #[.int .i64 c292, .int .u64 c293, .string c294, .string c295, c296, .int .i64 c297]), (1, Value.bool true)]) (rfl : C57_31 = .region 11 R57_11 true) mixed R57_11_N R57_11_O rfl (pv_cons rfl (pv_cons rfl (pv_nil _)))
    (fc 93 (.agg #[.int .i64 c292, .int .u64 c293, .string c294, .string c295, c296, .int .i64 c297]) (hd_v rfl fun ρ hρ => ⟨rfl, ov_ldN rfl underlying29 rfl sz29 rfl ((hρ 5 (lmem rfl)).trans h5) hp291 (getN_cons hg298 (getN_cons hg299 (getN_cons hg300 (getN_cons hg301 (getN_cons hg302 (getN_cons hg303 getN_nil))))))⟩) rfl rfl
    (fc 4 (.bool true) (hd_v rfl fun ρ hρ => ⟨rfl, opv_assign rfl rfl rfl⟩) rfl rfl
    ffn)) ?_
  obtain ⟨b305, i306, aw304, hp307, hw308, ho309, ha310, H⟩ := H
  refine lt_val (dt := none) (v := undef) rfl rfl (fun ρ hρ => ⟨rfl, ov_st rfl rfl rfl ((hρ 5 (lmem rfl)).trans h5) ((hρ 93 (lmem rfl)).trans rfl) rfl sz29 hp307 hw308 ho309 ha310⟩) ?_
  refine lt_next (l := []) (hv := []) rfl rfl (pv_nil _)
    ffn ?_
  refine lt_end ?_
  obtain ⟨b311, i312, hp313, c314, hg320, c315, hg321, c316, hg322, c317, hg323, c318, hg324, c319, hg325, H⟩ := H
  exact ago_retE (rfl : C57_32 = .ret) (r := (true, c314, c315, c316, c317, c318, c319)) (ares_2 rfl (oneT rfl) (oneN h5 hp313 underlying29 rfl sz29 (getN_cons hg320 (getN_cons hg321 (getN_cons hg322 (getN_cons hg323 (getN_cons hg324 (getN_cons hg325 getN_nil)))))))) rfl H
theorem F57_ok {Q : (Bool × Int × Int × ByteArray × ByteArray × Value × Int) → AW → Prop} {E : List PanicEntry → AW → Prop} (m_0 : Value) (s_1 : ByteArray) (aw : AW) (H : S57_0 Q E m_0 s_1 aw) : CallP prog 57 [m_0, .string s_1] aw sh57 Q E :=
  callP_of func57 C57_is rfl (Nat.le_of_ble_eq_true rfl) (S57_0_ok Q E _ m_0 s_1 aw rfl rfl H)
def C58_0 := bodyOf f58
theorem C58_is : f58.body = some C58_0 := by kernel_rfl
def C58_1 := cl C58_0
def R58_0 := regOps C58_1
def C58_2 := cr C58_0
def C58_3 := cl C58_2
def R58_1 := regOps C58_3
def C58_4 := cr C58_2
def C58_5 := cl C58_4
def R58_2 := regOps C58_5
def C58_6 := cr C58_4
def C58_7 := cl C58_6
def R58_3 := regOps C58_7
def C58_8 := cr C58_6
def C58_9 := cl C58_8
def C58_10 := cl C58_9
def R58_5 := regOps C58_10
def C58_11 := cr C58_9
def C58_12 := cl C58_11
def R58_6 := regOps C58_12
def C58_13 := cr C58_11
def C58_14 := cl C58_13
def R58_7 := regOps C58_14
def C58_15 := cr C58_13
def C58_16 := cl C58_15
def C58_17 := cr C58_15
def C58_18 := cl C58_17
def R58_9 := regOps C58_18
def C58_19 := cr C58_17
def C58_20 := cl C58_19
def C58_21 := cr C58_19
def C58_22 := cl C58_21
def R58_11 := regOps C58_22
def C58_23 := cr C58_21
def C58_24 := cl C58_23
def C58_25 := cr C58_23
def C58_26 := cl C58_25
def R58_13 := regOps C58_26
def C58_27 := cr C58_25
def C58_28 := cl C58_27
def C58_29 := cr C58_27
def C58_30 := cl C58_29
def R58_15 := regOps C58_30
def C58_31 := cr C58_29
def C58_32 := cl C58_31
def C58_33 := cr C58_31
def C58_34 := cl C58_33
def R58_17 := regOps C58_34
def C58_35 := cr C58_33
def C58_36 := cl C58_35
def C58_37 := cr C58_35
def C58_38 := cl C58_37
def R58_19 := regOps C58_38
def C58_39 := cr C58_37
def C58_40 := cl C58_39
def C58_41 := cr C58_39
def C58_42 := cl C58_41
def R58_21 := regOps C58_42
def C58_43 := cr C58_41
def C58_44 := cl C58_43
def C58_45 := cl C58_44
def R58_22 := regOps C58_45
def C58_46 := cr C58_44
def C58_47 := cl C58_46
def R58_23 := regOps C58_47
def C58_48 := cr C58_46
def R58_24 := regOps C58_48
def C58_49 := cr C58_43
def C58_50 := cl C58_49
def R58_25 := regOps C58_50
def C58_51 := cr C58_49
def C58_52 := cl C58_51
def C58_53 := cr C58_51
def C58_54 := cl C58_53
def R58_27 := regOps C58_54
def C58_55 := cr C58_53
def C58_56 := cl C58_55
def C58_57 := cr C58_55
def C58_58 := cl C58_57
def R58_29 := regOps C58_58
def C58_59 := cr C58_57
def C58_60 := cl C58_59
def C58_61 := cr C58_59
def C58_62 := cl C58_61
def R58_31 := regOps C58_62
def C58_63 := cr C58_61
def C58_64 := cl C58_63
def C58_69 := cr C58_63
def C58_70 := cl C58_69
def R58_34 := regOps C58_70
def C58_71 := cr C58_69
def C58_72 := cl C58_71
def C58_73 := cl C58_72
def R58_35 := regOps C58_73
def C58_74 := cr C58_72
def R58_36 := regOps C58_74
def C58_75 := cr C58_71
def C58_76 := cl C58_75
def R58_37 := regOps C58_76
def C58_77 := cr C58_75
def C58_78 := cl C58_77
def C58_79 := cr C58_77
def C58_80 := cl C58_79
def R58_39 := regOps C58_80
def C58_81 := cr C58_79
def C58_82 := cl C58_81
def C58_83 := cr C58_81
def C58_84 := cl C58_83
def R58_41 := regOps C58_84
def C58_85 := cr C58_83
def C58_86 := cl C58_85
def C58_87 := cr C58_85
def C58_88 := cl C58_87
def R58_43 := regOps C58_88
def C58_89 := cr C58_87
def C58_90 := cl C58_89
def C58_91 := cr C58_89
def C58_92 := cl C58_91
def R58_45 := regOps C58_92
def C58_93 := cr C58_91
def C58_94 := cl C58_93
def C58_95 := cr C58_93
def C58_96 := cl C58_95
def R58_47 := regOps C58_96
def C58_97 := cr C58_95
def C58_98 := cl C58_97
def R58_48 := regOps C58_98
def C58_99 := cr C58_97
def C58_100 := cl C58_99
def R58_49 := regOps C58_100
def C58_101 := cr C58_99
def C58_102 := cl C58_101
def C58_103 := cr C58_101
def C58_104 := cl C58_103
def R58_51 := regOps C58_104
def C58_105 := cr C58_103
def C58_106 := cl C58_105
def R58_52 := regOps C58_106
def C58_107 := cr C58_105
theorem R58_0_N : dstsOk 303 R58_0 = true := by decide +kernel
theorem R58_0_O : linOk R58_0 [0, 1, 2, 3, 4, 5, 6, 7, 8, 9, 10, 11] [] = true := by decide +kernel
theorem R58_1_N : dstsOk 303 R58_1 = true := by decide +kernel
theorem R58_1_O : linOk R58_1 [0, 1, 2, 3, 4, 5, 6, 7, 8, 9, 10, 11, 12, 13, 14, 15, 16] [(17, [0, 1, 2, 3, 4, 5, 6, 7, 8, 9, 10, 11, 12, 13, 14, 15, 16], []), (18, [], [])] = true := by decide +kernel
theorem R58_2_N : dstsOk 303 R58_2 = true := by decide +kernel
theorem R58_3_N : dstsOk 303 R58_3 = true := by decide +kernel
theorem R58_5_N : dstsOk 303 R58_5 = true := by decide +kernel
theorem R58_6_N : dstsOk 303 R58_6 = true := by decide +kernel
theorem R58_7_N : dstsOk 303 R58_7 = true := by decide +kernel
theorem R58_9_N : dstsOk 303 R58_9 = true := by decide +kernel
theorem R58_11_N : dstsOk 303 R58_11 = true := by decide +kernel
theorem R58_13_N : dstsOk 303 R58_13 = true := by decide +kernel
theorem R58_15_N : dstsOk 303 R58_15 = true := by decide +kernel
theorem R58_17_N : dstsOk 303 R58_17 = true := by decide +kernel
theorem R58_19_N : dstsOk 303 R58_19 = true := by decide +kernel
theorem R58_21_N : dstsOk 303 R58_21 = true := by decide +kernel
theorem R58_22_N : dstsOk 303 R58_22 = true := by decide +kernel
theorem R58_23_N : dstsOk 303 R58_23 = true := by decide +kernel
theorem R58_23_O : linOk R58_23 [0, 1, 2, 3, 4, 5, 6, 7, 8, 9, 10, 11] [(12, [0, 1, 2, 3, 4, 5, 6, 7, 8, 9, 10], []), (13, [0], [14, 15]), (16, [], [])] = true := by decide +kernel
theorem R58_24_N : dstsOk 303 R58_24 = true := by decide +kernel
theorem R58_24_O : linOk R58_24 [0, 1, 2, 3, 4, 5, 6, 7, 8, 9, 10, 11, 12, 13] [(14, [], [])] = true := by decide +kernel
theorem R58_25_N : dstsOk 303 R58_25 = true := by decide +kernel
theorem R58_27_N : dstsOk 303 R58_27 = true := by decide +kernel
theorem R58_29_N : dstsOk 303 R58_29 = true := by decide +kernel
theorem R58_31_N : dstsOk 303 R58_31 = true := by decide +kernel
theorem R58_34_N : dstsOk 303 R58_34 = true := by decide +kernel
theorem R58_35_N : dstsOk 303 R58_35 = true := by decide +kernel
theorem R58_36_N : dstsOk 303 R58_36 = true := by decide +kernel
theorem R58_36_O : linOk R58_36 [0, 1, 2, 3, 4, 5, 6, 7, 8, 9, 10, 11, 12, 13, 14] [(15, [0, 1, 2, 3, 4, 5, 6, 7, 8, 9, 10, 11, 12, 13], []), (16, [0], [17, 18]), (19, [], [])] = true := by decide +kernel
theorem R58_37_N : dstsOk 303 R58_37 = true := by decide +kernel
theorem R58_39_N : dstsOk 303 R58_39 = true := by decide +kernel
theorem R58_41_N : dstsOk 303 R58_41 = true := by decide +kernel
theorem R58_43_N : dstsOk 303 R58_43 = true := by decide +kernel
theorem R58_45_N : dstsOk 303 R58_45 = true := by decide +kernel
theorem R58_47_N : dstsOk 303 R58_47 = true := by decide +kernel
theorem R58_48_N : dstsOk 303 R58_48 = true := by decide +kernel
theorem R58_48_O : linOk R58_48 [0, 1, 2, 3, 4, 5, 6, 7, 8, 9, 10, 11, 12, 13, 14, 15, 16, 17] [(18, [0, 1, 2, 3, 4], []), (19, [0], [20, 21]), (22, [], [])] = true := by decide +kernel
theorem R58_49_N : dstsOk 303 R58_49 = true := by decide +kernel
theorem R58_51_N : dstsOk 303 R58_51 = true := by decide +kernel
theorem R58_52_N : dstsOk 303 R58_52 = true := by decide +kernel
def S58_1 (Q : Unit → AW → Prop) (E : List PanicEntry → AW → Prop)  (m_0 : Value) (f_2 : Value) (i_3 : Value) (t_42 : Int) (aw : AW) : Prop :=
  cnd (decide (t_42 = 0)) (fldA i_3 1 fun p2 =>
  ldI .i64 aw p2 fun x10 =>
  CallP prog 14 [.int .i64 x10] aw sh14 (fun r12 aw13 =>
  CallP prog 34 [m_0, .int .u64 r12] aw13 sh34 (fun r14 aw15 =>
  Q () aw15) E) E) (cnd (decide (t_42 = 1)) (False) (cnd (decide (t_42 = 2)) (False) (cnd (decide (t_42 = 3)) (False) (cnd (decide (t_42 = 4)) (False) (cnd (decide (t_42 = 5)) (False) (cnd (decide (t_42 = 6)) (False) (cnd (decide (t_42 = 7)) (False) (cnd (decide (t_42 = 8)) (CallP prog 37 [m_0] aw sh37 (fun r24 aw25 =>
  nck m_0 (fldA m_0 3 fun p27 =>
  ldV aw25 p27 fun x35 =>
  nck f_2 (fldA f_2 2 fun p38 =>
  ldI .i64 aw25 p38 fun x46 =>
  cutV aw25 1 x35 0 (IntKind.i64.wrap (x46 - 1)) fun v48 =>
  alcS aw25 [.int .u64 r24] 26 1 1 fun p50 aw51 =>
  again1 aw51 p27 (x35) ∧ again1 aw51 p38 (.int .i64 x46) ∧ Cut aw51 1 x35 0 (IntKind.i64.wrap (x46 - 1)) v48 ∧ app aw51 26 1 8 v48 p50 fun v54 aw55 =>
  nck m_0 (fldA m_0 3 fun p58 =>
  st aw55 p58 [v54] fun aw63 =>
  nck m_0 (fldA m_0 4 fun p71 =>
  ldV aw63 p71 fun x79 =>
  nck m_0 (fldA m_0 4 fun p82 =>
  ldV aw63 p82 fun x90 =>
  slen x90 fun n92 =>
  cutV aw63 3 x79 0 (IntKind.i64.wrap (n92 - 1)) fun v98 =>
  nck m_0 (fldA m_0 4 fun p101 =>
  st aw63 p101 [v98] fun aw106 =>
  Q () aw106))))))) E) (cnd (decide (t_42 = 9)) (False) (cnd (decide (t_42 = 10)) (False) (cnd (decide (t_42 = 12)) (False) (cnd (decide (t_42 = 13)) (False) (cnd (decide (t_42 = 18)) (CallP prog 37 [m_0] aw sh37 (fun r118 aw119 =>
  nck m_0 (fldA m_0 3 fun p121 =>
  ldV aw119 p121 fun x129 =>
  nck m_0 (fldA m_0 3 fun p132 =>
  ldV aw119 p132 fun x140 =>
  slen x140 fun n142 =>
  fldA i_3 1 fun p148 =>
  ldI .i64 aw119 p148 fun x156 =>
  cutV aw119 1 x129 0 (IntKind.i64.wrap (n142 - x156)) fun v158 =>
  alcS aw119 [.int .u64 r118] 26 1 1 fun p160 aw161 =>
  again1 aw161 p121 (x129) ∧ again1 aw161 p132 (x140) ∧ again1 aw161 p148 (.int .i64 x156) ∧ Cut aw161 1 x129 0 (IntKind.i64.wrap (n142 - x156)) v158 ∧ app aw161 26 1 8 v158 p160 fun v164 aw165 =>
  nck m_0 (fldA m_0 3 fun p168 =>
  st aw165 p168 [v164] fun aw173 =>
  Q () aw173)))) E) (cnd (decide (t_42 = 19)) (False) (cnd (decide (t_42 = 20)) (False) (cnd (decide (t_42 = 21)) (False) (cnd (decide (t_42 = 22)) (False) (cnd (decide (t_42 = 23)) (False) (cnd (decide (t_42 = 24)) (nck m_0 (fldA m_0 5 fun p187 =>
  ldV aw p187 fun x195 =>
  nck m_0 (fldA m_0 4 fun p198 =>
  ldV aw p198 fun x206 =>
  slen x206 fun n208 =>
  nck m_0 (fldA m_0 3 fun p215 =>
  ldV aw p215 fun x223 =>
  slen x223 fun n225 =>
  fldA i_3 1 fun p231 =>
  ldI .i64 aw p231 fun x239 =>
  alcS aw [.int .i64 n208, .int .i64 n225, .int .i64 x239] 132 3 1 fun p241 aw242 =>
  again1 aw242 p187 (x195) ∧ app aw242 132 3 24 x195 p241 fun v245 aw246 =>
  nck m_0 (fldA m_0 5 fun p249 =>
  st aw246 p249 [v245] fun aw254 =>
  Q () aw254))))) (cnd (decide (t_42 = 25)) (False) (cnd (decide (t_42 = 26)) (fldA i_3 3 fun p263 =>
  ldS aw p263 fun x271 =>
  E [⟨(.iface 116 (.agg #[.string x271])), false, false⟩] aw) (False))))))))))))))))))))))
def S58_0 (Q : Unit → AW → Prop) (E : List PanicEntry → AW → Prop)  (m_0 : Value) (aw : AW) : Prop :=
  nck m_0 (fldA m_0 4 fun p274 =>
  ldV aw p274 fun x282 =>
  nck m_0 (fldA m_0 4 fun p285 =>
  ldV aw p285 fun x293 =>
  slen x293 fun n295 =>
  ixS x282 (IntKind.i64.wrap (n295 - 1)) 3 fun p301 =>
  nck m_0 (fldA m_0 1 fun p311 =>
  ldV aw p311 fun x319 =>
  nck p301 (fldA p301 0 fun p322 =>
  ldI .i64 aw p322 fun x330 =>
  ixS x319 x330 2 fun p332 =>
  fldA p332 1 fun p341 =>
  ldV aw p341 fun x349 =>
  nck p301 (fldA p301 1 fun p352 =>
  ldI .i64 aw p352 fun x360 =>
  ixS x349 x360 4 fun p362 =>
  ptr p362 fun b371 i372 =>
  gI .u8 aw b371 i372 fun c374 =>
  gI .i64 aw b371 (i372 + 1) fun c375 =>
  gI .i64 aw b371 (i372 + 2) fun c376 =>
  gS aw b371 (i372 + 3) fun c377 =>
  alc aw [.int .u8 0, .int .i64 0, .int .i64 0, .string (⟨#[]⟩ : ByteArray)] 34 0 fun p382 aw383 =>
  again1 aw383 p311 (x319) ∧ again1 aw383 p322 (.int .i64 x330) ∧ again1 aw383 p341 (x349) ∧ again1 aw383 p352 (.int .i64 x360) ∧ aw383.get b371 i372 = some (.int .u8 c374) ∧ aw383.get b371 (i372 + 1) = some (.int .i64 c375) ∧ aw383.get b371 (i372 + 2) = some (.int .i64 c376) ∧ aw383.get b371 (i372 + 3) = some (.string c377) ∧ st aw383 p382 [.int .u8 c374, .int .i64 c375, .int .i64 c376, .string c377] fun aw386 =>
  nck p301 (fldA p301 1 fun p394 =>
  ldI .i64 aw386 p394 fun x402 =>
  nck p301 (fldA p301 1 fun p405 =>
  st aw386 p405 [.int .i64 (IntKind.i64.wrap (x402 + 1))] fun aw410 =>
  fldA p382 0 fun p417 =>
  ldI .u8 aw410 p417 fun x425 =>
  S58_1 Q E  m_0 p301 p382 x425 aw410)))))))
theorem S58_1_ok (Q : Unit → AW → Prop) (E : List PanicEntry → AW → Prop)  (ρ : Env) (m_0 : Value) (f_2 : Value) (i_3 : Value) (t_42 : Int) (aw : AW) (h0 : ρ 0 = m_0) (h2 : ρ 2 = f_2) (h3 : ρ 3 = i_3) (h42 : ρ 42 = .int .u8 t_42) (H : S58_1 Q E  m_0 f_2 i_3 t_42 aw) :
    AGo prog 303 [.code C58_8] ρ [] aw (RR prog f58 303 sh58 Q E) := by
  unfold S58_1 at H
  refine ago_blockE (rfl : C58_8 = .block 0 C58_9) ?_
  refine ago_seqE (rfl : C58_9 = .seq C58_10 C58_11) ?_
  refine ago_regE (rfl : C58_10 = .region 5 R58_5 false) (l := [0, 1]) rfl ?_
  refine lj 47 R58_5_N rfl rfl rfl (opv_eqI rfl rfl rfl h42 rfl) ?_
  refine lj 46 R58_5_N rfl rfl rfl (opv_assign rfl rfl rfl) ?_
  refine aops_nil ?_
  refine ago_condE  (rfl : C58_11 = .cond (.tmp 46) C58_12 C58_13) rfl rfl (fun hb1 => ?_) (fun hb1 => ?_)
  · replace H := cnd_t H hb1
    refine ago_regE (rfl : C58_12 = .region 6 R58_6 false) (l := [0, 1, 2, 3, 4]) rfl ?_
    refine lj 48 R58_6_N rfl rfl rfl (opv_move rfl rfl h0) ?_
    obtain ⟨b3, i4, p2, hp5, hv6, H⟩ := H
    refine lj 49 R58_6_N rfl rfl rfl (ov_fldA rfl rfl underlying34 rfl sz2 (by decide) h3 hp5 rfl hv6) ?_
    obtain ⟨b7, i8, x10, hp9, hg11, H⟩ := H
    refine lj 50 R58_6_N rfl rfl rfl (ov_ldI rfl underlying2 rfl rfl hp9 hg11) ?_
    refine lc 51 R58_6_N rfl rfl rfl (opc_of rfl rfl is14 (ma_cons rfl rfl)) H (fun _ _ h => ⟨rfl, h⟩) fun r12 aw13 H => ?_
    refine lc 52 R58_6_N rfl rfl rfl (opc_of rfl rfl is34 (ma_cons rfl (ma_cons rfl rfl))) H (fun _ _ h => ⟨rfl, h⟩) fun r14 aw15 H => ?_
    refine aops_nil ?_
    refine ago_inBlock ?_
    exact ago_nilR (r := ()) (ares_0 rfl ) rfl H
  replace H := cnd_f H hb1
  refine ago_seqE (rfl : C58_13 = .seq C58_14 C58_15) ?_
  refine ago_regE (rfl : C58_14 = .region 7 R58_7 false) (l := [0, 1]) rfl ?_
  refine lj 54 R58_7_N rfl rfl rfl (opv_eqI rfl rfl rfl h42 rfl) ?_
  refine lj 53 R58_7_N rfl rfl rfl (opv_assign rfl rfl rfl) ?_
  refine aops_nil ?_
  refine ago_condE  (rfl : C58_15 = .cond (.tmp 53) C58_16 C58_17) rfl rfl (fun hb16 => ?_) (fun hb16 => ?_)
  · exact (cnd_t H hb16).elim
  replace H := cnd_f H hb16
  refine ago_seqE (rfl : C58_17 = .seq C58_18 C58_19) ?_
  refine ago_regE (rfl : C58_18 = .region 9 R58_9 false) (l := [0, 1]) rfl ?_
  refine lj 60 R58_9_N rfl rfl rfl (opv_eqI rfl rfl rfl h42 rfl) ?_
  refine lj 59 R58_9_N rfl rfl rfl (opv_assign rfl rfl rfl) ?_
  refine aops_nil ?_
  refine ago_condE  (rfl : C58_19 = .cond (.tmp 59) C58_20 C58_21) rfl rfl (fun hb17 => ?_) (fun hb17 => ?_)
  · exact (cnd_t H hb17).elim
  replace H := cnd_f H hb17
  refine ago_seqE (rfl : C58_21 = .seq C58_22 C58_23) ?_
  refine ago_regE (rfl : C58_22 = .region 11 R58_11 false) (l := [0, 1]) rfl ?_
  refine lj 77 R58_11_N rfl rfl rfl (opv_eqI rfl rfl rfl h42 rfl) ?_
  refine lj 76 R58_11_N rfl rfl rfl (opv_assign rfl rfl rfl) ?_
  refine aops_nil ?_
  refine ago_condE  (rfl : C58_23 = .cond (.tmp 76) C58_24 C58_25) rfl rfl (fun hb18 => ?_) (fun hb18 => ?_)
  · exact (cnd_t H hb18).elim
  replace H := cnd_f H hb18
  refine ago_seqE (rfl : C58_25 = .seq C58_26 C58_27) ?_
  refine ago_regE (rfl : C58_26 = .region 13 R58_13 false) (l := [0, 1]) rfl ?_
  refine lj 97 R58_13_N rfl rfl rfl (opv_eqI rfl rfl rfl h42 rfl) ?_
  refine lj 96 R58_13_N rfl rfl rfl (opv_assign rfl rfl rfl) ?_
  refine aops_nil ?_
  refine ago_condE  (rfl : C58_27 = .cond (.tmp 96) C58_28 C58_29) rfl rfl (fun hb19 => ?_) (fun hb19 => ?_)
  · exact (cnd_t H hb19).elim
  replace H := cnd_f H hb19
  refine ago_seqE (rfl : C58_29 = .seq C58_30 C58_31) ?_
  refine ago_regE (rfl : C58_30 = .region 15 R58_15 false) (l := [0, 1]) rfl ?_
  refine lj 112 R58_15_N rfl rfl rfl (opv_eqI rfl rfl rfl h42 rfl) ?_
  refine lj 111 R58_15_N rfl rfl rfl (opv_assign rfl rfl rfl) ?_
  refine aops_nil ?_
  refine ago_condE  (rfl : C58_31 = .cond (.tmp 111) C58_32 C58_33) rfl rfl (fun hb20 => ?_) (fun hb20 => ?_)
  · exact (cnd_t H hb20).elim
  replace H := cnd_f H hb20
  refine ago_seqE (rfl : C58_33 = .seq C58_34 C58_35) ?_
  refine ago_cut (fun ρ => ρ 0 = m_0 ∧ ρ 2 = f_2 ∧ ρ 3 = i_3 ∧ ρ 42 = .int .u8 t_42 ∧ True) ⟨h0, h2, h3, h42, trivial⟩ (fun ρ ⟨h0, h2, h3, h42, _⟩ => ?_)
  refine ago_regE (rfl : C58_34 = .region 17 R58_17 false) (l := [0, 1]) rfl ?_
  refine lj 124 R58_17_N rfl rfl rfl (opv_eqI rfl rfl rfl h42 rfl) ?_
  refine lj 123 R58_17_N rfl rfl rfl (opv_assign rfl rfl rfl) ?_
  refine aops_nil ?_
  refine ago_condE  (rfl : C58_35 = .cond (.tmp 123) C58_36 C58_37) rfl rfl (fun hb21 => ?_) (fun hb21 => ?_)
  · exact (cnd_t H hb21).elim
  replace H := cnd_f H hb21
  refine ago_seqE (rfl : C58_37 = .seq C58_38 C58_39) ?_
  refine ago_regE (rfl : C58_38 = .region 19 R58_19 false) (l := [0, 1]) rfl ?_
  refine lj 134 R58_19_N rfl rfl rfl (opv_eqI rfl rfl rfl h42 rfl) ?_
  refine lj 133 R58_19_N rfl rfl rfl (opv_assign rfl rfl rfl) ?_
  refine aops_nil ?_
  refine ago_condE  (rfl : C58_39 = .cond (.tmp 133) C58_40 C58_41) rfl rfl (fun hb22 => ?_) (fun hb22 => ?_)
  · exact (cnd_t H hb22).elim
  replace H := cnd_f H hb22
  refine ago_seqE (rfl : C58_41 = .seq C58_42 C58_43) ?_
  refine ago_regE (rfl : C58_42 = .region 21 R58_21 false) (l := [0, 1]) rfl ?_
  refine lj 138 R58_21_N rfl rfl rfl (opv_eqI rfl rfl rfl h42 rfl) ?_
  refine lj 137 R58_21_N rfl rfl rfl (opv_assign rfl rfl rfl) ?_
  refine aops_nil ?_
  refine ago_condE  (rfl : C58_43 = .cond (.tmp 137) C58_44 C58_49) rfl rfl (fun hb23 => ?_) (fun hb23 => ?_)
  · replace H := cnd_t H hb23
    refine ago_seqE (rfl : C58_44 = .seq C58_45 C58_46) ?_
    refine ago_regE (rfl : C58_45 = .region 22 R58_22 false) (l := [0, 1, 2]) rfl ?_
    refine lj 139 R58_22_N rfl rfl rfl (opv_move rfl rfl h0) ?_
    refine lc 140 R58_22_N rfl rfl rfl (opc_of rfl rfl is37 (ma_cons rfl rfl)) H (fun _ _ h => ⟨rfl, h⟩) fun r24 aw25 H => ?_
    refine lj 4 R58_22_N rfl rfl rfl (opv_assign rfl rfl rfl) ?_
    refine aops_nil ?_
    refine ago_seqE (rfl : C58_46 = .seq C58_47 C58_48) ?_
    obtain ⟨hp26, H⟩ := H
    obtain ⟨b28, i29, p27, hp30, hv31, H⟩ := H
    obtain ⟨b32, i33, x35, hp34, hg36, H⟩ := H
    obtain ⟨hp37, H⟩ := H
    obtain ⟨b39, i40, p38, hp41, hv42, H⟩ := H
    obtain ⟨b43, i44, x46, hp45, hg47, H⟩ := H
    obtain ⟨v48, hq49, H⟩ := H
    refine ago_drawH (p := [0, 1, 2, 3, 4, 5, 6, 7, 8, 9, 10, 11]) (tl := [(12, [0, 1, 2, 3, 4, 5, 6, 7, 8, 9, 10], []), (13, [0], [14, 15]), (16, [], [])]) (hv := [(0, m_0), (1, m_0), (2, m_0), (3, p27), (4, x35), (5, f_2), (6, f_2), (7, p38), (8, Value.int .i64 x46), (9, Value.int .i64 (IntKind.i64.wrap (x46 - 1))), (10, v48), (11, Value.int .u64 r24)]) (rfl : C58_47 = .region 23 R58_23 true) mixed R58_23_N R58_23_O rfl (pv_cons rfl (pv_cons rfl (pv_cons rfl (pv_cons rfl (pv_cons rfl (pv_cons rfl (pv_cons rfl (pv_cons rfl (pv_cons rfl (pv_cons rfl (pv_cons rfl (pv_cons rfl (pv_nil _)))))))))))))
      (fc 141 m_0 (hd_v rfl fun ρ hρ => ⟨rfl, opv_move rfl rfl ((hρ 0 (lmem rfl)).trans h0)⟩) rfl rfl
      (fc 142 m_0 (hd_v rfl fun ρ hρ => ⟨rfl, opv_move rfl rfl ((hρ 0 (lmem rfl)).trans h0)⟩) rfl rfl
      (fc 143 m_0 (hd_v rfl fun ρ hρ => ⟨rfl, ov_nck rfl rfl ((hρ 142 (lmem rfl)).trans rfl) hp26⟩) rfl rfl
      (fc 144 p27 (hd_v rfl fun ρ hρ => ⟨rfl, ov_fldA rfl rfl underlying77 rfl sz62 (by decide) ((hρ 143 (lmem rfl)).trans rfl) hp30 rfl hv31⟩) rfl rfl
      (fc 145 x35 (hd_v rfl fun ρ hρ => ⟨rfl, ov_ldV rfl underlying62 rfl rfl ((hρ 144 (lmem rfl)).trans rfl) hp34 hg36⟩) rfl rfl
      (fc 146 f_2 (hd_v rfl fun ρ hρ => ⟨rfl, opv_move rfl rfl ((hρ 2 (lmem rfl)).trans h2)⟩) rfl rfl
      (fc 147 f_2 (hd_v rfl fun ρ hρ => ⟨rfl, ov_nck rfl rfl ((hρ 146 (lmem rfl)).trans rfl) hp37⟩) rfl rfl
      (fc 148 p38 (hd_v rfl fun ρ hρ => ⟨rfl, ov_fldA rfl rfl underlying85 rfl sz3 (by decide) ((hρ 147 (lmem rfl)).trans rfl) hp41 rfl hv42⟩) rfl rfl
      (fc 149 (.int .i64 x46) (hd_v rfl fun ρ hρ => ⟨rfl, ov_ldI rfl underlying3 rfl ((hρ 148 (lmem rfl)).trans rfl) hp45 hg47⟩) rfl rfl
      (fc 150 (.int .i64 (IntKind.i64.wrap (x46 - 1))) (hd_v rfl fun ρ hρ => ⟨rfl, opv_sub rfl rfl rfl ((hρ 149 (lmem rfl)).trans rfl) rfl⟩) rfl rfl
      (fc 151 v48 (hd_v rfl fun ρ hρ => ⟨rfl, ov_cutV rfl rfl underlying62 sz26 ((hρ 145 (lmem rfl)).trans rfl) (bndN _ _ _) (bndS ((hρ 150 (lmem rfl)).trans rfl)) hq49⟩) rfl rfl
      (fc 152 (.int .u64 r24) (hd_v rfl fun ρ hρ => ⟨rfl, opv_move rfl rfl ((hρ 4 (lmem rfl)).trans rfl)⟩) rfl rfl
      ffn)))))))))))) ?_
    obtain ⟨p50, aw51, hp52, ha53, H⟩ := H
    refine lt_val (dt := some 153) (v := p50) rfl rfl (fun ρ hρ => ⟨rfl, ov_bsA (r := [.int .u64 r24]) (vs := [.int .u64 r24]) rfl rfl underlying62 sz26 z26 rfl rfl rfl rfl rfl (mp_cons ((hρ 152 (lmem rfl)).trans rfl) rfl) (.one rfl .nil) hp52 ha53⟩) ?_
    obtain ⟨hg36, H⟩ := H
    replace hg36 := hg36 _ _ hp34
    obtain ⟨hg47, H⟩ := H
    replace hg47 := hg47 _ _ hp45
    obtain ⟨hq49, H⟩ := H
    refine lt_next (l := [0, 1, 2, 3, 4, 5, 6, 7, 8, 9, 10]) (hv := []) rfl rfl (pv_nil _)
      (fc 141 m_0 (hd_v rfl fun ρ hρ => ⟨rfl, opv_move rfl rfl ((hρ 0 (lmem rfl)).trans h0)⟩) rfl rfl
      (fc 142 m_0 (hd_v rfl fun ρ hρ => ⟨rfl, opv_move rfl rfl ((hρ 0 (lmem rfl)).trans h0)⟩) rfl rfl
      (fc 143 m_0 (hd_v rfl fun ρ hρ => ⟨rfl, ov_nck rfl rfl ((hρ 142 (lmem rfl)).trans rfl) hp26⟩) rfl rfl
      (fc 144 p27 (hd_v rfl fun ρ hρ => ⟨rfl, ov_fldA rfl rfl underlying77 rfl sz62 (by decide) ((hρ 143 (lmem rfl)).trans rfl) hp30 rfl hv31⟩) rfl rfl
      (fc 145 x35 (hd_v rfl fun ρ hρ => ⟨rfl, ov_ldV rfl underlying62 rfl rfl ((hρ 144 (lmem rfl)).trans rfl) hp34 hg36⟩) rfl rfl
      (fc 146 f_2 (hd_v rfl fun ρ hρ => ⟨rfl, opv_move rfl rfl ((hρ 2 (lmem rfl)).trans h2)⟩) rfl rfl
      (fc 147 f_2 (hd_v rfl fun ρ hρ => ⟨rfl, ov_nck rfl rfl ((hρ 146 (lmem rfl)).trans rfl) hp37⟩) rfl rfl
      (fc 148 p38 (hd_v rfl fun ρ hρ => ⟨rfl, ov_fldA rfl rfl underlying85 rfl sz3 (by decide) ((hρ 147 (lmem rfl)).trans rfl) hp41 rfl hv42⟩) rfl rfl
      (fc 149 (.int .i64 x46) (hd_v rfl fun ρ hρ => ⟨rfl, ov_ldI rfl underlying3 rfl ((hρ 148 (lmem rfl)).trans rfl) hp45 hg47⟩) rfl rfl
      (fc 150 (.int .i64 (IntKind.i64.wrap (x46 - 1))) (hd_v rfl fun ρ hρ => ⟨rfl, opv_sub rfl rfl rfl ((hρ 149 (lmem rfl)).trans rfl) rfl⟩) rfl rfl
      (fc 151 v48 (hd_v rfl fun ρ hρ => ⟨rfl, ov_cutV rfl rfl underlying62 sz26 ((hρ 145 (lmem rfl)).trans rfl) (bndN _ _ _) (bndS ((hρ 150 (lmem rfl)).trans rfl)) hq49⟩) rfl rfl
      ffn))))))))))) ?_
    obtain ⟨v54, aw55, hq56, H⟩ := H
    refine lt_val (dt := some 154) (v := v54) rfl rfl (fun ρ hρ => ⟨rfl, ov_app rfl rfl rfl rfl underlying62 sz26 by26 underlying62 rfl z26 rfl (by decide) (by decide) ((hρ 151 (lmem rfl)).trans rfl) ((hρ 153 (lmem rfl)).trans rfl) hq56⟩) ?_
    obtain ⟨hp57, H⟩ := H
    obtain ⟨b59, i60, p58, hp61, hv62, H⟩ := H
    refine lt_next (l := [0, 14, 15]) (hv := [(14, m_0), (15, p58)]) rfl rfl (pv_cons rfl (pv_cons rfl (pv_nil _)))
      (fc 141 m_0 (hd_v rfl fun ρ hρ => ⟨rfl, opv_move rfl rfl ((hρ 0 (lmem rfl)).trans h0)⟩) rfl rfl
      (fc 155 m_0 (hd_v rfl fun ρ hρ => ⟨rfl, ov_nck rfl rfl ((hρ 141 (lmem rfl)).trans rfl) hp57⟩) rfl rfl
      (fc 156 p58 (hd_v rfl fun ρ hρ => ⟨rfl, ov_fldA rfl rfl underlying77 rfl sz62 (by decide) ((hρ 155 (lmem rfl)).trans rfl) hp61 rfl hv62⟩) rfl rfl
      ffn))) ?_
    obtain ⟨b64, i65, aw63, hp66, hw67, ho68, ha69, H⟩ := H
    refine lt_val (dt := none) (v := undef) rfl rfl (fun ρ hρ => ⟨rfl, ov_st rfl rfl rfl ((hρ 156 (lmem rfl)).trans rfl) ((hρ 154 (lmem rfl)).trans rfl) (cells_all ho68) sz62 hp66 hw67 ho68 ha69⟩) ?_
    refine lt_next (l := []) (hv := []) rfl rfl (pv_nil _)
      ffn ?_
    refine lt_end ?_
    refine ago_cut (fun ρ => ρ 0 = m_0 ∧ True) ⟨h0, trivial⟩ (fun ρ ⟨h0, _⟩ => ?_)
    obtain ⟨hp70, H⟩ := H
    obtain ⟨b72, i73, p71, hp74, hv75, H⟩ := H
    obtain ⟨b76, i77, x79, hp78, hg80, H⟩ := H
    obtain ⟨hp81, H⟩ := H
    obtain ⟨b83, i84, p82, hp85, hv86, H⟩ := H
    obtain ⟨b87, i88, x90, hp89, hg91, H⟩ := H
    obtain ⟨q93, l94, c95, n92, hv96, hn97, H⟩ := H
    obtain ⟨v98, hq99, H⟩ := H
    obtain ⟨hp100, H⟩ := H
    obtain ⟨b102, i103, p101, hp104, hv105, H⟩ := H
    refine ago_drawH (p := [0, 1, 2, 3, 4, 5, 6, 7, 8, 9, 10, 11, 12, 13]) (tl := [(14, [], [])]) (hv := [(0, m_0), (1, m_0), (2, m_0), (3, p71), (4, x79), (5, m_0), (6, m_0), (7, p82), (8, x90), (9, Value.int .i64 n92), (10, Value.int .i64 (IntKind.i64.wrap (n92 - 1))), (11, v98), (12, m_0), (13, p101)]) (rfl : C58_48 = .region 24 R58_24 true) mixed R58_24_N R58_24_O rfl (pv_cons rfl (pv_cons rfl (pv_cons rfl (pv_cons rfl (pv_cons rfl (pv_cons rfl (pv_cons rfl (pv_cons rfl (pv_cons rfl (pv_cons rfl (pv_cons rfl (pv_cons rfl (pv_cons rfl (pv_cons rfl (pv_nil _)))))))))))))))
      (fc 157 m_0 (hd_v rfl fun ρ hρ => ⟨rfl, opv_move rfl rfl ((hρ 0 (lmem rfl)).trans h0)⟩) rfl rfl
      (fc 158 m_0 (hd_v rfl fun ρ hρ => ⟨rfl, opv_move rfl rfl ((hρ 0 (lmem rfl)).trans h0)⟩) rfl rfl
      (fc 159 m_0 (hd_v rfl fun ρ hρ => ⟨rfl, ov_nck rfl rfl ((hρ 158 (lmem rfl)).trans rfl) hp70⟩) rfl rfl
      (fc 160 p71 (hd_v rfl fun ρ hρ => ⟨rfl, ov_fldA rfl rfl underlying77 rfl sz70 (by decide) ((hρ 159 (lmem rfl)).trans rfl) hp74 rfl hv75⟩) rfl rfl
      (fc 161 x79 (hd_v rfl fun ρ hρ => ⟨rfl, ov_ldV rfl underlying70 rfl rfl ((hρ 160 (lmem rfl)).trans rfl) hp78 hg80⟩) rfl rfl
      (fc 162 m_0 (hd_v rfl fun ρ hρ => ⟨rfl, opv_move rfl rfl ((hρ 0 (lmem rfl)).trans h0)⟩) rfl rfl
      (fc 163 m_0 (hd_v rfl fun ρ hρ => ⟨rfl, ov_nck rfl rfl ((hρ 162 (lmem rfl)).trans rfl) hp81⟩) rfl rfl
      (fc 164 p82 (hd_v rfl fun ρ hρ => ⟨rfl, ov_fldA rfl rfl underlying77 rfl sz70 (by decide) ((hρ 163 (lmem rfl)).trans rfl) hp85 rfl hv86⟩) rfl rfl
      (fc 165 x90 (hd_v rfl fun ρ hρ => ⟨rfl, ov_ldV rfl underlying70 rfl rfl ((hρ 164 (lmem rfl)).trans rfl) hp89 hg91⟩) rfl rfl
      (fc 166 (.int .i64 n92) (hd_v rfl fun ρ hρ => ⟨rfl, ov_len rfl rfl rfl underlying70 ((hρ 165 (lmem rfl)).trans rfl) hv96 hn97⟩) rfl rfl
      (fc 167 (.int .i64 (IntKind.i64.wrap (n92 - 1))) (hd_v rfl fun ρ hρ => ⟨rfl, opv_sub rfl rfl rfl ((hρ 166 (lmem rfl)).trans rfl) rfl⟩) rfl rfl
      (fc 168 v98 (hd_v rfl fun ρ hρ => ⟨rfl, ov_cutV rfl rfl underlying70 sz85 ((hρ 161 (lmem rfl)).trans rfl) (bndN _ _ _) (bndS ((hρ 167 (lmem rfl)).trans rfl)) hq99⟩) rfl rfl
      (fc 169 m_0 (hd_v rfl fun ρ hρ => ⟨rfl, ov_nck rfl rfl ((hρ 157 (lmem rfl)).trans rfl) hp100⟩) rfl rfl
      (fc 170 p101 (hd_v rfl fun ρ hρ => ⟨rfl, ov_fldA rfl rfl underlying77 rfl sz70 (by decide) ((hρ 169 (lmem rfl)).trans rfl) hp104 rfl hv105⟩) rfl rfl
      ffn)))))))))))))) ?_
    obtain ⟨b107, i108, aw106, hp109, hw110, ho111, ha112, H⟩ := H
    refine lt_val (dt := none) (v := undef) rfl rfl (fun ρ hρ => ⟨rfl, ov_st rfl rfl rfl ((hρ 170 (lmem rfl)).trans rfl) ((hρ 168 (lmem rfl)).trans rfl) (cells_all ho111) sz70 hp109 hw110 ho111 ha112⟩) ?_
    refine lt_next (l := []) (hv := []) rfl rfl (pv_nil _)
      ffn ?_
    refine lt_end ?_
    refine ago_inBlock ?_
    exact ago_nilR (r := ()) (ares_0 rfl ) rfl H
  replace H := cnd_f H hb23
  refine ago_seqE (rfl : C58_49 = .seq C58_50 C58_51) ?_
  refine ago_regE (rfl : C58_50 = .region 25 R58_25 false) (l := [0, 1]) rfl ?_
  refine lj 172 R58_25_N rfl rfl rfl (opv_eqI rfl rfl rfl h42 rfl) ?_
  refine lj 171 R58_25_N rfl rfl rfl (opv_assign rfl rfl rfl) ?_
  refine aops_nil ?_
  refine ago_condE  (rfl : C58_51 = .cond (.tmp 171) C58_52 C58_53) rfl rfl (fun hb113 => ?_) (fun hb113 => ?_)
  · exact (cnd_t H hb113).elim
  replace H := cnd_f H hb113
  refine ago_seqE (rfl : C58_53 = .seq C58_54 C58_55) ?_
  refine ago_regE (rfl : C58_54 = .region 27 R58_27 false) (l := [0, 1]) rfl ?_
  refine lj 178 R58_27_N rfl rfl rfl (opv_eqI rfl rfl rfl h42 rfl) ?_
  refine lj 177 R58_27_N rfl rfl rfl (opv_assign rfl rfl rfl) ?_
  refine aops_nil ?_
  refine ago_condE  (rfl : C58_55 = .cond (.tmp 177) C58_56 C58_57) rfl rfl (fun hb114 => ?_) (fun hb114 => ?_)
  · exact (cnd_t H hb114).elim
  replace H := cnd_f H hb114
  refine ago_seqE (rfl : C58_57 = .seq C58_58 C58_59) ?_
  refine ago_regE (rfl : C58_58 = .region 29 R58_29 false) (l := [0, 1]) rfl ?_
  refine lj 186 R58_29_N rfl rfl rfl (opv_eqI rfl rfl rfl h42 rfl) ?_
  refine lj 185 R58_29_N rfl rfl rfl (opv_assign rfl rfl rfl) ?_
  refine aops_nil ?_
  refine ago_condE  (rfl : C58_59 = .cond (.tmp 185) C58_60 C58_61) rfl rfl (fun hb115 => ?_) (fun hb115 => ?_)
  · exact (cnd_t H hb115).elim
  replace H := cnd_f H hb115
  refine ago_seqE (rfl : C58_61 = .seq C58_62 C58_63) ?_
  refine ago_cut (fun ρ => ρ 0 = m_0 ∧ ρ 2 = f_2 ∧ ρ 3 = i_3 ∧ ρ 42 = .int .u8 t_42 ∧ True) ⟨h0, h2, h3, h42, trivial⟩ (fun ρ ⟨h0, h2, h3, h42, _⟩ => ?_)
  refine ago_regE (rfl : C58_62 = .region 31 R58_31 false) (l := [0, 1]) rfl ?_
  refine lj 193 R58_31_N rfl rfl rfl (opv_eqI rfl rfl rfl h42 rfl) ?_
  refine lj 192 R58_31_N rfl rfl rfl (opv_assign rfl rfl rfl) ?_
  refine aops_nil ?_
  refine ago_condE  (rfl : C58_63 = .cond (.tmp 192) C58_64 C58_69) rfl rfl (fun hb116 => ?_) (fun hb116 => ?_)
  · exact (cnd_t H hb116).elim
  replace H := cnd_f H hb116
  refine ago_seqE (rfl : C58_69 = .seq C58_70 C58_71) ?_
  refine ago_regE (rfl : C58_70 = .region 34 R58_34 false) (l := [0, 1]) rfl ?_
  refine lj 204 R58_34_N rfl rfl rfl (opv_eqI rfl rfl rfl h42 rfl) ?_
  refine lj 203 R58_34_N rfl rfl rfl (opv_assign rfl rfl rfl) ?_
  refine aops_nil ?_
  refine ago_condE  (rfl : C58_71 = .cond (.tmp 203) C58_72 C58_75) rfl rfl (fun hb117 => ?_) (fun hb117 => ?_)
  · replace H := cnd_t H hb117
    refine ago_seqE (rfl : C58_72 = .seq C58_73 C58_74) ?_
    refine ago_regE (rfl : C58_73 = .region 35 R58_35 false) (l := [0, 1, 2]) rfl ?_
    refine lj 205 R58_35_N rfl rfl rfl (opv_move rfl rfl h0) ?_
    refine lc 206 R58_35_N rfl rfl rfl (opc_of rfl rfl is37 (ma_cons rfl rfl)) H (fun _ _ h => ⟨rfl, h⟩) fun r118 aw119 H => ?_
    refine lj 5 R58_35_N rfl rfl rfl (opv_assign rfl rfl rfl) ?_
    refine aops_nil ?_
    obtain ⟨hp120, H⟩ := H
    obtain ⟨b122, i123, p121, hp124, hv125, H⟩ := H
    obtain ⟨b126, i127, x129, hp128, hg130, H⟩ := H
    obtain ⟨hp131, H⟩ := H
    obtain ⟨b133, i134, p132, hp135, hv136, H⟩ := H
    obtain ⟨b137, i138, x140, hp139, hg141, H⟩ := H
    obtain ⟨q143, l144, c145, n142, hv146, hn147, H⟩ := H
    obtain ⟨b149, i150, p148, hp151, hv152, H⟩ := H
    obtain ⟨b153, i154, x156, hp155, hg157, H⟩ := H
    obtain ⟨v158, hq159, H⟩ := H
    refine ago_drawH (p := [0, 1, 2, 3, 4, 5, 6, 7, 8, 9, 10, 11, 12, 13, 14]) (tl := [(15, [0, 1, 2, 3, 4, 5, 6, 7, 8, 9, 10, 11, 12, 13], []), (16, [0], [17, 18]), (19, [], [])]) (hv := [(0, m_0), (1, m_0), (2, m_0), (3, p121), (4, x129), (5, m_0), (6, m_0), (7, p132), (8, x140), (9, Value.int .i64 n142), (10, p148), (11, Value.int .i64 x156), (12, Value.int .i64 (IntKind.i64.wrap (n142 - x156))), (13, v158), (14, Value.int .u64 r118)]) (rfl : C58_74 = .region 36 R58_36 true) mixed R58_36_N R58_36_O rfl (pv_cons rfl (pv_cons rfl (pv_cons rfl (pv_cons rfl (pv_cons rfl (pv_cons rfl (pv_cons rfl (pv_cons rfl (pv_cons rfl (pv_cons rfl (pv_cons rfl (pv_cons rfl (pv_cons rfl (pv_cons rfl (pv_cons rfl (pv_nil _))))))))))))))))
      (fc 207 m_0 (hd_v rfl fun ρ hρ => ⟨rfl, opv_move rfl rfl ((hρ 0 (lmem rfl)).trans h0)⟩) rfl rfl
      (fc 208 m_0 (hd_v rfl fun ρ hρ => ⟨rfl, opv_move rfl rfl ((hρ 0 (lmem rfl)).trans h0)⟩) rfl rfl
      (fc 209 m_0 (hd_v rfl fun ρ hρ => ⟨rfl, ov_nck rfl rfl ((hρ 208 (lmem rfl)).trans rfl) hp120⟩) rfl rfl
      (fc 210 p121 (hd_v rfl fun ρ hρ => ⟨rfl, ov_fldA rfl rfl underlying77 rfl sz62 (by decide) ((hρ 209 (lmem rfl)).trans rfl) hp124 rfl hv125⟩) rfl rfl
      (fc 211 x129 (hd_v rfl fun ρ hρ => ⟨rfl, ov_ldV rfl underlying62 rfl rfl ((hρ 210 (lmem rfl)).trans rfl) hp128 hg130⟩) rfl rfl
      (fc 212 m_0 (hd_v rfl fun ρ hρ => ⟨rfl, opv_move rfl rfl ((hρ 0 (lmem rfl)).trans h0)⟩) rfl rfl
      (fc 213 m_0 (hd_v rfl fun ρ hρ => ⟨rfl, ov_nck rfl rfl ((hρ 212 (lmem rfl)).trans rfl) hp131⟩) rfl rfl
      (fc 214 p132 (hd_v rfl fun ρ hρ => ⟨rfl, ov_fldA rfl rfl underlying77 rfl sz62 (by decide) ((hρ 213 (lmem rfl)).trans rfl) hp135 rfl hv136⟩) rfl rfl
      (fc 215 x140 (hd_v rfl fun ρ hρ => ⟨rfl, ov_ldV rfl underlying62 rfl rfl ((hρ 214 (lmem rfl)).trans rfl) hp139 hg141⟩) rfl rfl
      (fc 216 (.int .i64 n142) (hd_v rfl fun ρ hρ => ⟨rfl, ov_len rfl rfl rfl underlying62 ((hρ 215 (lmem rfl)).trans rfl) hv146 hn147⟩) rfl rfl
      (fc 217 p148 (hd_v rfl fun ρ hρ => ⟨rfl, ov_fldA rfl rfl underlying34 rfl sz2 (by decide) ((hρ 3 (lmem rfl)).trans h3) hp151 rfl hv152⟩) rfl rfl
      (fc 218 (.int .i64 x156) (hd_v rfl fun ρ hρ => ⟨rfl, ov_ldI rfl underlying2 rfl ((hρ 217 (lmem rfl)).trans rfl) hp155 hg157⟩) rfl rfl
      (fc 219 (.int .i64 (IntKind.i64.wrap (n142 - x156))) (hd_v rfl fun ρ hρ => ⟨rfl, opv_sub rfl rfl rfl ((hρ 216 (lmem rfl)).trans rfl) ((hρ 218 (lmem rfl)).trans rfl)⟩) rfl rfl
      (fc 220 v158 (hd_v rfl fun ρ hρ => ⟨rfl, ov_cutV rfl rfl underlying62 sz26 ((hρ 211 (lmem rfl)).trans rfl) (bndN _ _ _) (bndS ((hρ 219 (lmem rfl)).trans rfl)) hq159⟩) rfl rfl
      (fc 221 (.int .u64 r118) (hd_v rfl fun ρ hρ => ⟨rfl, opv_move rfl rfl ((hρ 5 (lmem rfl)).trans rfl)⟩) rfl rfl
      ffn))))))))))))))) ?_
    obtain ⟨p160, aw161, hp162, ha163, H⟩ := H
    refine lt_val (dt := some 222) (v := p160) rfl rfl (fun ρ hρ => ⟨rfl, ov_bsA (r := [.int .u64 r118]) (vs := [.int .u64 r118]) rfl rfl underlying62 sz26 z26 rfl rfl rfl rfl rfl (mp_cons ((hρ 221 (lmem rfl)).trans rfl) rfl) (.one rfl .nil) hp162 ha163⟩) ?_
    obtain ⟨hg130, H⟩ := H
    replace hg130 := hg130 _ _ hp128
    obtain ⟨hg141, H⟩ := H
    replace hg141 := hg141 _ _ hp139
    obtain ⟨hg157, H⟩ := H
    replace hg157 := hg157 _ _ hp155
    obtain ⟨hq159, H⟩ := H
    refine lt_next (l := [0, 1, 2, 3, 4, 5, 6, 7, 8, 9, 10, 11, 12, 13]) (hv := []) rfl rfl (pv_nil _)
      (fc 207 m_0 (hd_v rfl fun ρ hρ => ⟨rfl, opv_move rfl rfl ((hρ 0 (lmem rfl)).trans h0)⟩) rfl rfl
      (fc 208 m_0 (hd_v rfl fun ρ hρ => ⟨rfl, opv_move rfl rfl ((hρ 0 (lmem rfl)).trans h0)⟩) rfl rfl
      (fc 209 m_0 (hd_v rfl fun ρ hρ => ⟨rfl, ov_nck rfl rfl ((hρ 208 (lmem rfl)).trans rfl) hp120⟩) rfl rfl
      (fc 210 p121 (hd_v rfl fun ρ hρ => ⟨rfl, ov_fldA rfl rfl underlying77 rfl sz62 (by decide) ((hρ 209 (lmem rfl)).trans rfl) hp124 rfl hv125⟩) rfl rfl
      (fc 211 x129 (hd_v rfl fun ρ hρ => ⟨rfl, ov_ldV rfl underlying62 rfl rfl ((hρ 210 (lmem rfl)).trans rfl) hp128 hg130⟩) rfl rfl
      (fc 212 m_0 (hd_v rfl fun ρ hρ => ⟨rfl, opv_move rfl rfl ((hρ 0 (lmem rfl)).trans h0)⟩) rfl rfl
      (fc 213 m_0 (hd_v rfl fun ρ hρ => ⟨rfl, ov_nck rfl rfl ((hρ 212 (lmem rfl)).trans rfl) hp131⟩) rfl rfl
      (fc 214 p132 (hd_v rfl fun ρ hρ => ⟨rfl, ov_fldA rfl rfl underlying77 rfl sz62 (by decide) ((hρ 213 (lmem rfl)).trans rfl) hp135 rfl hv136⟩) rfl rfl
      (fc 215 x140 (hd_v rfl fun ρ hρ => ⟨rfl, ov_ldV rfl underlying62 rfl rfl ((hρ 214 (lmem rfl)).trans rfl) hp139 hg141⟩) rfl rfl
      (fc 216 (.int .i64 n142) (hd_v rfl fun ρ hρ => ⟨rfl, ov_len rfl rfl rfl underlying62 ((hρ 215 (lmem rfl)).trans rfl) hv146 hn147⟩) rfl rfl
      (fc 217 p148 (hd_v rfl fun ρ hρ => ⟨rfl, ov_fldA rfl rfl underlying34 rfl sz2 (by decide) ((hρ 3 (lmem rfl)).trans h3) hp151 rfl hv152⟩) rfl rfl
      (fc 218 (.int .i64 x156) (hd_v rfl fun ρ hρ => ⟨rfl, ov_ldI rfl underlying2 rfl ((hρ 217 (lmem rfl)).trans rfl) hp155 hg157⟩) rfl rfl
      (fc 219 (.int .i64 (IntKind.i64.wrap (n142 - x156))) (hd_v rfl fun ρ hρ => ⟨rfl, opv_sub rfl rfl rfl ((hρ 216 (lmem rfl)).trans rfl) ((hρ 218 (lmem rfl)).trans rfl)⟩) rfl rfl
      (fc 220 v158 (hd_v rfl fun ρ hρ => ⟨rfl, ov_cutV rfl rfl underlying62 sz26 ((hρ 211 (lmem rfl)).trans rfl) (bndN _ _ _) (bndS ((hρ 219 (lmem rfl)).trans rfl)) hq159⟩) rfl rfl
      ffn)))))))))))))) ?_
    obtain ⟨v164, aw165, hq166, H⟩ := H
    refine lt_val (dt := some 223) (v := v164) rfl rfl (fun ρ hρ => ⟨rfl, ov_app rfl rfl rfl rfl underlying62 sz26 by26 underlying62 rfl z26 rfl (by decide) (by decide) ((hρ 220 (lmem rfl)).trans rfl) ((hρ 222 (lmem rfl)).trans rfl) hq166⟩) ?_
    obtain ⟨hp167, H⟩ := H
    obtain ⟨b169, i170, p168, hp171, hv172, H⟩ := H
    refine lt_next (l := [0, 17, 18]) (hv := [(17, m_0), (18, p168)]) rfl rfl (pv_cons rfl (pv_cons rfl (pv_nil _)))
      (fc 207 m_0 (hd_v rfl fun ρ hρ => ⟨rfl, opv_move rfl rfl ((hρ 0 (lmem rfl)).trans h0)⟩) rfl rfl
      (fc 224 m_0 (hd_v rfl fun ρ hρ => ⟨rfl, ov_nck rfl rfl ((hρ 207 (lmem rfl)).trans rfl) hp167⟩) rfl rfl
      (fc 225 p168 (hd_v rfl fun ρ hρ => ⟨rfl, ov_fldA rfl rfl underlying77 rfl sz62 (by decide) ((hρ 224 (lmem rfl)).trans rfl) hp171 rfl hv172⟩) rfl rfl
      ffn))) ?_
    obtain ⟨b174, i175, aw173, hp176, hw177, ho178, ha179, H⟩ := H
    refine lt_val (dt := none) (v := undef) rfl rfl (fun ρ hρ => ⟨rfl, ov_st rfl rfl rfl ((hρ 225 (lmem rfl)).trans rfl) ((hρ 223 (lmem rfl)).trans rfl) (cells_all ho178) sz62 hp176 hw177 ho178 ha179⟩) ?_
    refine lt_next (l := []) (hv := []) rfl rfl (pv_nil _)
      ffn ?_
    refine lt_end ?_
    refine ago_inBlock ?_
    exact ago_nilR (r := ()) (ares_0 rfl ) rfl H
  replace H := cnd_f H hb117
  refine ago_seqE (rfl : C58_75 = .seq C58_76 C58_77) ?_
  refine ago_regE (rfl : C58_76 = .region 37 R58_37 false) (l := [0, 1]) rfl ?_
  refine lj 227 R58_37_N rfl rfl rfl (opv_eqI rfl rfl rfl h42 rfl) ?_
  refine lj 226 R58_37_N rfl rfl rfl (opv_assign rfl rfl rfl) ?_
  refine aops_nil ?_
  refine ago_condE  (rfl : C58_77 = .cond (.tmp 226) C58_78 C58_79) rfl rfl (fun hb180 => ?_) (fun hb180 => ?_)
  · exact (cnd_t H hb180).elim
  replace H := cnd_f H hb180
  refine ago_seqE (rfl : C58_79 = .seq C58_80 C58_81) ?_
  refine ago_regE (rfl : C58_80 = .region 39 R58_39 false) (l := [0, 1]) rfl ?_
  refine lj 231 R58_39_N rfl rfl rfl (opv_eqI rfl rfl rfl h42 rfl) ?_
  refine lj 230 R58_39_N rfl rfl rfl (opv_assign rfl rfl rfl) ?_
  refine aops_nil ?_
  refine ago_condE  (rfl : C58_81 = .cond (.tmp 230) C58_82 C58_83) rfl rfl (fun hb181 => ?_) (fun hb181 => ?_)
  · exact (cnd_t H hb181).elim
  replace H := cnd_f H hb181
  refine ago_seqE (rfl : C58_83 = .seq C58_84 C58_85) ?_
  refine ago_regE (rfl : C58_84 = .region 41 R58_41 false) (l := [0, 1]) rfl ?_
  refine lj 237 R58_41_N rfl rfl rfl (opv_eqI rfl rfl rfl h42 rfl) ?_
  refine lj 236 R58_41_N rfl rfl rfl (opv_assign rfl rfl rfl) ?_
  refine aops_nil ?_
  refine ago_condE  (rfl : C58_85 = .cond (.tmp 236) C58_86 C58_87) rfl rfl (fun hb182 => ?_) (fun hb182 => ?_)
  · exact (cnd_t H hb182).elim
  replace H := cnd_f H hb182
  refine ago_seqE (rfl : C58_87 = .seq C58_88 C58_89) ?_
  refine ago_regE (rfl : C58_88 = .region 43 R58_43 false) (l := [0, 1]) rfl ?_
  refine lj 246 R58_43_N rfl rfl rfl (opv_eqI rfl rfl rfl h42 rfl) ?_
  refine lj 245 R58_43_N rfl rfl rfl (opv_assign rfl rfl rfl) ?_
  refine aops_nil ?_
  refine ago_condE  (rfl : C58_89 = .cond (.tmp 245) C58_90 C58_91) rfl rfl (fun hb183 => ?_) (fun hb183 => ?_)
  · exact (cnd_t H hb183).elim
  replace H := cnd_f H hb183
  refine ago_seqE (rfl : C58_91 = .seq C58_92 C58_93) ?_
  refine ago_cut (fun ρ => ρ 0 = m_0 ∧ ρ 3 = i_3 ∧ ρ 42 = .int .u8 t_42 ∧ True) ⟨h0, h3, h42, trivial⟩ (fun ρ ⟨h0, h3, h42, _⟩ => ?_)
  refine ago_regE (rfl : C58_92 = .region 45 R58_45 false) (l := [0, 1]) rfl ?_
  refine lj 250 R58_45_N rfl rfl rfl (opv_eqI rfl rfl rfl h42 rfl) ?_
  refine lj 249 R58_45_N rfl rfl rfl (opv_assign rfl rfl rfl) ?_
  refine aops_nil ?_
  refine ago_condE  (rfl : C58_93 = .cond (.tmp 249) C58_94 C58_95) rfl rfl (fun hb184 => ?_) (fun hb184 => ?_)
  · exact (cnd_t H hb184).elim
  replace H := cnd_f H hb184
  refine ago_seqE (rfl : C58_95 = .seq C58_96 C58_97) ?_
  refine ago_regE (rfl : C58_96 = .region 47 R58_47 false) (l := [0, 1]) rfl ?_
  refine lj 258 R58_47_N rfl rfl rfl (opv_eqI rfl rfl rfl h42 rfl) ?_
  refine lj 257 R58_47_N rfl rfl rfl (opv_assign rfl rfl rfl) ?_
  refine aops_nil ?_
  refine ago_condE  (rfl : C58_97 = .cond (.tmp 257) C58_98 C58_99) rfl rfl (fun hb185 => ?_) (fun hb185 => ?_)
  · replace H := cnd_t H hb185
    obtain ⟨hp186, H⟩ := H
    obtain ⟨b188, i189, p187, hp190, hv191, H⟩ := H
    obtain ⟨b192, i193, x195, hp194, hg196, H⟩ := H
    obtain ⟨hp197, H⟩ := H
    obtain ⟨b199, i200, p198, hp201, hv202, H⟩ := H
    obtain ⟨b203, i204, x206, hp205, hg207, H⟩ := H
    obtain ⟨q209, l210, c211, n208, hv212, hn213, H⟩ := H
    obtain ⟨hp214, H⟩ := H
    obtain ⟨b216, i217, p215, hp218, hv219, H⟩ := H
    obtain ⟨b220, i221, x223, hp222, hg224, H⟩ := H
    obtain ⟨q226, l227, c228, n225, hv229, hn230, H⟩ := H
    obtain ⟨b232, i233, p231, hp234, hv235, H⟩ := H
    obtain ⟨b236, i237, x239, hp238, hg240, H⟩ := H
    refine ago_drawH (p := [0, 1, 2, 3, 4, 5, 6, 7, 8, 9, 10, 11, 12, 13, 14, 15, 16, 17]) (tl := [(18, [0, 1, 2, 3, 4], []), (19, [0], [20, 21]), (22, [], [])]) (hv := [(0, m_0), (1, m_0), (2, m_0), (3, p187), (4, x195), (5, m_0), (6, m_0), (7, p198), (8, x206), (9, Value.int .i64 n208), (10, m_0), (11, m_0), (12, p215), (13, x223), (14, Value.int .i64 n225), (15, p231), (16, Value.int .i64 x239), (17, Value.agg #[.int .i64 n208, .int .i64 n225, .int .i64 x239])]) (rfl : C58_98 = .region 48 R58_48 true) mixed R58_48_N R58_48_O rfl (pv_cons rfl (pv_cons rfl (pv_cons rfl (pv_cons rfl (pv_cons rfl (pv_cons rfl (pv_cons rfl (pv_cons rfl (pv_cons rfl (pv_cons rfl (pv_cons rfl (pv_cons rfl (pv_cons rfl (pv_cons rfl (pv_cons rfl (pv_cons rfl (pv_cons rfl (pv_cons rfl (pv_nil _)))))))))))))))))))
      (fc 259 m_0 (hd_v rfl fun ρ hρ => ⟨rfl, opv_move rfl rfl ((hρ 0 (lmem rfl)).trans h0)⟩) rfl rfl
      (fc 260 m_0 (hd_v rfl fun ρ hρ => ⟨rfl, opv_move rfl rfl ((hρ 0 (lmem rfl)).trans h0)⟩) rfl rfl
      (fc 261 m_0 (hd_v rfl fun ρ hρ => ⟨rfl, ov_nck rfl rfl ((hρ 260 (lmem rfl)).trans rfl) hp186⟩) rfl rfl
      (fc 262 p187 (hd_v rfl fun ρ hρ => ⟨rfl, ov_fldA rfl rfl underlying77 rfl sz71 (by decide) ((hρ 261 (lmem rfl)).trans rfl) hp190 rfl hv191⟩) rfl rfl
      (fc 263 x195 (hd_v rfl fun ρ hρ => ⟨rfl, ov_ldV rfl underlying71 rfl rfl ((hρ 262 (lmem rfl)).trans rfl) hp194 hg196⟩) rfl rfl
      (fc 264 m_0 (hd_v rfl fun ρ hρ => ⟨rfl, opv_move rfl rfl ((hρ 0 (lmem rfl)).trans h0)⟩) rfl rfl
      (fc 265 m_0 (hd_v rfl fun ρ hρ => ⟨rfl, ov_nck rfl rfl ((hρ 264 (lmem rfl)).trans rfl) hp197⟩) rfl rfl
      (fc 266 p198 (hd_v rfl fun ρ hρ => ⟨rfl, ov_fldA rfl rfl underlying77 rfl sz70 (by decide) ((hρ 265 (lmem rfl)).trans rfl) hp201 rfl hv202⟩) rfl rfl
      (fc 267 x206 (hd_v rfl fun ρ hρ => ⟨rfl, ov_ldV rfl underlying70 rfl rfl ((hρ 266 (lmem rfl)).trans rfl) hp205 hg207⟩) rfl rfl
      (fc 268 (.int .i64 n208) (hd_v rfl fun ρ hρ => ⟨rfl, ov_len rfl rfl rfl underlying70 ((hρ 267 (lmem rfl)).trans rfl) hv212 hn213⟩) rfl rfl
      (fc 269 m_0 (hd_v rfl fun ρ hρ => ⟨rfl, opv_move rfl rfl ((hρ 0 (lmem rfl)).trans h0)⟩) rfl rfl
      (fc 270 m_0 (hd_v rfl fun ρ hρ => ⟨rfl, ov_nck rfl rfl ((hρ 269 (lmem rfl)).trans rfl) hp214⟩) rfl rfl
      (fc 271 p215 (hd_v rfl fun ρ hρ => ⟨rfl, ov_fldA rfl rfl underlying77 rfl sz62 (by decide) ((hρ 270 (lmem rfl)).trans rfl) hp218 rfl hv219⟩) rfl rfl
      (fc 272 x223 (hd_v rfl fun ρ hρ => ⟨rfl, ov_ldV rfl underlying62 rfl rfl ((hρ 271 (lmem rfl)).trans rfl) hp222 hg224⟩) rfl rfl
      (fc 273 (.int .i64 n225) (hd_v rfl fun ρ hρ => ⟨rfl, ov_len rfl rfl rfl underlying62 ((hρ 272 (lmem rfl)).trans rfl) hv229 hn230⟩) rfl rfl
      (fc 274 p231 (hd_v rfl fun ρ hρ => ⟨rfl, ov_fldA rfl rfl underlying34 rfl sz2 (by decide) ((hρ 3 (lmem rfl)).trans h3) hp234 rfl hv235⟩) rfl rfl
      (fc 275 (.int .i64 x239) (hd_v rfl fun ρ hρ => ⟨rfl, ov_ldI rfl underlying2 rfl ((hρ 274 (lmem rfl)).trans rfl) hp238 hg240⟩) rfl rfl
      (fc 276 (.agg #[.int .i64 n208, .int .i64 n225, .int .i64 x239]) (hd_v rfl fun ρ hρ => ⟨rfl, ov_bld (r := [.int .i64 n208, .int .i64 n225, .int .i64 x239]) rfl rfl bo132 (mp_cons ((hρ 268 (lmem rfl)).trans rfl) (mp_cons ((hρ 273 (lmem rfl)).trans rfl) (mp_cons ((hρ 275 (lmem rfl)).trans rfl) rfl))) (fillP rfl rfl rfl rfl (fillP rfl rfl rfl rfl (fillP rfl rfl rfl rfl (fillN rfl))))⟩) rfl rfl
      ffn)))))))))))))))))) ?_
    obtain ⟨p241, aw242, hp243, ha244, H⟩ := H
    refine lt_val (dt := some 277) (v := p241) rfl rfl (fun ρ hρ => ⟨rfl, ov_bsA (r := [.int .i64 n208, .int .i64 n225, .int .i64 x239]) (vs := [.agg #[.int .i64 n208, .int .i64 n225, .int .i64 x239]]) rfl rfl underlying71 sz132 z132 rfl rfl rfl rfl rfl (mp_cons ((hρ 276 (lmem rfl)).trans rfl) rfl) (.cons (v := .agg #[.int .i64 n208, .int .i64 n225, .int .i64 x239]) (xs := [.int .i64 n208, .int .i64 n225, .int .i64 x239]) (r := []) rfl rfl .nil) hp243 ha244⟩) ?_
    obtain ⟨hg196, H⟩ := H
    replace hg196 := hg196 _ _ hp194
    refine lt_next (l := [0, 1, 2, 3, 4]) (hv := []) rfl rfl (pv_nil _)
      (fc 259 m_0 (hd_v rfl fun ρ hρ => ⟨rfl, opv_move rfl rfl ((hρ 0 (lmem rfl)).trans h0)⟩) rfl rfl
      (fc 260 m_0 (hd_v rfl fun ρ hρ => ⟨rfl, opv_move rfl rfl ((hρ 0 (lmem rfl)).trans h0)⟩) rfl rfl
      (fc 261 m_0 (hd_v rfl fun ρ hρ => ⟨rfl, ov_nck rfl rfl ((hρ 260 (lmem rfl)).trans rfl) hp186⟩) rfl rfl
      (fc 262 p187 (hd_v rfl fun ρ hρ => ⟨rfl, ov_fldA rfl rfl underlying77 rfl sz71 (by decide) ((hρ 261 (lmem rfl)).trans rfl) hp190 rfl hv191⟩) rfl rfl
      (fc 263 x195 (hd_v rfl fun ρ hρ => ⟨rfl, ov_ldV rfl underlying71 rfl rfl ((hρ 262 (lmem rfl)).trans rfl) hp194 hg196⟩) rfl rfl
      ffn))))) ?_
    obtain ⟨v245, aw246, hq247, H⟩ := H
    refine lt_val (dt := some 278) (v := v245) rfl rfl (fun ρ hρ => ⟨rfl, ov_app rfl rfl rfl rfl underlying71 sz132 by132 underlying71 rfl z132 rfl (by decide) (by decide) ((hρ 263 (lmem rfl)).trans rfl) ((hρ 277 (lmem rfl)).trans rfl) hq247⟩) ?_
    obtain ⟨hp248, H⟩ := H
    obtain ⟨b250, i251, p249, hp252, hv253, H⟩ := H
    refine lt_next (l := [0, 20, 21]) (hv := [(20, m_0), (21, p249)]) rfl rfl (pv_cons rfl (pv_cons rfl (pv_nil _)))
      (fc 259 m_0 (hd_v rfl fun ρ hρ => ⟨rfl, opv_move rfl rfl ((hρ 0 (lmem rfl)).trans h0)⟩) rfl rfl
      (fc 279 m_0 (hd_v rfl fun ρ hρ => ⟨rfl, ov_nck rfl rfl ((hρ 259 (lmem rfl)).trans rfl) hp248⟩) rfl rfl
      (fc 280 p249 (hd_v rfl fun ρ hρ => ⟨rfl, ov_fldA rfl rfl underlying77 rfl sz71 (by decide) ((hρ 279 (lmem rfl)).trans rfl) hp252 rfl hv253⟩) rfl rfl
      ffn))) ?_
    obtain ⟨b255, i256, aw254, hp257, hw258, ho259, ha260, H⟩ := H
    refine lt_val (dt := none) (v := undef) rfl rfl (fun ρ hρ => ⟨rfl, ov_st rfl rfl rfl ((hρ 280 (lmem rfl)).trans rfl) ((hρ 278 (lmem rfl)).trans rfl) (cells_all ho259) sz71 hp257 hw258 ho259 ha260⟩) ?_
    refine lt_next (l := []) (hv := []) rfl rfl (pv_nil _)
      ffn ?_
    refine lt_end ?_
    refine ago_inBlock ?_
    exact ago_nilR (r := ()) (ares_0 rfl ) rfl H
  replace H := cnd_f H hb185
  refine ago_seqE (rfl : C58_99 = .seq C58_100 C58_101) ?_
  refine ago_regE (rfl : C58_100 = .region 49 R58_49 false) (l := [0, 1]) rfl ?_
  refine lj 282 R58_49_N rfl rfl rfl (opv_eqI rfl rfl rfl h42 rfl) ?_
  refine lj 281 R58_49_N rfl rfl rfl (opv_assign rfl rfl rfl) ?_
  refine aops_nil ?_
  refine ago_condE  (rfl : C58_101 = .cond (.tmp 281) C58_102 C58_103) rfl rfl (fun hb261 => ?_) (fun hb261 => ?_)
  · exact (cnd_t H hb261).elim
  replace H := cnd_f H hb261
  refine ago_seqE (rfl : C58_103 = .seq C58_104 C58_105) ?_
  refine ago_regE (rfl : C58_104 = .region 51 R58_51 false) (l := [0, 1]) rfl ?_
  refine lj 298 R58_51_N rfl rfl rfl (opv_eqI rfl rfl rfl h42 rfl) ?_
  refine lj 297 R58_51_N rfl rfl rfl (opv_assign rfl rfl rfl) ?_
  refine aops_nil ?_
  refine ago_condE  (rfl : C58_105 = .cond (.tmp 297) C58_106 C58_107) rfl rfl (fun hb262 => ?_) (fun hb262 => ?_)
  · replace H := cnd_t H hb262
    refine ago_regE (rfl : C58_106 = .region 52 R58_52 false) (l := [0, 1, 2, 3, 4]) rfl ?_
    obtain ⟨b264, i265, p263, hp266, hv267, H⟩ := H
    refine lj 299 R58_52_N rfl rfl rfl (ov_fldA rfl rfl underlying34 rfl sz9 (by decide) h3 hp266 rfl hv267) ?_
    obtain ⟨b268, i269, x271, hp270, hg272, H⟩ := H
    refine lj 300 R58_52_N rfl rfl rfl (ov_ldS rfl underlying9 rfl rfl hp270 hg272) ?_
    refine lj 301 R58_52_N rfl rfl rfl (ov_bld (r := [.string x271]) rfl rfl bo116 (mp_cons rfl rfl) (fillP rfl rfl rfl rfl (fillN rfl))) ?_
    refine lj 302 R58_52_N rfl rfl rfl (opv_mkIface rfl rfl underlying116 rfl rfl) ?_
    exact aops_panic R58_52_N rfl rfl (opp_panic rfl rfl rfl) ⟨rfl, H⟩
  exact (cnd_f H hb262).elim
theorem S58_0_ok (Q : Unit → AW → Prop) (E : List PanicEntry → AW → Prop)  (ρ : Env) (m_0 : Value) (aw : AW) (h0 : ρ 0 = m_0) (H : S58_0 Q E  m_0 aw) :
    AGo prog 303 [.code C58_0] ρ [] aw (RR prog f58 303 sh58 Q E) := by
  unfold S58_0 at H
  refine ago_seqE (rfl : C58_0 = .seq C58_1 C58_2) ?_
  obtain ⟨hp273, H⟩ := H
  obtain ⟨b275, i276, p274, hp277, hv278, H⟩ := H
  obtain ⟨b279, i280, x282, hp281, hg283, H⟩ := H
  obtain ⟨hp284, H⟩ := H
  obtain ⟨b286, i287, p285, hp288, hv289, H⟩ := H
  obtain ⟨b290, i291, x293, hp292, hg294, H⟩ := H
  obtain ⟨q296, l297, c298, n295, hv299, hn300, H⟩ := H
  obtain ⟨b302, i303, l304, c305, p301, hp306, h0307, hj308, hv309, H⟩ := H
  refine ago_drawH (p := [0, 1, 2, 3, 4, 5, 6, 7, 8, 9, 10, 11]) (tl := []) (hv := [(0, m_0), (1, m_0), (2, p274), (3, x282), (4, m_0), (5, m_0), (6, p285), (7, x293), (8, Value.int .i64 n295), (9, Value.int .i64 (IntKind.i64.wrap (n295 - 1))), (10, p301), (11, p301)]) (rfl : C58_1 = .region 0 R58_0 true) mixed R58_0_N R58_0_O rfl (pv_cons rfl (pv_cons rfl (pv_cons rfl (pv_cons rfl (pv_cons rfl (pv_cons rfl (pv_cons rfl (pv_cons rfl (pv_cons rfl (pv_cons rfl (pv_cons rfl (pv_cons rfl (pv_nil _)))))))))))))
    (fc 6 m_0 (hd_v rfl fun ρ hρ => ⟨rfl, opv_move rfl rfl ((hρ 0 (lmem rfl)).trans h0)⟩) rfl rfl
    (fc 7 m_0 (hd_v rfl fun ρ hρ => ⟨rfl, ov_nck rfl rfl ((hρ 6 (lmem rfl)).trans rfl) hp273⟩) rfl rfl
    (fc 8 p274 (hd_v rfl fun ρ hρ => ⟨rfl, ov_fldA rfl rfl underlying77 rfl sz70 (by decide) ((hρ 7 (lmem rfl)).trans rfl) hp277 rfl hv278⟩) rfl rfl
    (fc 9 x282 (hd_v rfl fun ρ hρ => ⟨rfl, ov_ldV rfl underlying70 rfl rfl ((hρ 8 (lmem rfl)).trans rfl) hp281 hg283⟩) rfl rfl
    (fc 10 m_0 (hd_v rfl fun ρ hρ => ⟨rfl, opv_move rfl rfl ((hρ 0 (lmem rfl)).trans h0)⟩) rfl rfl
    (fc 11 m_0 (hd_v rfl fun ρ hρ => ⟨rfl, ov_nck rfl rfl ((hρ 10 (lmem rfl)).trans rfl) hp284⟩) rfl rfl
    (fc 12 p285 (hd_v rfl fun ρ hρ => ⟨rfl, ov_fldA rfl rfl underlying77 rfl sz70 (by decide) ((hρ 11 (lmem rfl)).trans rfl) hp288 rfl hv289⟩) rfl rfl
    (fc 13 x293 (hd_v rfl fun ρ hρ => ⟨rfl, ov_ldV rfl underlying70 rfl rfl ((hρ 12 (lmem rfl)).trans rfl) hp292 hg294⟩) rfl rfl
    (fc 14 (.int .i64 n295) (hd_v rfl fun ρ hρ => ⟨rfl, ov_len rfl rfl rfl underlying70 ((hρ 13 (lmem rfl)).trans rfl) hv299 hn300⟩) rfl rfl
    (fc 15 (.int .i64 (IntKind.i64.wrap (n295 - 1))) (hd_v rfl fun ρ hρ => ⟨rfl, opv_sub rfl rfl rfl ((hρ 14 (lmem rfl)).trans rfl) rfl⟩) rfl rfl
    (fc 16 p301 (hd_v rfl fun ρ hρ => ⟨rfl, ov_ixS rfl rfl rfl underlying70 sz85 ((hρ 9 (lmem rfl)).trans rfl) ((hρ 15 (lmem rfl)).trans rfl) hp306 h0307 hj308 hv309⟩) rfl rfl
    (fc 2 p301 (hd_v rfl fun ρ hρ => ⟨rfl, opv_assign rfl rfl ((hρ 16 (lmem rfl)).trans rfl)⟩) rfl rfl
    ffn)))))))))))) ?_
  refine lt_end ?_
  refine ago_seqE (rfl : C58_2 = .seq C58_3 C58_4) ?_
  refine ago_cut (fun ρ => ρ 0 = m_0 ∧ ρ 2 = p301 ∧ True) ⟨h0, rfl, trivial⟩ (fun ρ ⟨h0, h2, _⟩ => ?_)
  obtain ⟨hp310, H⟩ := H
  obtain ⟨b312, i313, p311, hp314, hv315, H⟩ := H
  obtain ⟨b316, i317, x319, hp318, hg320, H⟩ := H
  obtain ⟨hp321, H⟩ := H
  obtain ⟨b323, i324, p322, hp325, hv326, H⟩ := H
  obtain ⟨b327, i328, x330, hp329, hg331, H⟩ := H
  obtain ⟨b333, i334, l335, c336, p332, hp337, h0338, hj339, hv340, H⟩ := H
  obtain ⟨b342, i343, p341, hp344, hv345, H⟩ := H
  obtain ⟨b346, i347, x349, hp348, hg350, H⟩ := H
  obtain ⟨hp351, H⟩ := H
  obtain ⟨b353, i354, p352, hp355, hv356, H⟩ := H
  obtain ⟨b357, i358, x360, hp359, hg361, H⟩ := H
  obtain ⟨b363, i364, l365, c366, p362, hp367, h0368, hj369, hv370, H⟩ := H
  obtain ⟨b371, i372, hp373, c374, hg378, c375, hg379, c376, hg380, c377, hg381, H⟩ := H
  refine ago_drawH (p := [0, 1, 2, 3, 4, 5, 6, 7, 8, 9, 10, 11, 12, 13, 14, 15, 16]) (tl := [(17, [0, 1, 2, 3, 4, 5, 6, 7, 8, 9, 10, 11, 12, 13, 14, 15, 16], []), (18, [], [])]) (hv := [(0, m_0), (1, m_0), (2, p311), (3, x319), (4, p301), (5, p301), (6, p322), (7, Value.int .i64 x330), (8, p332), (9, p341), (10, x349), (11, p301), (12, p301), (13, p352), (14, Value.int .i64 x360), (15, p362), (16, Value.agg #[.int .u8 c374, .int .i64 c375, .int .i64 c376, .string c377])]) (rfl : C58_3 = .region 1 R58_1 true) mixed R58_1_N R58_1_O rfl (pv_cons rfl (pv_cons rfl (pv_cons rfl (pv_cons rfl (pv_cons rfl (pv_cons rfl (pv_cons rfl (pv_cons rfl (pv_cons rfl (pv_cons rfl (pv_cons rfl (pv_cons rfl (pv_cons rfl (pv_cons rfl (pv_cons rfl (pv_cons rfl (pv_cons rfl (pv_nil _))))))))))))))))))
    (fc 17 m_0 (hd_v rfl fun ρ hρ => ⟨rfl, opv_move rfl rfl ((hρ 0 (lmem rfl)).trans h0)⟩) rfl rfl
    (fc 18 m_0 (hd_v rfl fun ρ hρ => ⟨rfl, ov_nck rfl rfl ((hρ 17 (lmem rfl)).trans rfl) hp310⟩) rfl rfl
    (fc 19 p311 (hd_v rfl fun ρ hρ => ⟨rfl, ov_fldA rfl rfl underlying77 rfl sz44 (by decide) ((hρ 18 (lmem rfl)).trans rfl) hp314 rfl hv315⟩) rfl rfl
    (fc 20 x319 (hd_v rfl fun ρ hρ => ⟨rfl, ov_ldV rfl underlying44 rfl rfl ((hρ 19 (lmem rfl)).trans rfl) hp318 hg320⟩) rfl rfl
    (fc 21 p301 (hd_v rfl fun ρ hρ => ⟨rfl, opv_move rfl rfl ((hρ 2 (lmem rfl)).trans h2)⟩) rfl rfl
    (fc 22 p301 (hd_v rfl fun ρ hρ => ⟨rfl, ov_nck rfl rfl ((hρ 21 (lmem rfl)).trans rfl) hp321⟩) rfl rfl
    (fc 23 p322 (hd_v rfl fun ρ hρ => ⟨rfl, ov_fldA rfl rfl underlying85 rfl sz3 (by decide) ((hρ 22 (lmem rfl)).trans rfl) hp325 rfl hv326⟩) rfl rfl
    (fc 24 (.int .i64 x330) (hd_v rfl fun ρ hρ => ⟨rfl, ov_ldI rfl underlying3 rfl ((hρ 23 (lmem rfl)).trans rfl) hp329 hg331⟩) rfl rfl
    (fc 25 p332 (hd_v rfl fun ρ hρ => ⟨rfl, ov_ixS rfl rfl rfl underlying44 sz43 ((hρ 20 (lmem rfl)).trans rfl) ((hρ 24 (lmem rfl)).trans rfl) hp337 h0338 hj339 hv340⟩) rfl rfl
    (fc 26 p341 (hd_v rfl fun ρ hρ => ⟨rfl, ov_fldA rfl rfl underlying43 rfl sz35 (by decide) ((hρ 25 (lmem rfl)).trans rfl) hp344 rfl hv345⟩) rfl rfl
    (fc 27 x349 (hd_v rfl fun ρ hρ => ⟨rfl, ov_ldV rfl underlying35 rfl rfl ((hρ 26 (lmem rfl)).trans rfl) hp348 hg350⟩) rfl rfl
    (fc 28 p301 (hd_v rfl fun ρ hρ => ⟨rfl, opv_move rfl rfl ((hρ 2 (lmem rfl)).trans h2)⟩) rfl rfl
    (fc 29 p301 (hd_v rfl fun ρ hρ => ⟨rfl, ov_nck rfl rfl ((hρ 28 (lmem rfl)).trans rfl) hp351⟩) rfl rfl
    (fc 30 p352 (hd_v rfl fun ρ hρ => ⟨rfl, ov_fldA rfl rfl underlying85 rfl sz3 (by decide) ((hρ 29 (lmem rfl)).trans rfl) hp355 rfl hv356⟩) rfl rfl
    (fc 31 (.int .i64 x360) (hd_v rfl fun ρ hρ => ⟨rfl, ov_ldI rfl underlying3 rfl ((hρ 30 (lmem rfl)).trans rfl) hp359 hg361⟩) rfl rfl
    (fc 32 p362 (hd_v rfl fun ρ hρ => ⟨rfl, ov_ixS rfl rfl rfl underlying35 sz34 ((hρ 27 (lmem rfl)).trans rfl) ((hρ 31 (lmem rfl)).trans rfl) hp367 h0368 hj369 hv370⟩) rfl rfl
    (fc 33 (.agg #[.int .u8 c374, .int .i64 c375, .int .i64 c376, .string c377]) (hd_v rfl fun ρ hρ => ⟨rfl, ov_ldN rfl underlying34 rfl sz34 rfl ((hρ 32 (lmem rfl)).trans rfl) hp373 (getN_cons hg378 (getN_cons hg379 (getN_cons hg380 (getN_cons hg381 getN_nil))))⟩) rfl rfl
    ffn))))))))))))))))) ?_
  obtain ⟨p382, aw383, hp384, ha385, H⟩ := H
  refine lt_val (dt := some 3) (v := p382) rfl rfl (fun ρ hρ => ⟨rfl, ov_alloc rfl z34 rfl rfl hp384 ha385⟩) ?_
  obtain ⟨hg320, H⟩ := H
  replace hg320 := hg320 _ _ hp318
  obtain ⟨hg331, H⟩ := H
  replace hg331 := hg331 _ _ hp329
  obtain ⟨hg350, H⟩ := H
  replace hg350 := hg350 _ _ hp348
  obtain ⟨hg361, H⟩ := H
  replace hg361 := hg361 _ _ hp359
  obtain ⟨hg378, H⟩ := H
  obtain ⟨hg379, H⟩ := H
  obtain ⟨hg380, H⟩ := H
  obtain ⟨hg381, H⟩ := H
  refine lt_next (l := [0, 1, 2, 3, 4, 5, 6, 7, 8, 9, 10, 11, 12, 13, 14, 15, 16]) (hv := []) rfl rfl (pv_nil _)
    (fc 17 m_0 (hd_v rfl fun ρ hρ => ⟨rfl, opv_move rfl rfl ((hρ 0 (lmem rfl)).trans h0)⟩) rfl rfl
    (fc 18 m_0 (hd_v rfl fun ρ hρ => ⟨rfl, ov_nck rfl rfl ((hρ 17 (lmem rfl)).trans rfl) hp310⟩) rfl rfl
    (fc 19 p311 (hd_v rfl fun ρ hρ => ⟨rfl, ov_fldA rfl rfl underlying77 rfl sz44 (by decide) ((hρ 18 (lmem rfl)).trans rfl) hp314 rfl hv315⟩) rfl rfl
    (fc 20 x319 (hd_v rfl fun ρ hρ => ⟨rfl, ov_ldV rfl underlying44 rfl rfl ((hρ 19 (lmem rfl)).trans rfl) hp318 hg320⟩) rfl rfl
    (fc 21 p301 (hd_v rfl fun ρ hρ => ⟨rfl, opv_move rfl rfl ((hρ 2 (lmem rfl)).trans h2)⟩) rfl rfl
    (fc 22 p301 (hd_v rfl fun ρ hρ => ⟨rfl, ov_nck rfl rfl ((hρ 21 (lmem rfl)).trans rfl) hp321⟩) rfl rfl
    (fc 23 p322 (hd_v rfl fun ρ hρ => ⟨rfl, ov_fldA rfl rfl underlying85 rfl sz3 (by decide) ((hρ 22 (lmem rfl)).trans rfl) hp325 rfl hv326⟩) rfl rfl
    (fc 24 (.int .i64 x330) (hd_v rfl fun ρ hρ => ⟨rfl, ov_ldI rfl underlying3 rfl ((hρ 23 (lmem rfl)).trans rfl) hp329 hg331⟩) rfl rfl
    (fc 25 p332 (hd_v rfl fun ρ hρ => ⟨rfl, ov_ixS rfl rfl rfl underlying44 sz43 ((hρ 20 (lmem rfl)).trans rfl) ((hρ 24 (lmem rfl)).trans rfl) hp337 h0338 hj339 hv340⟩) rfl rfl
    (fc 26 p341 (hd_v rfl fun ρ hρ => ⟨rfl, ov_fldA rfl rfl underlying43 rfl sz35 (by decide) ((hρ 25 (lmem rfl)).trans rfl) hp344 rfl hv345⟩) rfl rfl
    (fc 27 x349 (hd_v rfl fun ρ hρ => ⟨rfl, ov_ldV rfl underlying35 rfl rfl ((hρ 26 (lmem rfl)).trans rfl) hp348 hg350⟩) rfl rfl
    (fc 28 p301 (hd_v rfl fun ρ hρ => ⟨rfl, opv_move rfl rfl ((hρ 2 (lmem rfl)).trans h2)⟩) rfl rfl
    (fc 29 p301 (hd_v rfl fun ρ hρ => ⟨rfl, ov_nck rfl rfl ((hρ 28 (lmem rfl)).trans rfl) hp351⟩) rfl rfl
    (fc 30 p352 (hd_v rfl fun ρ hρ => ⟨rfl, ov_fldA rfl rfl underlying85 rfl sz3 (by decide) ((hρ 29 (lmem rfl)).trans rfl) hp355 rfl hv356⟩) rfl rfl
    (fc 31 (.int .i64 x360) (hd_v rfl fun ρ hρ => ⟨rfl, ov_ldI rfl underlying3 rfl ((hρ 30 (lmem rfl)).trans rfl) hp359 hg361⟩) rfl rfl
    (fc 32 p362 (hd_v rfl fun ρ hρ => ⟨rfl, ov_ixS rfl rfl rfl underlying35 sz34 ((hρ 27 (lmem rfl)).trans rfl) ((hρ 31 (lmem rfl)).trans rfl) hp367 h0368 hj369 hv370⟩) rfl rfl
    (fc 33 (.agg #[.int .u8 c374, .int .i64 c375, .int .i64 c376, .string c377]) (hd_v rfl fun ρ hρ => ⟨rfl, ov_ldN rfl underlying34 rfl sz34 rfl ((hρ 32 (lmem rfl)).trans rfl) hp373 (getN_cons hg378 (getN_cons hg379 (getN_cons hg380 (getN_cons hg381 getN_nil))))⟩) rfl rfl
    ffn))))))))))))))))) ?_
  obtain ⟨b387, i388, aw386, hp389, hw390, ho391, ha392, H⟩ := H
  refine lt_val (dt := none) (v := undef) rfl rfl (fun ρ hρ => ⟨rfl, ov_st rfl rfl rfl ((hρ 3 (lmem rfl)).trans rfl) ((hρ 33 (lmem rfl)).trans rfl) rfl sz34 hp389 hw390 ho391 ha392⟩) ?_
  refine lt_next (l := []) (hv := []) rfl rfl (pv_nil _)
    ffn ?_
  refine lt_end ?_
  refine ago_seqE (rfl : C58_4 = .seq C58_5 C58_6) ?_
  refine ago_cut (fun ρ => ρ 0 = m_0 ∧ ρ 2 = p301 ∧ ρ 3 = p382 ∧ True) ⟨h0, h2, rfl, trivial⟩ (fun ρ ⟨h0, h2, h3, _⟩ => ?_)
  refine ago_regE (rfl : C58_5 = .region 2 R58_2 false) (l := [0, 1, 2, 3, 4, 5, 6, 7]) rfl ?_
  refine lj 34 R58_2_N rfl rfl rfl (opv_move rfl rfl h2) ?_
  obtain ⟨hp393, H⟩ := H
  refine lj 35 R58_2_N rfl rfl rfl (ov_nck rfl rfl rfl hp393) ?_
  obtain ⟨b395, i396, p394, hp397, hv398, H⟩ := H
  refine lj 36 R58_2_N rfl rfl rfl (ov_fldA rfl rfl underlying85 rfl sz3 (by decide) rfl hp397 rfl hv398) ?_
  obtain ⟨b399, i400, x402, hp401, hg403, H⟩ := H
  refine lj 37 R58_2_N rfl rfl rfl (ov_ldI rfl underlying3 rfl rfl hp401 hg403) ?_
  refine lj 38 R58_2_N rfl rfl rfl (opv_add rfl rfl rfl rfl rfl) ?_
  obtain ⟨hp404, H⟩ := H
  refine lj 39 R58_2_N rfl rfl rfl (ov_nck rfl rfl rfl hp404) ?_
  obtain ⟨b406, i407, p405, hp408, hv409, H⟩ := H
  refine lj 40 R58_2_N rfl rfl rfl (ov_fldA rfl rfl underlying85 rfl sz3 (by decide) rfl hp408 rfl hv409) ?_
  obtain ⟨b411, i412, aw410, hp413, hw414, ho415, ha416, H⟩ := H
  refine lk (dt := none) R58_2_N rfl rfl rfl (ov_st rfl rfl rfl rfl rfl rfl sz3 hp413 hw414 ho415 ha416) ?_
  refine aops_nil ?_
  refine ago_seqE (rfl : C58_6 = .seq C58_7 C58_8) ?_
  refine ago_regE (rfl : C58_7 = .region 3 R58_3 false) (l := [0, 1]) rfl ?_
  obtain ⟨b418, i419, p417, hp420, hv421, H⟩ := H
  refine lj 41 R58_3_N rfl rfl rfl (ov_fldA rfl rfl underlying34 rfl sz5 (by decide) h3 hp420 rfl hv421) ?_
  obtain ⟨b422, i423, x425, hp424, hg426, H⟩ := H
  refine lj 42 R58_3_N rfl rfl rfl (ov_ldI rfl underlying5 rfl rfl hp424 hg426) ?_
  refine aops_nil ?_
  exact S58_1_ok Q E  _ m_0 p301 p382 x425 aw410 h0 h2 h3 rfl H
theorem F58_ok {Q : Unit → AW → Prop} {E : List PanicEntry → AW → Prop} (m_0 : Value) (aw : AW) (H : S58_0 Q E m_0 aw) : CallP prog 58 [m_0] aw sh58 Q E :=
  callP_of func58 C58_is rfl (Nat.le_of_ble_eq_true rfl) (S58_0_ok Q E _ m_0 aw rfl H)
def C67_0 := bodyOf f67
theorem C67_is : f67.body = some C67_0 := by kernel_rfl
def C67_1 := cl C67_0
def R67_0 := regOps C67_1
def C67_2 := cr C67_0
def C67_3 := cl C67_2
def C67_4 := cl C67_3
def R67_1 := regOps C67_4
def C67_5 := cr C67_3
def C67_6 := cl C67_5
def C67_7 := cr C67_5
def C67_8 := cr C67_2
def C67_9 := cl C67_8
def R67_3 := regOps C67_9
def C67_10 := cr C67_8
theorem R67_0_N : dstsOk 38 R67_0 = true := by decide +kernel
theorem R67_1_N : dstsOk 38 R67_1 = true := by decide +kernel
theorem R67_1_O : linOk R67_1 [0, 1, 2, 3, 4, 6, 7, 8, 9] [(5, [0, 6, 7, 8, 9], []), (10, [0], [11, 12])] = true := by decide +kernel
theorem R67_3_N : dstsOk 38 R67_3 = true := by decide +kernel
theorem R67_3_O : linOk R67_3 [0, 1, 2, 3, 4, 6, 7, 8, 9] [(5, [0, 6, 7, 8, 9], []), (10, [0], [11, 12, 13])] = true := by decide +kernel
def S67_1 (Q : Bool → AW → Prop) (E : List PanicEntry → AW → Prop)  (m_0 : Value) (n_1 : Int) (aw : AW) : Prop :=
  nck m_0 (fldA m_0 0 fun p2 =>
  ldV aw p2 fun x10 =>
  nck m_0 (fldA m_0 0 fun p13 =>
  ldV aw p13 fun x21 =>
  CallP prog 79 [x10] aw sh79 (fun r23 aw24 =>
  again1 aw24 p13 (x21) ∧ CallP prog 23 [x21] aw24 sh23 (fun r25 aw26 =>
  Q (decide (n_1 ≤ (IntKind.i64.wrap (r23 - r25)))) aw26) E) E))
def S67_0 (Q : Bool → AW → Prop) (E : List PanicEntry → AW → Prop)  (m_0 : Value) (n_1 : Int) (aw : AW) : Prop :=
  nck m_0 (fldA m_0 0 fun p28 =>
  ldV aw p28 fun x36 =>
  nck m_0 (fldA m_0 0 fun p39 =>
  ldV aw p39 fun x47 =>
  CallP prog 79 [x36] aw sh79 (fun r49 aw50 =>
  again1 aw50 p39 (x47) ∧ CallP prog 23 [x47] aw50 sh23 (fun r51 aw52 =>
  cnd (decide ((IntKind.i64.wrap (r49 - r51)) < n_1)) (False) (S67_1 Q E  m_0 n_1 aw52)) E) E))
theorem S67_1_ok (Q : Bool → AW → Prop) (E : List PanicEntry → AW → Prop)  (ρ : Env) (m_0 : Value) (n_1 : Int) (aw : AW) (h0 : ρ 0 = m_0) (h1 : ρ 1 = .int .i64 n_1) (H : S67_1 Q E  m_0 n_1 aw) :
    AGo prog 38 [.code C67_8] ρ [] aw (RR prog f67 38 sh67 Q E) := by
  unfold S67_1 at H
  refine ago_seqE (rfl : C67_8 = .seq C67_9 C67_10) ?_
  obtain ⟨hp1, H⟩ := H
  obtain ⟨b3, i4, p2, hp5, hv6, H⟩ := H
  obtain ⟨b7, i8, x10, hp9, hg11, H⟩ := H
  obtain ⟨hp12, H⟩ := H
  obtain ⟨b14, i15, p13, hp16, hv17, H⟩ := H
  obtain ⟨b18, i19, x21, hp20, hg22, H⟩ := H
  refine ago_drawH (p := [0, 1, 2, 3, 4, 6, 7, 8, 9]) (tl := [(5, [0, 6, 7, 8, 9], []), (10, [0], [11, 12, 13])]) (hv := [(0, Value.int .i64 n_1), (1, m_0), (2, m_0), (3, p2), (4, x10), (6, m_0), (7, m_0), (8, p13), (9, x21)]) (rfl : C67_9 = .region 3 R67_3 true) mixed R67_3_N R67_3_O rfl (pv_cons rfl (pv_cons rfl (pv_cons rfl (pv_cons rfl (pv_cons rfl (pv_cons rfl (pv_cons rfl (pv_cons rfl (pv_cons rfl (pv_nil _))))))))))
    (fc 25 (.int .i64 n_1) (hd_v rfl fun ρ hρ => ⟨rfl, opv_move rfl rfl ((hρ 1 (lmem rfl)).trans h1)⟩) rfl rfl
    (fc 26 m_0 (hd_v rfl fun ρ hρ => ⟨rfl, opv_move rfl rfl ((hρ 0 (lmem rfl)).trans h0)⟩) rfl rfl
    (fc 27 m_0 (hd_v rfl fun ρ hρ => ⟨rfl, ov_nck rfl rfl ((hρ 26 (lmem rfl)).trans rfl) hp1⟩) rfl rfl
    (fc 28 p2 (hd_v rfl fun ρ hρ => ⟨rfl, ov_fldA rfl rfl underlying77 rfl sz50 (by decide) ((hρ 27 (lmem rfl)).trans rfl) hp5 rfl hv6⟩) rfl rfl
    (fc 29 x10 (hd_v rfl fun ρ hρ => ⟨rfl, ov_ldV rfl underlying50 rfl rfl ((hρ 28 (lmem rfl)).trans rfl) hp9 hg11⟩) rfl rfl
    (fc 31 m_0 (hd_v rfl fun ρ hρ => ⟨rfl, opv_move rfl rfl ((hρ 0 (lmem rfl)).trans h0)⟩) rfl rfl
    (fc 32 m_0 (hd_v rfl fun ρ hρ => ⟨rfl, ov_nck rfl rfl ((hρ 31 (lmem rfl)).trans rfl) hp12⟩) rfl rfl
    (fc 33 p13 (hd_v rfl fun ρ hρ => ⟨rfl, ov_fldA rfl rfl underlying77 rfl sz50 (by decide) ((hρ 32 (lmem rfl)).trans rfl) hp16 rfl hv17⟩) rfl rfl
    (fc 34 x21 (hd_v rfl fun ρ hρ => ⟨rfl, ov_ldV rfl underlying50 rfl rfl ((hρ 33 (lmem rfl)).trans rfl) hp20 hg22⟩) rfl rfl
    ffn))))))))) ?_
  refine lt_call (dt := some 30) rfl rfl (fun ρ hρ => ⟨rfl, opc_of rfl rfl is79 (ma_cons ((hρ 29 (lmem rfl)).trans rfl) rfl)⟩) H (fun _ _ h _ => ⟨rfl, h⟩) fun r23 aw24 H => ?_
  obtain ⟨hg22, H⟩ := H
  replace hg22 := hg22 _ _ hp20
  refine lt_next (l := [0, 6, 7, 8, 9]) (hv := []) rfl rfl (pv_nil _)
    (fc 25 (.int .i64 n_1) (hd_v rfl fun ρ hρ => ⟨rfl, opv_move rfl rfl ((hρ 1 (lmem rfl)).trans h1)⟩) rfl rfl
    (fc 31 m_0 (hd_v rfl fun ρ hρ => ⟨rfl, opv_move rfl rfl ((hρ 0 (lmem rfl)).trans h0)⟩) rfl rfl
    (fc 32 m_0 (hd_v rfl fun ρ hρ => ⟨rfl, ov_nck rfl rfl ((hρ 31 (lmem rfl)).trans rfl) hp12⟩) rfl rfl
    (fc 33 p13 (hd_v rfl fun ρ hρ => ⟨rfl, ov_fldA rfl rfl underlying77 rfl sz50 (by decide) ((hρ 32 (lmem rfl)).trans rfl) hp16 rfl hv17⟩) rfl rfl
    (fc 34 x21 (hd_v rfl fun ρ hρ => ⟨rfl, ov_ldV rfl underlying50 rfl rfl ((hρ 33 (lmem rfl)).trans rfl) hp20 hg22⟩) rfl rfl
    ffn))))) ?_
  refine lt_call (dt := some 35) rfl rfl (fun ρ hρ => ⟨rfl, opc_of rfl rfl is23 (ma_cons ((hρ 34 (lmem rfl)).trans rfl) rfl)⟩) H (fun _ _ h _ => ⟨rfl, h⟩) fun r25 aw26 H => ?_
  refine lt_next (l := [0, 11, 12, 13]) (hv := [(11, Value.int .i64 (IntKind.i64.wrap (r23 - r25))), (12, Value.bool (decide (n_1 ≤ (IntKind.i64.wrap (r23 - r25))))), (13, Value.bool (decide (n_1 ≤ (IntKind.i64.wrap (r23 - r25)))))]) rfl rfl (pv_cons rfl (pv_cons rfl (pv_cons rfl (pv_nil _))))
    (fc 25 (.int .i64 n_1) (hd_v rfl fun ρ hρ => ⟨rfl, opv_move rfl rfl ((hρ 1 (lmem rfl)).trans h1)⟩) rfl rfl
    (fc 36 (.int .i64 (IntKind.i64.wrap (r23 - r25))) (hd_v rfl fun ρ hρ => ⟨rfl, opv_sub rfl rfl rfl ((hρ 30 (lmem rfl)).trans rfl) ((hρ 35 (lmem rfl)).trans rfl)⟩) rfl rfl
    (fc 37 (.bool (decide (n_1 ≤ (IntKind.i64.wrap (r23 - r25))))) (hd_v rfl fun ρ hρ => ⟨rfl, opv_le rfl rfl rfl ((hρ 25 (lmem rfl)).trans rfl) ((hρ 36 (lmem rfl)).trans rfl)⟩) rfl rfl
    (fc 4 (.bool (decide (n_1 ≤ (IntKind.i64.wrap (r23 - r25))))) (hd_v rfl fun ρ hρ => ⟨rfl, opv_assign rfl rfl ((hρ 37 (lmem rfl)).trans rfl)⟩) rfl rfl
    ffn)))) ?_
  refine lt_end ?_
  exact ago_retE (rfl : C67_10 = .ret) (r := (decide (n_1 ≤ (IntKind.i64.wrap (r23 - r25))))) (ares_1 rfl (oneT rfl)) rfl H
theorem S67_0_ok (Q : Bool → AW → Prop) (E : List PanicEntry → AW → Prop)  (ρ : Env) (m_0 : Value) (n_1 : Int) (aw : AW) (h0 : ρ 0 = m_0) (h1 : ρ 1 = .int .i64 n_1) (H : S67_0 Q E  m_0 n_1 aw) :
    AGo prog 38 [.code C67_0] ρ [] aw (RR prog f67 38 sh67 Q E) := by
  unfold S67_0 at H
  refine ago_seqE (rfl : C67_0 = .seq C67_1 C67_2) ?_
  refine ago_regE (rfl : C67_1 = .region 0 R67_0 false) (l := [0]) rfl ?_
  refine lj 4 R67_0_N rfl rfl rfl (opv_assign rfl rfl rfl) ?_
  refine aops_nil ?_
  refine ago_seqE (rfl : C67_2 = .seq C67_3 C67_8) ?_
  refine ago_seqE (rfl : C67_3 = .seq C67_4 C67_5) ?_
  obtain ⟨hp27, H⟩ := H
  obtain ⟨b29, i30, p28, hp31, hv32, H⟩ := H
  obtain ⟨b33, i34, x36, hp35, hg37, H⟩ := H
  obtain ⟨hp38, H⟩ := H
  obtain ⟨b40, i41, p39, hp42, hv43, H⟩ := H
  obtain ⟨b44, i45, x47, hp46, hg48, H⟩ := H
  refine ago_drawH (p := [0, 1, 2, 3, 4, 6, 7, 8, 9]) (tl := [(5, [0, 6, 7, 8, 9], []), (10, [0], [11, 12])]) (hv := [(0, Value.int .i64 n_1), (1, m_0), (2, m_0), (3, p28), (4, x36), (6, m_0), (7, m_0), (8, p39), (9, x47)]) (rfl : C67_4 = .region 1 R67_1 true) mixed R67_1_N R67_1_O rfl (pv_cons rfl (pv_cons rfl (pv_cons rfl (pv_cons rfl (pv_cons rfl (pv_cons rfl (pv_cons rfl (pv_cons rfl (pv_cons rfl (pv_nil _))))))))))
    (fc 5 (.int .i64 n_1) (hd_v rfl fun ρ hρ => ⟨rfl, opv_move rfl rfl ((hρ 1 (lmem rfl)).trans h1)⟩) rfl rfl
    (fc 6 m_0 (hd_v rfl fun ρ hρ => ⟨rfl, opv_move rfl rfl ((hρ 0 (lmem rfl)).trans h0)⟩) rfl rfl
    (fc 7 m_0 (hd_v rfl fun ρ hρ => ⟨rfl, ov_nck rfl rfl ((hρ 6 (lmem rfl)).trans rfl) hp27⟩) rfl rfl
    (fc 8 p28 (hd_v rfl fun ρ hρ => ⟨rfl, ov_fldA rfl rfl underlying77 rfl sz50 (by decide) ((hρ 7 (lmem rfl)).trans rfl) hp31 rfl hv32⟩) rfl rfl
    (fc 9 x36 (hd_v rfl fun ρ hρ => ⟨rfl, ov_ldV rfl underlying50 rfl rfl ((hρ 8 (lmem rfl)).trans rfl) hp35 hg37⟩) rfl rfl
    (fc 11 m_0 (hd_v rfl fun ρ hρ => ⟨rfl, opv_move rfl rfl ((hρ 0 (lmem rfl)).trans h0)⟩) rfl rfl
    (fc 12 m_0 (hd_v rfl fun ρ hρ => ⟨rfl, ov_nck rfl rfl ((hρ 11 (lmem rfl)).trans rfl) hp38⟩) rfl rfl
    (fc 13 p39 (hd_v rfl fun ρ hρ => ⟨rfl, ov_fldA rfl rfl underlying77 rfl sz50 (by decide) ((hρ 12 (lmem rfl)).trans rfl) hp42 rfl hv43⟩) rfl rfl
    (fc 14 x47 (hd_v rfl fun ρ hρ => ⟨rfl, ov_ldV rfl underlying50 rfl rfl ((hρ 13 (lmem rfl)).trans rfl) hp46 hg48⟩) rfl rfl
    ffn))))))))) ?_
  refine lt_call (dt := some 10) rfl rfl (fun ρ hρ => ⟨rfl, opc_of rfl rfl is79 (ma_cons ((hρ 9 (lmem rfl)).trans rfl) rfl)⟩) H (fun _ _ h _ => ⟨rfl, h⟩) fun r49 aw50 H => ?_
  obtain ⟨hg48, H⟩ := H
  replace hg48 := hg48 _ _ hp46
  refine lt_next (l := [0, 6, 7, 8, 9]) (hv := []) rfl rfl (pv_nil _)
    (fc 5 (.int .i64 n_1) (hd_v rfl fun ρ hρ => ⟨rfl, opv_move rfl rfl ((hρ 1 (lmem rfl)).trans h1)⟩) rfl rfl
    (fc 11 m_0 (hd_v rfl fun ρ hρ => ⟨rfl, opv_move rfl rfl ((hρ 0 (lmem rfl)).trans h0)⟩) rfl rfl
    (fc 12 m_0 (hd_v rfl fun ρ hρ => ⟨rfl, ov_nck rfl rfl ((hρ 11 (lmem rfl)).trans rfl) hp38⟩) rfl rfl
    (fc 13 p39 (hd_v rfl fun ρ hρ => ⟨rfl, ov_fldA rfl rfl underlying77 rfl sz50 (by decide) ((hρ 12 (lmem rfl)).trans rfl) hp42 rfl hv43⟩) rfl rfl
    (fc 14 x47 (hd_v rfl fun ρ hρ => ⟨rfl, ov_ldV rfl underlying50 rfl rfl ((hρ 13 (lmem rfl)).trans rfl) hp46 hg48⟩) rfl rfl
    ffn))))) ?_
  refine lt_call (dt := some 15) rfl rfl (fun ρ hρ => ⟨rfl, opc_of rfl rfl is23 (ma_cons ((hρ 14 (lmem rfl)).trans rfl) rfl)⟩) H (fun _ _ h _ => ⟨rfl, h⟩) fun r51 aw52 H => ?_
  refine lt_next (l := [0, 11, 12]) (hv := [(11, Value.int .i64 (IntKind.i64.wrap (r49 - r51))), (12, Value.bool (decide ((IntKind.i64.wrap (r49 - r51)) < n_1)))]) rfl rfl (pv_cons rfl (pv_cons rfl (pv_nil _)))
    (fc 5 (.int .i64 n_1) (hd_v rfl fun ρ hρ => ⟨rfl, opv_move rfl rfl ((hρ 1 (lmem rfl)).trans h1)⟩) rfl rfl
    (fc 16 (.int .i64 (IntKind.i64.wrap (r49 - r51))) (hd_v rfl fun ρ hρ => ⟨rfl, opv_sub rfl rfl rfl ((hρ 10 (lmem rfl)).trans rfl) ((hρ 15 (lmem rfl)).trans rfl)⟩) rfl rfl
    (fc 17 (.bool (decide ((IntKind.i64.wrap (r49 - r51)) < n_1))) (hd_v rfl fun ρ hρ => ⟨rfl, opv_gt rfl rfl rfl ((hρ 5 (lmem rfl)).trans rfl) ((hρ 16 (lmem rfl)).trans rfl)⟩) rfl rfl
    ffn))) ?_
  refine lt_end ?_
  refine ago_condE  (rfl : C67_5 = .cond (.tmp 17) C67_6 C67_7) rfl rfl (fun hb53 => ?_) (fun hb53 => ?_)
  · exact (cnd_t H hb53).elim
  replace H := cnd_f H hb53
  refine ago_skipE (rfl : C67_7 = .skip) ?_
  exact S67_1_ok Q E  _ m_0 n_1 aw52 h0 h1 H
theorem F67_ok {Q : Bool → AW → Prop} {E : List PanicEntry → AW → Prop} (m_0 : Value) (n_1 : Int) (aw : AW) (H : S67_0 Q E m_0 n_1 aw) : CallP prog 67 [m_0, .int .i64 n_1] aw sh67 Q E :=
  callP_of func67 C67_is rfl (Nat.le_of_ble_eq_true rfl) (S67_0_ok Q E _ m_0 n_1 aw rfl rfl H)
end
end Go.Proofs.Tryd
