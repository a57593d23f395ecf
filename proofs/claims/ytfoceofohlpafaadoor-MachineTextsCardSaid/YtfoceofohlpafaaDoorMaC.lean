/- Printed by a program of the prover: what the Go functions of this seat do, in steps. -/
import Derived.Test.YtfoceofohlpafaaDoorMaF
set_option linter.unusedSectionVars false
set_option linter.unusedSimpArgs false
set_option linter.unusedVariables false
namespace Go.Proofs.Tryd
open Go Go.Am Go.RowKit
set_option maxHeartbeats 4000000
set_option maxRecDepth 100000
noncomputable section
variable [SymE]
def C57_0 := bodyOf f57
theorem C57_is : f57.body = some C57_0 := by kernel_rfl
def C57_1 := cl C57_0
def R57_0 := regOps C57_1
def C57_2 := cr C57_0
def C57_3 := cl C57_2
def C57_4 := cl C57_3
def R57_1 := regOps C57_4
def C57_5 := cr C57_3
def C57_6 := cl C57_5
def C57_7 := cl C57_6
def R57_2 := regOps C57_7
def C57_8 := cr C57_6
def C57_9 := cr C57_5
def C57_10 := cr C57_2
theorem R57_0_N : dstsOk 94 R57_0 = true := by decide +kernel
theorem R57_1_N : dstsOk 94 R57_1 = true := by decide +kernel
theorem R57_2_N : dstsOk 94 R57_2 = true := by decide +kernel
def S57_0 (Q : (Bool × Int × Int × ByteArray × ByteArray × Value × Int) → AW → Prop) (E : List PanicEntry → AW → Prop)  (m_0 : Value) (s_1 : ByteArray) (aw : AW) : Prop :=
  alc aw [.int .i64 0, .int .u64 0, .string (⟨#[]⟩ : ByteArray), .string (⟨#[]⟩ : ByteArray), (.slice none 0 0), .int .i64 0] 29 0 fun p1 aw2 =>
  nck m_0 (fldA m_0 5 fun p6 =>
  ldV aw2 p6 fun x14 =>
  slen x14 fun n16 =>
  cnd (decide (n16 = 0)) (st aw2 p1 [.int .i64 9, .int .u64 0, .string s_1, .string (⟨#[]⟩ : ByteArray), (.slice none 0 0), .int .i64 0] fun aw23 =>
  ptr p1 fun b30 i31 => gI .i64 aw23 b30 i31 fun c33 => gI .u64 aw23 b30 (i31 + 1) fun c34 => gS aw23 b30 (i31 + 2) fun c35 => gS aw23 b30 (i31 + 3) fun c36 => gV aw23 b30 (i31 + 4) fun c37 => gI .i64 aw23 b30 (i31 + 5) fun c38 => Q (false, c33, c34, c35, c36, c37, c38) aw23) (False))
theorem S57_0_ok (Q : (Bool × Int × Int × ByteArray × ByteArray × Value × Int) → AW → Prop) (E : List PanicEntry → AW → Prop)  (ρ : Env) (m_0 : Value) (s_1 : ByteArray) (aw : AW) (h0 : ρ 0 = m_0) (h1 : ρ 1 = .string s_1) (H : S57_0 Q E  m_0 s_1 aw) :
    AGo prog 94 [.code C57_0] ρ [] aw (RR prog f57 94 sh57 Q E) := by
  unfold S57_0 at H
  refine ago_seqE (rfl : C57_0 = .seq C57_1 C57_2) ?_
  refine ago_regE (rfl : C57_1 = .region 0 R57_0 false) (l := [0, 1]) rfl ?_
  refine lj 4 R57_0_N rfl rfl rfl (opv_assign rfl rfl rfl) ?_
  obtain ⟨p1, aw2, hp3, ha4, H⟩ := H
  refine lj 5 R57_0_N rfl rfl rfl (ov_alloc rfl z29 rfl rfl hp3 ha4) ?_
  refine aops_nil ?_
  refine ago_seqE (rfl : C57_2 = .seq C57_3 C57_10) ?_
  refine ago_seqE (rfl : C57_3 = .seq C57_4 C57_5) ?_
  refine ago_regE (rfl : C57_4 = .region 1 R57_1 false) (l := [0, 1, 2, 3, 4, 5]) rfl ?_
  refine lj 9 R57_1_N rfl rfl rfl (opv_move rfl rfl h0) ?_
  obtain ⟨hp5, H⟩ := H
  refine lj 10 R57_1_N rfl rfl rfl (ov_nck rfl rfl rfl hp5) ?_
  obtain ⟨b7, i8, p6, hp9, hv10, H⟩ := H
  refine lj 11 R57_1_N rfl rfl rfl (ov_fldA rfl rfl underlying77 rfl sz71 (by decide) rfl hp9 rfl hv10) ?_
  obtain ⟨b11, i12, x14, hp13, hg15, H⟩ := H
  refine lj 12 R57_1_N rfl rfl rfl (ov_ldV rfl underlying71 rfl rfl rfl hp13 hg15) ?_
  obtain ⟨q17, l18, c19, n16, hv20, hn21, H⟩ := H
  refine lj 13 R57_1_N rfl rfl rfl (ov_len rfl rfl rfl underlying71 rfl hv20 hn21) ?_
  refine lj 14 R57_1_N rfl rfl rfl (opv_eqI rfl rfl rfl rfl rfl) ?_
  refine aops_nil ?_
  refine ago_condE  (rfl : C57_5 = .cond (.tmp 14) C57_6 C57_9) rfl rfl (fun hb22 => ?_) (fun hb22 => ?_)
  · replace H := cnd_t H hb22
    refine ago_seqE (rfl : C57_6 = .seq C57_7 C57_8) ?_
    refine ago_regE (rfl : C57_7 = .region 2 R57_2 false) (l := [0, 1, 2, 3]) rfl ?_
    refine lj 15 R57_2_N rfl rfl rfl (opv_move rfl rfl h1) ?_
    refine lj 16 R57_2_N rfl rfl rfl (ov_bld (r := [.int .i64 9, .int .u64 0, .string s_1, .string (⟨#[]⟩ : ByteArray), (.slice none 0 0), .int .i64 0]) rfl rfl bo29 (mp_cons rfl (mp_cons rfl rfl)) (fillP rfl rfl rfl rfl (fillP rfl rfl rfl rfl (fillN rfl)))) ?_
    refine lj 4 R57_2_N rfl rfl rfl (opv_assign rfl rfl rfl) ?_
    obtain ⟨b24, i25, aw23, hp26, hw27, ho28, ha29, H⟩ := H
    refine lk (dt := none) R57_2_N rfl rfl rfl (ov_st rfl rfl rfl rfl rfl rfl sz29 hp26 hw27 ho28 ha29) ?_
    refine aops_nil ?_
    obtain ⟨b30, i31, hp32, c33, hg39, c34, hg40, c35, hg41, c36, hg42, c37, hg43, c38, hg44, H⟩ := H
    exact ago_retE (rfl : C57_8 = .ret) (r := (false, c33, c34, c35, c36, c37, c38)) (ares_2 rfl (oneT rfl) (oneN rfl hp32 underlying29 rfl sz29 (getN_cons hg39 (getN_cons hg40 (getN_cons hg41 (getN_cons hg42 (getN_cons hg43 (getN_cons hg44 getN_nil)))))))) rfl H
  exact (cnd_f H hb22).elim
theorem F57_ok {Q : (Bool × Int × Int × ByteArray × ByteArray × Value × Int) → AW → Prop} {E : List PanicEntry → AW → Prop} (m_0 : Value) (s_1 : ByteArray) (aw : AW) (H : S57_0 Q E m_0 s_1 aw) : CallP prog 57 [m_0, .string s_1] aw sh57 Q E :=
  callP_of func57 C57_is rfl (Nat.le_of_ble_eq_true rfl) (S57_0_ok Q E _ m_0 s_1 aw rfl rfl H)
def C58_0 := bodyOf f58
theorem C58_is : f58.body = some C58_0 := by kernel_rfl
def C58_1 := cl C58_0
def R58_0 := regOps C58_1
def C58_2 := cr C58_0
def C58_3 := cl C58_2
def R58_1 := regOps C58_3
def C58_4 := cr C58_2
def C58_5 := cl C58_4
def R58_2 := regOps C58_5
def C58_6 := cr C58_4
def C58_7 := cl C58_6
def R58_3 := regOps C58_7
def C58_8 := cr C58_6
def C58_9 := cl C58_8
def C58_10 := cl C58_9
def R58_5 := regOps C58_10
def C58_11 := cr C58_9
def C58_12 := cl C58_11
def C58_13 := cr C58_11
def C58_14 := cl C58_13
def R58_7 := regOps C58_14
def C58_15 := cr C58_13
def C58_16 := cl C58_15
def R58_8 := regOps C58_16
def C58_17 := cr C58_15
def C58_18 := cl C58_17
def R58_9 := regOps C58_18
def C58_19 := cr C58_17
def C58_20 := cl C58_19
def C58_21 := cr C58_19
def C58_22 := cl C58_21
def R58_11 := regOps C58_22
def C58_23 := cr C58_21
def C58_24 := cl C58_23
def C58_25 := cr C58_23
def C58_26 := cl C58_25
def R58_13 := regOps C58_26
def C58_27 := cr C58_25
def C58_28 := cl C58_27
def C58_29 := cr C58_27
def C58_30 := cl C58_29
def R58_15 := regOps C58_30
def C58_31 := cr C58_29
def C58_32 := cl C58_31
def R58_16 := regOps C58_32
def C58_33 := cr C58_31
def C58_34 := cl C58_33
def R58_17 := regOps C58_34
def C58_35 := cr C58_33
def C58_36 := cl C58_35
def C58_37 := cr C58_35
def C58_38 := cl C58_37
def R58_19 := regOps C58_38
def C58_39 := cr C58_37
def C58_40 := cl C58_39
def R58_20 := regOps C58_40
def C58_41 := cr C58_39
def C58_42 := cl C58_41
def R58_21 := regOps C58_42
def C58_43 := cr C58_41
def C58_44 := cl C58_43
def C58_45 := cl C58_44
def R58_22 := regOps C58_45
def C58_46 := cr C58_44
def C58_47 := cl C58_46
def R58_23 := regOps C58_47
def C58_48 := cr C58_46
def R58_24 := regOps C58_48
def C58_49 := cr C58_43
def C58_50 := cl C58_49
def R58_25 := regOps C58_50
def C58_51 := cr C58_49
def C58_52 := cl C58_51
def C58_53 := cr C58_51
def C58_54 := cl C58_53
def R58_27 := regOps C58_54
def C58_55 := cr C58_53
def C58_56 := cl C58_55
def C58_57 := cr C58_55
def C58_58 := cl C58_57
def R58_29 := regOps C58_58
def C58_59 := cr C58_57
def C58_60 := cl C58_59
def C58_61 := cr C58_59
def C58_62 := cl C58_61
def R58_31 := regOps C58_62
def C58_63 := cr C58_61
def C58_64 := cl C58_63
def C58_69 := cr C58_63
def C58_70 := cl C58_69
def R58_34 := regOps C58_70
def C58_71 := cr C58_69
def C58_72 := cl C58_71
def C58_75 := cr C58_71
def C58_76 := cl C58_75
def R58_37 := regOps C58_76
def C58_77 := cr C58_75
def C58_78 := cl C58_77
def C58_79 := cr C58_77
def C58_80 := cl C58_79
def R58_39 := regOps C58_80
def C58_81 := cr C58_79
def C58_82 := cl C58_81
def R58_40 := regOps C58_82
def C58_83 := cr C58_81
def C58_84 := cl C58_83
def R58_41 := regOps C58_84
def C58_85 := cr C58_83
def C58_86 := cl C58_85
def C58_87 := cr C58_85
def C58_88 := cl C58_87
def R58_43 := regOps C58_88
def C58_89 := cr C58_87
def C58_90 := cl C58_89
def C58_91 := cr C58_89
def C58_92 := cl C58_91
def R58_45 := regOps C58_92
def C58_93 := cr C58_91
def C58_94 := cl C58_93
def C58_95 := cr C58_93
def C58_96 := cl C58_95
def R58_47 := regOps C58_96
def C58_97 := cr C58_95
def C58_98 := cl C58_97
def C58_99 := cr C58_97
def C58_100 := cl C58_99
def R58_49 := regOps C58_100
def C58_101 := cr C58_99
def C58_102 := cl C58_101
def C58_103 := cr C58_101
def C58_104 := cl C58_103
def R58_51 := regOps C58_104
def C58_105 := cr C58_103
def C58_106 := cl C58_105
def C58_107 := cr C58_105
def R58_4 := regOps C58_107
theorem R58_0_N : dstsOk 303 R58_0 = true := by decide +kernel
theorem R58_0_O : linOk R58_0 [0, 1, 2, 3, 4, 5, 6, 7, 8, 9, 10, 11] [] = true := by decide +kernel
theorem R58_1_N : dstsOk 303 R58_1 = true := by decide +kernel
theorem R58_1_O : linOk R58_1 [0, 1, 2, 3, 4, 5, 6, 7, 8, 9, 10, 11, 12, 13, 14, 15, 16] [(17, [0, 1, 2, 3, 4, 5, 6, 7, 8, 9, 10, 11, 12, 13, 14, 15, 16], []), (18, [], [])] = true := by decide +kernel
theorem R58_2_N : dstsOk 303 R58_2 = true := by decide +kernel
theorem R58_3_N : dstsOk 303 R58_3 = true := by decide +kernel
theorem R58_5_N : dstsOk 303 R58_5 = true := by decide +kernel
theorem R58_7_N : dstsOk 303 R58_7 = true := by decide +kernel
theorem R58_8_N : dstsOk 303 R58_8 = true := by decide +kernel
theorem R58_9_N : dstsOk 303 R58_9 = true := by decide +kernel
theorem R58_11_N : dstsOk 303 R58_11 = true := by decide +kernel
theorem R58_13_N : dstsOk 303 R58_13 = true := by decide +kernel
theorem R58_15_N : dstsOk 303 R58_15 = true := by decide +kernel
theorem R58_16_N : dstsOk 303 R58_16 = true := by decide +kernel
theorem R58_16_O : linOk R58_16 [0, 1, 2, 3, 4, 5, 6, 7, 8] [(9, [], [])] = true := by decide +kernel
theorem R58_17_N : dstsOk 303 R58_17 = true := by decide +kernel
theorem R58_19_N : dstsOk 303 R58_19 = true := by decide +kernel
theorem R58_20_N : dstsOk 303 R58_20 = true := by decide +kernel
theorem R58_21_N : dstsOk 303 R58_21 = true := by decide +kernel
theorem R58_22_N : dstsOk 303 R58_22 = true := by decide +kernel
theorem R58_23_N : dstsOk 303 R58_23 = true := by decide +kernel
theorem R58_23_O : linOk R58_23 [0, 1, 2, 3, 4, 5, 6, 7, 8, 9, 10, 11] [(12, [0, 1, 2, 3, 4, 5, 6, 7, 8, 9, 10], []), (13, [0], [14, 15]), (16, [], [])] = true := by decide +kernel
theorem R58_24_N : dstsOk 303 R58_24 = true := by decide +kernel
theorem R58_24_O : linOk R58_24 [0, 1, 2, 3, 4, 5, 6, 7, 8, 9, 10, 11, 12, 13] [(14, [], [])] = true := by decide +kernel
theorem R58_25_N : dstsOk 303 R58_25 = true := by decide +kernel
theorem R58_27_N : dstsOk 303 R58_27 = true := by decide +kernel
theorem R58_29_N : dstsOk 303 R58_29 = true := by decide +kernel
theorem R58_31_N : dstsOk 303 R58_31 = true := by decide +kernel
theorem R58_34_N : dstsOk 303 R58_34 = true := by decide +kernel
theorem R58_37_N : dstsOk 303 R58_37 = true := by decide +kernel
theorem R58_39_N : dstsOk 303 R58_39 = true := by decide +kernel
theorem R58_40_N : dstsOk 303 R58_40 = true := by decide +kernel
theorem R58_41_N : dstsOk 303 R58_41 = true := by decide +kernel
theorem R58_43_N : dstsOk 303 R58_43 = true := by decide +kernel
theorem R58_45_N : dstsOk 303 R58_45 = true := by decide +kernel
theorem R58_47_N : dstsOk 303 R58_47 = true := by decide +kernel
theorem R58_49_N : dstsOk 303 R58_49 = true := by decide +kernel
theorem R58_51_N : dstsOk 303 R58_51 = true := by decide +kernel
theorem R58_4_N : dstsOk 303 R58_4 = true := by decide +kernel
def S58_1 (Q : Unit → AW → Prop) (E : List PanicEntry → AW → Prop)  (m_0 : Value) (f_2 : Value) (i_3 : Value) (t_42 : Int) (aw : AW) : Prop :=
  cnd (decide (t_42 = 0)) (False) (cnd (decide (t_42 = 1)) (fldA i_3 3 fun p3 =>
  ldS aw p3 fun x11 =>
  CallP prog 69 [m_0, .string x11] aw sh69 (fun r13 aw14 =>
  Q () aw14) E) (cnd (decide (t_42 = 2)) (False) (cnd (decide (t_42 = 3)) (False) (cnd (decide (t_42 = 4)) (False) (cnd (decide (t_42 = 5)) (nck m_0 (fldA m_0 2 fun p20 =>
  ldV aw p20 fun x28 =>
  fldA i_3 1 fun p30 =>
  ldI .i64 aw p30 fun x38 =>
  ixS x28 x38 1 fun p40 =>
  ldI .u64 aw p40 fun x52 =>
  CallP prog 34 [m_0, .int .u64 x52] aw sh34 (fun r54 aw55 =>
  Q () aw55) E)) (cnd (decide (t_42 = 6)) (False) (cnd (decide (t_42 = 7)) (CallP prog 72 [m_0] aw sh72 (fun r58 aw59 =>
  Q () aw59) E) (cnd (decide (t_42 = 8)) (CallP prog 37 [m_0] aw sh37 (fun r61 aw62 =>
  nck m_0 (fldA m_0 3 fun p64 =>
  ldV aw62 p64 fun x72 =>
  nck f_2 (fldA f_2 2 fun p75 =>
  ldI .i64 aw62 p75 fun x83 =>
  cutV aw62 1 x72 0 (IntKind.i64.wrap (x83 - 1)) fun v85 =>
  alcS aw62 [.int .u64 r61] 26 1 1 fun p87 aw88 =>
  again1 aw88 p64 (x72) ∧ again1 aw88 p75 (.int .i64 x83) ∧ Cut aw88 1 x72 0 (IntKind.i64.wrap (x83 - 1)) v85 ∧ app aw88 26 1 8 v85 p87 fun v91 aw92 =>
  nck m_0 (fldA m_0 3 fun p95 =>
  st aw92 p95 [v91] fun aw100 =>
  nck m_0 (fldA m_0 4 fun p108 =>
  ldV aw100 p108 fun x116 =>
  nck m_0 (fldA m_0 4 fun p119 =>
  ldV aw100 p119 fun x127 =>
  slen x127 fun n129 =>
  cutV aw100 3 x116 0 (IntKind.i64.wrap (n129 - 1)) fun v135 =>
  nck m_0 (fldA m_0 4 fun p138 =>
  st aw100 p138 [v135] fun aw143 =>
  Q () aw143))))))) E) (cnd (decide (t_42 = 9)) (False) (cnd (decide (t_42 = 10)) (False) (cnd (decide (t_42 = 12)) (False) (cnd (decide (t_42 = 13)) (False) (cnd (decide (t_42 = 18)) (False) (cnd (decide (t_42 = 19)) (False) (cnd (decide (t_42 = 20)) (fldA i_3 1 fun p157 =>
  ldI .i64 aw p157 fun x165 =>
  CallP prog 74 [m_0, .int .i64 x165] aw sh74 (fun r167 aw168 =>
  Q () aw168) E) (cnd (decide (t_42 = 21)) (False) (cnd (decide (t_42 = 22)) (False) (cnd (decide (t_42 = 23)) (False) (cnd (decide (t_42 = 24)) (False) (cnd (decide (t_42 = 25)) (False) (cnd (decide (t_42 = 26)) (False) (ptr i_3 fun b175 i176 =>
  gI .u8 aw b175 i176 fun c178 =>
  gI .i64 aw b175 (i176 + 1) fun c179 =>
  gI .i64 aw b175 (i176 + 2) fun c180 =>
  gS aw b175 (i176 + 3) fun c181 =>
  CallP prog 75 [m_0, .agg #[.int .u8 c178, .int .i64 c179, .int .i64 c180, .string c181]] aw sh75 (fun r186 aw187 =>
  Q () aw187) E))))))))))))))))))))))
def S58_0 (Q : Unit → AW → Prop) (E : List PanicEntry → AW → Prop)  (m_0 : Value) (aw : AW) : Prop :=
  nck m_0 (fldA m_0 4 fun p189 =>
  ldV aw p189 fun x197 =>
  nck m_0 (fldA m_0 4 fun p200 =>
  ldV aw p200 fun x208 =>
  slen x208 fun n210 =>
  ixS x197 (IntKind.i64.wrap (n210 - 1)) 3 fun p216 =>
  nck m_0 (fldA m_0 1 fun p226 =>
  ldV aw p226 fun x234 =>
  nck p216 (fldA p216 0 fun p237 =>
  ldI .i64 aw p237 fun x245 =>
  ixS x234 x245 2 fun p247 =>
  fldA p247 1 fun p256 =>
  ldV aw p256 fun x264 =>
  nck p216 (fldA p216 1 fun p267 =>
  ldI .i64 aw p267 fun x275 =>
  ixS x264 x275 4 fun p277 =>
  ptr p277 fun b286 i287 =>
  gI .u8 aw b286 i287 fun c289 =>
  gI .i64 aw b286 (i287 + 1) fun c290 =>
  gI .i64 aw b286 (i287 + 2) fun c291 =>
  gS aw b286 (i287 + 3) fun c292 =>
  alc aw [.int .u8 0, .int .i64 0, .int .i64 0, .string (⟨#[]⟩ : ByteArray)] 34 0 fun p297 aw298 =>
  again1 aw298 p226 (x234) ∧ again1 aw298 p237 (.int .i64 x245) ∧ again1 aw298 p256 (x264) ∧ again1 aw298 p267 (.int .i64 x275) ∧ aw298.get b286 i287 = some (.int .u8 c289) ∧ aw298.get b286 (i287 + 1) = some (.int .i64 c290) ∧ aw298.get b286 (i287 + 2) = some (.int .i64 c291) ∧ aw298.get b286 (i287 + 3) = some (.string c292) ∧ st aw298 p297 [.int .u8 c289, .int .i64 c290, .int .i64 c291, .string c292] fun aw301 =>
  nck p216 (fldA p216 1 fun p309 =>
  ldI .i64 aw301 p309 fun x317 =>
  nck p216 (fldA p216 1 fun p320 =>
  st aw301 p320 [.int .i64 (IntKind.i64.wrap (x317 + 1))] fun aw325 =>
  fldA p297 0 fun p332 =>
  ldI .u8 aw325 p332 fun x340 =>
  S58_1 Q E  m_0 p216 p297 x340 aw325)))))))
theorem S58_1_ok (Q : Unit → AW → Prop) (E : List PanicEntry → AW → Prop)  (ρ : Env) (m_0 : Value) (f_2 : Value) (i_3 : Value) (t_42 : Int) (aw : AW) (h0 : ρ 0 = m_0) (h2 : ρ 2 = f_2) (h3 : ρ 3 = i_3) (h42 : ρ 42 = .int .u8 t_42) (H : S58_1 Q E  m_0 f_2 i_3 t_42 aw) :
    AGo prog 303 [.code C58_8] ρ [] aw (RR prog f58 303 sh58 Q E) := by
  unfold S58_1 at H
  refine ago_blockE (rfl : C58_8 = .block 0 C58_9) ?_
  refine ago_seqE (rfl : C58_9 = .seq C58_10 C58_11) ?_
  refine ago_regE (rfl : C58_10 = .region 5 R58_5 false) (l := [0, 1]) rfl ?_
  refine lj 47 R58_5_N rfl rfl rfl (opv_eqI rfl rfl rfl h42 rfl) ?_
  refine lj 46 R58_5_N rfl rfl rfl (opv_assign rfl rfl rfl) ?_
  refine aops_nil ?_
  refine ago_condE  (rfl : C58_11 = .cond (.tmp 46) C58_12 C58_13) rfl rfl (fun hb1 => ?_) (fun hb1 => ?_)
  · exact (cnd_t H hb1).elim
  replace H := cnd_f H hb1
  refine ago_seqE (rfl : C58_13 = .seq C58_14 C58_15) ?_
  refine ago_regE (rfl : C58_14 = .region 7 R58_7 false) (l := [0, 1]) rfl ?_
  refine lj 54 R58_7_N rfl rfl rfl (opv_eqI rfl rfl rfl h42 rfl) ?_
  refine lj 53 R58_7_N rfl rfl rfl (opv_assign rfl rfl rfl) ?_
  refine aops_nil ?_
  refine ago_condE  (rfl : C58_15 = .cond (.tmp 53) C58_16 C58_17) rfl rfl (fun hb2 => ?_) (fun hb2 => ?_)
  · replace H := cnd_t H hb2
    refine ago_regE (rfl : C58_16 = .region 8 R58_8 false) (l := [0, 1, 2, 3]) rfl ?_
    refine lj 55 R58_8_N rfl rfl rfl (opv_move rfl rfl h0) ?_
    obtain ⟨b4, i5, p3, hp6, hv7, H⟩ := H
    refine lj 56 R58_8_N rfl rfl rfl (ov_fldA rfl rfl underlying34 rfl sz9 (by decide) h3 hp6 rfl hv7) ?_
    obtain ⟨b8, i9, x11, hp10, hg12, H⟩ := H
    refine lj 57 R58_8_N rfl rfl rfl (ov_ldS rfl underlying9 rfl rfl hp10 hg12) ?_
    refine lc 58 R58_8_N rfl rfl rfl (opc_of rfl rfl is69 (ma_cons rfl (ma_cons rfl rfl))) H (fun _ _ h => ⟨rfl, h⟩) fun r13 aw14 H => ?_
    refine aops_nil ?_
    refine ago_inBlock ?_
    exact ago_nilR (r := ()) (ares_0 rfl ) rfl H
  replace H := cnd_f H hb2
  refine ago_seqE (rfl : C58_17 = .seq C58_18 C58_19) ?_
  refine ago_regE (rfl : C58_18 = .region 9 R58_9 false) (l := [0, 1]) rfl ?_
  refine lj 60 R58_9_N rfl rfl rfl (opv_eqI rfl rfl rfl h42 rfl) ?_
  refine lj 59 R58_9_N rfl rfl rfl (opv_assign rfl rfl rfl) ?_
  refine aops_nil ?_
  refine ago_condE  (rfl : C58_19 = .cond (.tmp 59) C58_20 C58_21) rfl rfl (fun hb15 => ?_) (fun hb15 => ?_)
  · exact (cnd_t H hb15).elim
  replace H := cnd_f H hb15
  refine ago_seqE (rfl : C58_21 = .seq C58_22 C58_23) ?_
  refine ago_regE (rfl : C58_22 = .region 11 R58_11 false) (l := [0, 1]) rfl ?_
  refine lj 77 R58_11_N rfl rfl rfl (opv_eqI rfl rfl rfl h42 rfl) ?_
  refine lj 76 R58_11_N rfl rfl rfl (opv_assign rfl rfl rfl) ?_
  refine aops_nil ?_
  refine ago_condE  (rfl : C58_23 = .cond (.tmp 76) C58_24 C58_25) rfl rfl (fun hb16 => ?_) (fun hb16 => ?_)
  · exact (cnd_t H hb16).elim
  replace H := cnd_f H hb16
  refine ago_seqE (rfl : C58_25 = .seq C58_26 C58_27) ?_
  refine ago_regE (rfl : C58_26 = .region 13 R58_13 false) (l := [0, 1]) rfl ?_
  refine lj 97 R58_13_N rfl rfl rfl (opv_eqI rfl rfl rfl h42 rfl) ?_
  refine lj 96 R58_13_N rfl rfl rfl (opv_assign rfl rfl rfl) ?_
  refine aops_nil ?_
  refine ago_condE  (rfl : C58_27 = .cond (.tmp 96) C58_28 C58_29) rfl rfl (fun hb17 => ?_) (fun hb17 => ?_)
  · exact (cnd_t H hb17).elim
  replace H := cnd_f H hb17
  refine ago_seqE (rfl : C58_29 = .seq C58_30 C58_31) ?_
  refine ago_regE (rfl : C58_30 = .region 15 R58_15 false) (l := [0, 1]) rfl ?_
  refine lj 112 R58_15_N rfl rfl rfl (opv_eqI rfl rfl rfl h42 rfl) ?_
  refine lj 111 R58_15_N rfl rfl rfl (opv_assign rfl rfl rfl) ?_
  refine aops_nil ?_
  refine ago_condE  (rfl : C58_31 = .cond (.tmp 111) C58_32 C58_33) rfl rfl (fun hb18 => ?_) (fun hb18 => ?_)
  · replace H := cnd_t H hb18
    refine ago_cut (fun ρ => ρ 0 = m_0 ∧ ρ 3 = i_3 ∧ True) ⟨h0, h3, trivial⟩ (fun ρ ⟨h0, h3, _⟩ => ?_)
    obtain ⟨hp19, H⟩ := H
    obtain ⟨b21, i22, p20, hp23, hv24, H⟩ := H
    obtain ⟨b25, i26, x28, hp27, hg29, H⟩ := H
    obtain ⟨b31, i32, p30, hp33, hv34, H⟩ := H
    obtain ⟨b35, i36, x38, hp37, hg39, H⟩ := H
    obtain ⟨b41, i42, l43, c44, p40, hp45, h046, hj47, hv48, H⟩ := H
    obtain ⟨b49, i50, x52, hp51, hg53, H⟩ := H
    refine ago_drawH (p := [0, 1, 2, 3, 4, 5, 6, 7, 8]) (tl := [(9, [], [])]) (hv := [(0, m_0), (1, m_0), (2, m_0), (3, p20), (4, x28), (5, p30), (6, Value.int .i64 x38), (7, p40), (8, Value.int .u64 x52)]) (rfl : C58_32 = .region 16 R58_16 true) mixed R58_16_N R58_16_O rfl (pv_cons rfl (pv_cons rfl (pv_cons rfl (pv_cons rfl (pv_cons rfl (pv_cons rfl (pv_cons rfl (pv_cons rfl (pv_cons rfl (pv_nil _))))))))))
      (fc 113 m_0 (hd_v rfl fun ρ hρ => ⟨rfl, opv_move rfl rfl ((hρ 0 (lmem rfl)).trans h0)⟩) rfl rfl
      (fc 114 m_0 (hd_v rfl fun ρ hρ => ⟨rfl, opv_move rfl rfl ((hρ 0 (lmem rfl)).trans h0)⟩) rfl rfl
      (fc 115 m_0 (hd_v rfl fun ρ hρ => ⟨rfl, ov_nck rfl rfl ((hρ 114 (lmem rfl)).trans rfl) hp19⟩) rfl rfl
      (fc 116 p20 (hd_v rfl fun ρ hρ => ⟨rfl, ov_fldA rfl rfl underlying77 rfl sz62 (by decide) ((hρ 115 (lmem rfl)).trans rfl) hp23 rfl hv24⟩) rfl rfl
      (fc 117 x28 (hd_v rfl fun ρ hρ => ⟨rfl, ov_ldV rfl underlying62 rfl rfl ((hρ 116 (lmem rfl)).trans rfl) hp27 hg29⟩) rfl rfl
      (fc 118 p30 (hd_v rfl fun ρ hρ => ⟨rfl, ov_fldA rfl rfl underlying34 rfl sz2 (by decide) ((hρ 3 (lmem rfl)).trans h3) hp33 rfl hv34⟩) rfl rfl
      (fc 119 (.int .i64 x38) (hd_v rfl fun ρ hρ => ⟨rfl, ov_ldI rfl underlying2 rfl ((hρ 118 (lmem rfl)).trans rfl) hp37 hg39⟩) rfl rfl
      (fc 120 p40 (hd_v rfl fun ρ hρ => ⟨rfl, ov_ixS rfl rfl rfl underlying62 sz26 ((hρ 117 (lmem rfl)).trans rfl) ((hρ 119 (lmem rfl)).trans rfl) hp45 h046 hj47 hv48⟩) rfl rfl
      (fc 121 (.int .u64 x52) (hd_v rfl fun ρ hρ => ⟨rfl, ov_ldI rfl underlying26 rfl ((hρ 120 (lmem rfl)).trans rfl) hp51 hg53⟩) rfl rfl
      ffn))))))))) ?_
    refine lt_call (dt := some 122) rfl rfl (fun ρ hρ => ⟨rfl, opc_of rfl rfl is34 (ma_cons ((hρ 113 (lmem rfl)).trans rfl) (ma_cons ((hρ 121 (lmem rfl)).trans rfl) rfl))⟩) H (fun _ _ h _ => ⟨rfl, h⟩) fun r54 aw55 H => ?_
    refine lt_next (l := []) (hv := []) rfl rfl (pv_nil _)
      ffn ?_
    refine lt_end ?_
    refine ago_inBlock ?_
    exact ago_nilR (r := ()) (ares_0 rfl ) rfl H
  replace H := cnd_f H hb18
  refine ago_seqE (rfl : C58_33 = .seq C58_34 C58_35) ?_
  refine ago_cut (fun ρ => ρ 0 = m_0 ∧ ρ 2 = f_2 ∧ ρ 3 = i_3 ∧ ρ 42 = .int .u8 t_42 ∧ True) ⟨h0, h2, h3, h42, trivial⟩ (fun ρ ⟨h0, h2, h3, h42, _⟩ => ?_)
  refine ago_regE (rfl : C58_34 = .region 17 R58_17 false) (l := [0, 1]) rfl ?_
  refine lj 124 R58_17_N rfl rfl rfl (opv_eqI rfl rfl rfl h42 rfl) ?_
  refine lj 123 R58_17_N rfl rfl rfl (opv_assign rfl rfl rfl) ?_
  refine aops_nil ?_
  refine ago_condE  (rfl : C58_35 = .cond (.tmp 123) C58_36 C58_37) rfl rfl (fun hb56 => ?_) (fun hb56 => ?_)
  · exact (cnd_t H hb56).elim
  replace H := cnd_f H hb56
  refine ago_seqE (rfl : C58_37 = .seq C58_38 C58_39) ?_
  refine ago_regE (rfl : C58_38 = .region 19 R58_19 false) (l := [0, 1]) rfl ?_
  refine lj 134 R58_19_N rfl rfl rfl (opv_eqI rfl rfl rfl h42 rfl) ?_
  refine lj 133 R58_19_N rfl rfl rfl (opv_assign rfl rfl rfl) ?_
  refine aops_nil ?_
  refine ago_condE  (rfl : C58_39 = .cond (.tmp 133) C58_40 C58_41) rfl rfl (fun hb57 => ?_) (fun hb57 => ?_)
  · replace H := cnd_t H hb57
    refine ago_regE (rfl : C58_40 = .region 20 R58_20 false) (l := [0, 1]) rfl ?_
    refine lj 135 R58_20_N rfl rfl rfl (opv_move rfl rfl h0) ?_
    refine lc 136 R58_20_N rfl rfl rfl (opc_of rfl rfl is72 (ma_cons rfl rfl)) H (fun _ _ h => ⟨rfl, h⟩) fun r58 aw59 H => ?_
    refine aops_nil ?_
    refine ago_inBlock ?_
    exact ago_nilR (r := ()) (ares_0 rfl ) rfl H
  replace H := cnd_f H hb57
  refine ago_seqE (rfl : C58_41 = .seq C58_42 C58_43) ?_
  refine ago_regE (rfl : C58_42 = .region 21 R58_21 false) (l := [0, 1]) rfl ?_
  refine lj 138 R58_21_N rfl rfl rfl (opv_eqI rfl rfl rfl h42 rfl) ?_
  refine lj 137 R58_21_N rfl rfl rfl (opv_assign rfl rfl rfl) ?_
  refine aops_nil ?_
  refine ago_condE  (rfl : C58_43 = .cond (.tmp 137) C58_44 C58_49) rfl rfl (fun hb60 => ?_) (fun hb60 => ?_)
  · replace H := cnd_t H hb60
    refine ago_seqE (rfl : C58_44 = .seq C58_45 C58_46) ?_
    refine ago_regE (rfl : C58_45 = .region 22 R58_22 false) (l := [0, 1, 2]) rfl ?_
    refine lj 139 R58_22_N rfl rfl rfl (opv_move rfl rfl h0) ?_
    refine lc 140 R58_22_N rfl rfl rfl (opc_of rfl rfl is37 (ma_cons rfl rfl)) H (fun _ _ h => ⟨rfl, h⟩) fun r61 aw62 H => ?_
    refine lj 4 R58_22_N rfl rfl rfl (opv_assign rfl rfl rfl) ?_
    refine aops_nil ?_
    refine ago_seqE (rfl : C58_46 = .seq C58_47 C58_48) ?_
    obtain ⟨hp63, H⟩ := H
    obtain ⟨b65, i66, p64, hp67, hv68, H⟩ := H
    obtain ⟨b69, i70, x72, hp71, hg73, H⟩ := H
    obtain ⟨hp74, H⟩ := H
    obtain ⟨b76, i77, p75, hp78, hv79, H⟩ := H
    obtain ⟨b80, i81, x83, hp82, hg84, H⟩ := H
    obtain ⟨v85, hq86, H⟩ := H
    refine ago_drawH (p := [0, 1, 2, 3, 4, 5, 6, 7, 8, 9, 10, 11]) (tl := [(12, [0, 1, 2, 3, 4, 5, 6, 7, 8, 9, 10], []), (13, [0], [14, 15]), (16, [], [])]) (hv := [(0, m_0), (1, m_0), (2, m_0), (3, p64), (4, x72), (5, f_2), (6, f_2), (7, p75), (8, Value.int .i64 x83), (9, Value.int .i64 (IntKind.i64.wrap (x83 - 1))), (10, v85), (11, Value.int .u64 r61)]) (rfl : C58_47 = .region 23 R58_23 true) mixed R58_23_N R58_23_O rfl (pv_cons rfl (pv_cons rfl (pv_cons rfl (pv_cons rfl (pv_cons rfl (pv_cons rfl (pv_cons rfl (pv_cons rfl (pv_cons rfl (pv_cons rfl (pv_cons rfl (pv_cons rfl (pv_nil _)))))))))))))
      (fc 141 m_0 (hd_v rfl fun ρ hρ => ⟨rfl, opv_move rfl rfl ((hρ 0 (lmem rfl)).trans h0)⟩) rfl rfl
      (fc 142 m_0 (hd_v rfl fun ρ hρ => ⟨rfl, opv_move rfl rfl ((hρ 0 (lmem rfl)).trans h0)⟩) rfl rfl
      (fc 143 m_0 (hd_v rfl fun ρ hρ => ⟨rfl, ov_nck rfl rfl ((hρ 142 (lmem rfl)).trans rfl) hp63⟩) rfl rfl
      (fc 144 p64 (hd_v rfl fun ρ hρ => ⟨rfl, ov_fldA rfl rfl underlying77 rfl sz62 (by decide) ((hρ 143 (lmem rfl)).trans rfl) hp67 rfl hv68⟩) rfl rfl
      (fc 145 x72 (hd_v rfl fun ρ hρ => ⟨rfl, ov_ldV rfl underlying62 rfl rfl ((hρ 144 (lmem rfl)).trans rfl) hp71 hg73⟩) rfl rfl
      (fc 146 f_2 (hd_v rfl fun ρ hρ => ⟨rfl, opv_move rfl rfl ((hρ 2 (lmem rfl)).trans h2)⟩) rfl rfl
      (fc 147 f_2 (hd_v rfl fun ρ hρ => ⟨rfl, ov_nck rfl rfl ((hρ 146 (lmem rfl)).trans rfl) hp74⟩) rfl rfl
      (fc 148 p75 (hd_v rfl fun ρ hρ => ⟨rfl, ov_fldA rfl rfl underlying85 rfl sz3 (by decide) ((hρ 147 (lmem rfl)).trans rfl) hp78 rfl hv79⟩) rfl rfl
      (fc 149 (.int .i64 x83) (hd_v rfl fun ρ hρ => ⟨rfl, ov_ldI rfl underlying3 rfl ((hρ 148 (lmem rfl)).trans rfl) hp82 hg84⟩) rfl rfl
      (fc 150 (.int .i64 (IntKind.i64.wrap (x83 - 1))) (hd_v rfl fun ρ hρ => ⟨rfl, opv_sub rfl rfl rfl ((hρ 149 (lmem rfl)).trans rfl) rfl⟩) rfl rfl
      (fc 151 v85 (hd_v rfl fun ρ hρ => ⟨rfl, ov_cutV rfl rfl underlying62 sz26 ((hρ 145 (lmem rfl)).trans rfl) (bndN _ _ _) (bndS ((hρ 150 (lmem rfl)).trans rfl)) hq86⟩) rfl rfl
      (fc 152 (.int .u64 r61) (hd_v rfl fun ρ hρ => ⟨rfl, opv_move rfl rfl ((hρ 4 (lmem rfl)).trans rfl)⟩) rfl rfl
      ffn)))))))))))) ?_
    obtain ⟨p87, aw88, hp89, ha90, H⟩ := H
    refine lt_val (dt := some 153) (v := p87) rfl rfl (fun ρ hρ => ⟨rfl, ov_bsA (r := [.int .u64 r61]) (vs := [.int .u64 r61]) rfl rfl underlying62 sz26 z26 rfl rfl rfl rfl rfl (mp_cons ((hρ 152 (lmem rfl)).trans rfl) rfl) (.one rfl .nil) hp89 ha90⟩) ?_
    obtain ⟨hg73, H⟩ := H
    replace hg73 := hg73 _ _ hp71
    obtain ⟨hg84, H⟩ := H
    replace hg84 := hg84 _ _ hp82
    obtain ⟨hq86, H⟩ := H
    refine lt_next (l := [0, 1, 2, 3, 4, 5, 6, 7, 8, 9, 10]) (hv := []) rfl rfl (pv_nil _)
      (fc 141 m_0 (hd_v rfl fun ρ hρ => ⟨rfl, opv_move rfl rfl ((hρ 0 (lmem rfl)).trans h0)⟩) rfl rfl
      (fc 142 m_0 (hd_v rfl fun ρ hρ => ⟨rfl, opv_move rfl rfl ((hρ 0 (lmem rfl)).trans h0)⟩) rfl rfl
      (fc 143 m_0 (hd_v rfl fun ρ hρ => ⟨rfl, ov_nck rfl rfl ((hρ 142 (lmem rfl)).trans rfl) hp63⟩) rfl rfl
      (fc 144 p64 (hd_v rfl fun ρ hρ => ⟨rfl, ov_fldA rfl rfl underlying77 rfl sz62 (by decide) ((hρ 143 (lmem rfl)).trans rfl) hp67 rfl hv68⟩) rfl rfl
      (fc 145 x72 (hd_v rfl fun ρ hρ => ⟨rfl, ov_ldV rfl underlying62 rfl rfl ((hρ 144 (lmem rfl)).trans rfl) hp71 hg73⟩) rfl rfl
      (fc 146 f_2 (hd_v rfl fun ρ hρ => ⟨rfl, opv_move rfl rfl ((hρ 2 (lmem rfl)).trans h2)⟩) rfl rfl
      (fc 147 f_2 (hd_v rfl fun ρ hρ => ⟨rfl, ov_nck rfl rfl ((hρ 146 (lmem rfl)).trans rfl) hp74⟩) rfl rfl
      (fc 148 p75 (hd_v rfl fun ρ hρ => ⟨rfl, ov_fldA rfl rfl underlying85 rfl sz3 (by decide) ((hρ 147 (lmem rfl)).trans rfl) hp78 rfl hv79⟩) rfl rfl
      (fc 149 (.int .i64 x83) (hd_v rfl fun ρ hρ => ⟨rfl, ov_ldI rfl underlying3 rfl ((hρ 148 (lmem rfl)).trans rfl) hp82 hg84⟩) rfl rfl
      (fc 150 (.int .i64 (IntKind.i64.wrap (x83 - 1))) (hd_v rfl fun ρ hρ => ⟨rfl, opv_sub rfl rfl rfl ((hρ 149 (lmem rfl)).trans rfl) rfl⟩) rfl rfl
      (fc 151 v85 (hd_v rfl fun ρ hρ => ⟨rfl, ov_cutV rfl rfl underlying62 sz26 ((hρ 145 (lmem rfl)).trans rfl) (bndN _ _ _) (bndS ((hρ 150 (lmem rfl)).trans rfl)) hq86⟩) rfl rfl
      ffn))))))))))) ?_
    obtain ⟨v91, aw92, hq93, H⟩ := H
    refine lt_val (dt := some 154) (v := v91) rfl rfl (fun ρ hρ => ⟨rfl, ov_app rfl rfl rfl rfl underlying62 sz26 by26 underlying62 rfl z26 rfl (by decide) (by decide) ((hρ 151 (lmem rfl)).trans rfl) ((hρ 153 (lmem rfl)).trans rfl) hq93⟩) ?_
    obtain ⟨hp94, H⟩ := H
    obtain ⟨b96, i97, p95, hp98, hv99, H⟩ := H
    refine lt_next (l := [0, 14, 15]) (hv := [(14, m_0), (15, p95)]) rfl rfl (pv_cons rfl (pv_cons rfl (pv_nil _)))
      (fc 141 m_0 (hd_v rfl fun ρ hρ => ⟨rfl, opv_move rfl rfl ((hρ 0 (lmem rfl)).trans h0)⟩) rfl rfl
      (fc 155 m_0 (hd_v rfl fun ρ hρ => ⟨rfl, ov_nck rfl rfl ((hρ 141 (lmem rfl)).trans rfl) hp94⟩) rfl rfl
      (fc 156 p95 (hd_v rfl fun ρ hρ => ⟨rfl, ov_fldA rfl rfl underlying77 rfl sz62 (by decide) ((hρ 155 (lmem rfl)).trans rfl) hp98 rfl hv99⟩) rfl rfl
      ffn))) ?_
    obtain ⟨b101, i102, aw100, hp103, hw104, ho105, ha106, H⟩ := H
    refine lt_val (dt := none) (v := undef) rfl rfl (fun ρ hρ => ⟨rfl, ov_st rfl rfl rfl ((hρ 156 (lmem rfl)).trans rfl) ((hρ 154 (lmem rfl)).trans rfl) (cells_all ho105) sz62 hp103 hw104 ho105 ha106⟩) ?_
    refine lt_next (l := []) (hv := []) rfl rfl (pv_nil _)
      ffn ?_
    refine lt_end ?_
    refine ago_cut (fun ρ => ρ 0 = m_0 ∧ True) ⟨h0, trivial⟩ (fun ρ ⟨h0, _⟩ => ?_)
    obtain ⟨hp107, H⟩ := H
    obtain ⟨b109, i110, p108, hp111, hv112, H⟩ := H
    obtain ⟨b113, i114, x116, hp115, hg117, H⟩ := H
    obtain ⟨hp118, H⟩ := H
    obtain ⟨b120, i121, p119, hp122, hv123, H⟩ := H
    obtain ⟨b124, i125, x127, hp126, hg128, H⟩ := H
    obtain ⟨q130, l131, c132, n129, hv133, hn134, H⟩ := H
    obtain ⟨v135, hq136, H⟩ := H
    obtain ⟨hp137, H⟩ := H
    obtain ⟨b139, i140, p138, hp141, hv142, H⟩ := H
    refine ago_drawH (p := [0, 1, 2, 3, 4, 5, 6, 7, 8, 9, 10, 11, 12, 13]) (tl := [(14, [], [])]) (hv := [(0, m_0), (1, m_0), (2, m_0), (3, p108), (4, x116), (5, m_0), (6, m_0), (7, p119), (8, x127), (9, Value.int .i64 n129), (10, Value.int .i64 (IntKind.i64.wrap (n129 - 1))), (11, v135), (12, m_0), (13, p138)]) (rfl : C58_48 = .region 24 R58_24 true) mixed R58_24_N R58_24_O rfl (pv_cons rfl (pv_cons rfl (pv_cons rfl (pv_cons rfl (pv_cons rfl (pv_cons rfl (pv_cons rfl (pv_cons rfl (pv_cons rfl (pv_cons rfl (pv_cons rfl (pv_cons rfl (pv_cons rfl (pv_cons rfl (pv_nil _)))))))))))))))
      (fc 157 m_0 (hd_v rfl fun ρ hρ => ⟨rfl, opv_move rfl rfl ((hρ 0 (lmem rfl)).trans h0)⟩) rfl rfl
      (fc 158 m_0 (hd_v rfl fun ρ hρ => ⟨rfl, opv_move rfl rfl ((hρ 0 (lmem rfl)).trans h0)⟩) rfl rfl
      (fc 159 m_0 (hd_v rfl fun ρ hρ => ⟨rfl, ov_nck rfl rfl ((hρ 158 (lmem rfl)).trans rfl) hp107⟩) rfl rfl
      (fc 160 p108 (hd_v rfl fun ρ hρ => ⟨rfl, ov_fldA rfl rfl underlying77 rfl sz70 (by decide) ((hρ 159 (lmem rfl)).trans rfl) hp111 rfl hv112⟩) rfl rfl
      (fc 161 x116 (hd_v rfl fun ρ hρ => ⟨rfl, ov_ldV rfl underlying70 rfl rfl ((hρ 160 (lmem rfl)).trans rfl) hp115 hg117⟩) rfl rfl
      (fc 162 m_0 (hd_v rfl fun ρ hρ => ⟨rfl, opv_move rfl rfl ((hρ 0 (lmem rfl)).trans h0)⟩) rfl rfl
      (fc 163 m_0 (hd_v rfl fun ρ hρ => ⟨rfl, ov_nck rfl rfl ((hρ 162 (lmem rfl)).trans rfl) hp118⟩) rfl rfl
      (fc 164 p119 (hd_v rfl fun ρ hρ => ⟨rfl, ov_fldA rfl rfl underlying77 rfl sz70 (by decide) ((hρ 163 (lmem rfl)).trans rfl) hp122 rfl hv123⟩) rfl rfl
      (fc 165 x127 (hd_v rfl fun ρ hρ => ⟨rfl, ov_ldV rfl underlying70 rfl rfl ((hρ 164 (lmem rfl)).trans rfl) hp126 hg128⟩) rfl rfl
      (fc 166 (.int .i64 n129) (hd_v rfl fun ρ hρ => ⟨rfl, ov_len rfl rfl rfl underlying70 ((hρ 165 (lmem rfl)).trans rfl) hv133 hn134⟩) rfl rfl
      (fc 167 (.int .i64 (IntKind.i64.wrap (n129 - 1))) (hd_v rfl fun ρ hρ => ⟨rfl, opv_sub rfl rfl rfl ((hρ 166 (lmem rfl)).trans rfl) rfl⟩) rfl rfl
      (fc 168 v135 (hd_v rfl fun ρ hρ => ⟨rfl, ov_cutV rfl rfl underlying70 sz85 ((hρ 161 (lmem rfl)).trans rfl) (bndN _ _ _) (bndS ((hρ 167 (lmem rfl)).trans rfl)) hq136⟩) rfl rfl
      (fc 169 m_0 (hd_v rfl fun ρ hρ => ⟨rfl, ov_nck rfl rfl ((hρ 157 (lmem rfl)).trans rfl) hp137⟩) rfl rfl
      (fc 170 p138 (hd_v rfl fun ρ hρ => ⟨rfl, ov_fldA rfl rfl underlying77 rfl sz70 (by decide) ((hρ 169 (lmem rfl)).trans rfl) hp141 rfl hv142⟩) rfl rfl
      ffn)))))))))))))) ?_
    obtain ⟨b144, i145, aw143, hp146, hw147, ho148, ha149, H⟩ := H
    refine lt_val (dt := none) (v := undef) rfl rfl (fun ρ hρ => ⟨rfl, ov_st rfl rfl rfl ((hρ 170 (lmem rfl)).trans rfl) ((hρ 168 (lmem rfl)).trans rfl) (cells_all ho148) sz70 hp146 hw147 ho148 ha149⟩) ?_
    refine lt_next (l := []) (hv := []) rfl rfl (pv_nil _)
      ffn ?_
    refine lt_end ?_
    refine ago_inBlock ?_
    exact ago_nilR (r := ()) (ares_0 rfl ) rfl H
  replace H := cnd_f H hb60
  refine ago_seqE (rfl : C58_49 = .seq C58_50 C58_51) ?_
  refine ago_regE (rfl : C58_50 = .region 25 R58_25 false) (l := [0, 1]) rfl ?_
  refine lj 172 R58_25_N rfl rfl rfl (opv_eqI rfl rfl rfl h42 rfl) ?_
  refine lj 171 R58_25_N rfl rfl rfl (opv_assign rfl rfl rfl) ?_
  refine aops_nil ?_
  refine ago_condE  (rfl : C58_51 = .cond (.tmp 171) C58_52 C58_53) rfl rfl (fun hb150 => ?_) (fun hb150 => ?_)
  · exact (cnd_t H hb150).elim
  replace H := cnd_f H hb150
  refine ago_seqE (rfl : C58_53 = .seq C58_54 C58_55) ?_
  refine ago_regE (rfl : C58_54 = .region 27 R58_27 false) (l := [0, 1]) rfl ?_
  refine lj 178 R58_27_N rfl rfl rfl (opv_eqI rfl rfl rfl h42 rfl) ?_
  refine lj 177 R58_27_N rfl rfl rfl (opv_assign rfl rfl rfl) ?_
  refine aops_nil ?_
  refine ago_condE  (rfl : C58_55 = .cond (.tmp 177) C58_56 C58_57) rfl rfl (fun hb151 => ?_) (fun hb151 => ?_)
  · exact (cnd_t H hb151).elim
  replace H := cnd_f H hb151
  refine ago_seqE (rfl : C58_57 = .seq C58_58 C58_59) ?_
  refine ago_regE (rfl : C58_58 = .region 29 R58_29 false) (l := [0, 1]) rfl ?_
  refine lj 186 R58_29_N rfl rfl rfl (opv_eqI rfl rfl rfl h42 rfl) ?_
  refine lj 185 R58_29_N rfl rfl rfl (opv_assign rfl rfl rfl) ?_
  refine aops_nil ?_
  refine ago_condE  (rfl : C58_59 = .cond (.tmp 185) C58_60 C58_61) rfl rfl (fun hb152 => ?_) (fun hb152 => ?_)
  · exact (cnd_t H hb152).elim
  replace H := cnd_f H hb152
  refine ago_seqE (rfl : C58_61 = .seq C58_62 C58_63) ?_
  refine ago_cut (fun ρ => ρ 0 = m_0 ∧ ρ 2 = f_2 ∧ ρ 3 = i_3 ∧ ρ 42 = .int .u8 t_42 ∧ True) ⟨h0, h2, h3, h42, trivial⟩ (fun ρ ⟨h0, h2, h3, h42, _⟩ => ?_)
  refine ago_regE (rfl : C58_62 = .region 31 R58_31 false) (l := [0, 1]) rfl ?_
  refine lj 193 R58_31_N rfl rfl rfl (opv_eqI rfl rfl rfl h42 rfl) ?_
  refine lj 192 R58_31_N rfl rfl rfl (opv_assign rfl rfl rfl) ?_
  refine aops_nil ?_
  refine ago_condE  (rfl : C58_63 = .cond (.tmp 192) C58_64 C58_69) rfl rfl (fun hb153 => ?_) (fun hb153 => ?_)
  · exact (cnd_t H hb153).elim
  replace H := cnd_f H hb153
  refine ago_seqE (rfl : C58_69 = .seq C58_70 C58_71) ?_
  refine ago_regE (rfl : C58_70 = .region 34 R58_34 false) (l := [0, 1]) rfl ?_
  refine lj 204 R58_34_N rfl rfl rfl (opv_eqI rfl rfl rfl h42 rfl) ?_
  refine lj 203 R58_34_N rfl rfl rfl (opv_assign rfl rfl rfl) ?_
  refine aops_nil ?_
  refine ago_condE  (rfl : C58_71 = .cond (.tmp 203) C58_72 C58_75) rfl rfl (fun hb154 => ?_) (fun hb154 => ?_)
  · exact (cnd_t H hb154).elim
  replace H := cnd_f H hb154
  refine ago_seqE (rfl : C58_75 = .seq C58_76 C58_77) ?_
  refine ago_regE (rfl : C58_76 = .region 37 R58_37 false) (l := [0, 1]) rfl ?_
  refine lj 227 R58_37_N rfl rfl rfl (opv_eqI rfl rfl rfl h42 rfl) ?_
  refine lj 226 R58_37_N rfl rfl rfl (opv_assign rfl rfl rfl) ?_
  refine aops_nil ?_
  refine ago_condE  (rfl : C58_77 = .cond (.tmp 226) C58_78 C58_79) rfl rfl (fun hb155 => ?_) (fun hb155 => ?_)
  · exact (cnd_t H hb155).elim
  replace H := cnd_f H hb155
  refine ago_seqE (rfl : C58_79 = .seq C58_80 C58_81) ?_
  refine ago_regE (rfl : C58_80 = .region 39 R58_39 false) (l := [0, 1]) rfl ?_
  refine lj 231 R58_39_N rfl rfl rfl (opv_eqI rfl rfl rfl h42 rfl) ?_
  refine lj 230 R58_39_N rfl rfl rfl (opv_assign rfl rfl rfl) ?_
  refine aops_nil ?_
  refine ago_condE  (rfl : C58_81 = .cond (.tmp 230) C58_82 C58_83) rfl rfl (fun hb156 => ?_) (fun hb156 => ?_)
  · replace H := cnd_t H hb156
    refine ago_regE (rfl : C58_82 = .region 40 R58_40 false) (l := [0, 1, 2, 3]) rfl ?_
    refine lj 232 R58_40_N rfl rfl rfl (opv_move rfl rfl h0) ?_
    obtain ⟨b158, i159, p157, hp160, hv161, H⟩ := H
    refine lj 233 R58_40_N rfl rfl rfl (ov_fldA rfl rfl underlying34 rfl sz2 (by decide) h3 hp160 rfl hv161) ?_
    obtain ⟨b162, i163, x165, hp164, hg166, H⟩ := H
    refine lj 234 R58_40_N rfl rfl rfl (ov_ldI rfl underlying2 rfl rfl hp164 hg166) ?_
    refine lc 235 R58_40_N rfl rfl rfl (opc_of rfl rfl is74 (ma_cons rfl (ma_cons rfl rfl))) H (fun _ _ h => ⟨rfl, h⟩) fun r167 aw168 H => ?_
    refine aops_nil ?_
    refine ago_inBlock ?_
    exact ago_nilR (r := ()) (ares_0 rfl ) rfl H
  replace H := cnd_f H hb156
  refine ago_seqE (rfl : C58_83 = .seq C58_84 C58_85) ?_
  refine ago_regE (rfl : C58_84 = .region 41 R58_41 false) (l := [0, 1]) rfl ?_
  refine lj 237 R58_41_N rfl rfl rfl (opv_eqI rfl rfl rfl h42 rfl) ?_
  refine lj 236 R58_41_N rfl rfl rfl (opv_assign rfl rfl rfl) ?_
  refine aops_nil ?_
  refine ago_condE  (rfl : C58_85 = .cond (.tmp 236) C58_86 C58_87) rfl rfl (fun hb169 => ?_) (fun hb169 => ?_)
  · exact (cnd_t H hb169).elim
  replace H := cnd_f H hb169
  refine ago_seqE (rfl : C58_87 = .seq C58_88 C58_89) ?_
  refine ago_regE (rfl : C58_88 = .region 43 R58_43 false) (l := [0, 1]) rfl ?_
  refine lj 246 R58_43_N rfl rfl rfl (opv_eqI rfl rfl rfl h42 rfl) ?_
  refine lj 245 R58_43_N rfl rfl rfl (opv_assign rfl rfl rfl) ?_
  refine aops_nil ?_
  refine ago_condE  (rfl : C58_89 = .cond (.tmp 245) C58_90 C58_91) rfl rfl (fun hb170 => ?_) (fun hb170 => ?_)
  · exact (cnd_t H hb170).elim
  replace H := cnd_f H hb170
  refine ago_seqE (rfl : C58_91 = .seq C58_92 C58_93) ?_
  refine ago_cut (fun ρ => ρ 0 = m_0 ∧ ρ 3 = i_3 ∧ ρ 42 = .int .u8 t_42 ∧ True) ⟨h0, h3, h42, trivial⟩ (fun ρ ⟨h0, h3, h42, _⟩ => ?_)
  refine ago_regE (rfl : C58_92 = .region 45 R58_45 false) (l := [0, 1]) rfl ?_
  refine lj 250 R58_45_N rfl rfl rfl (opv_eqI rfl rfl rfl h42 rfl) ?_
  refine lj 249 R58_45_N rfl rfl rfl (opv_assign rfl rfl rfl) ?_
  refine aops_nil ?_
  refine ago_condE  (rfl : C58_93 = .cond (.tmp 249) C58_94 C58_95) rfl rfl (fun hb171 => ?_) (fun hb171 => ?_)
  · exact (cnd_t H hb171).elim
  replace H := cnd_f H hb171
  refine ago_seqE (rfl : C58_95 = .seq C58_96 C58_97) ?_
  refine ago_regE (rfl : C58_96 = .region 47 R58_47 false) (l := [0, 1]) rfl ?_
  refine lj 258 R58_47_N rfl rfl rfl (opv_eqI rfl rfl rfl h42 rfl) ?_
  refine lj 257 R58_47_N rfl rfl rfl (opv_assign rfl rfl rfl) ?_
  refine aops_nil ?_
  refine ago_condE  (rfl : C58_97 = .cond (.tmp 257) C58_98 C58_99) rfl rfl (fun hb172 => ?_) (fun hb172 => ?_)
  · exact (cnd_t H hb172).elim
  replace H := cnd_f H hb172
  refine ago_seqE (rfl : C58_99 = .seq C58_100 C58_101) ?_
  refine ago_regE (rfl : C58_100 = .region 49 R58_49 false) (l := [0, 1]) rfl ?_
  refine lj 282 R58_49_N rfl rfl rfl (opv_eqI rfl rfl rfl h42 rfl) ?_
  refine lj 281 R58_49_N rfl rfl rfl (opv_assign rfl rfl rfl) ?_
  refine aops_nil ?_
  refine ago_condE  (rfl : C58_101 = .cond (.tmp 281) C58_102 C58_103) rfl rfl (fun hb173 => ?_) (fun hb173 => ?_)
  · exact (cnd_t H hb173).elim
  replace H := cnd_f H hb173
  refine ago_seqE (rfl : C58_103 = .seq C58_104 C58_105) ?_
  refine ago_regE (rfl : C58_104 = .region 51 R58_51 false) (l := [0, 1]) rfl ?_
  refine lj 298 R58_51_N rfl rfl rfl (opv_eqI rfl rfl rfl h42 rfl) ?_
  refine lj 297 R58_51_N rfl rfl rfl (opv_assign rfl rfl rfl) ?_
  refine aops_nil ?_
  refine ago_condE  (rfl : C58_105 = .cond (.tmp 297) C58_106 C58_107) rfl rfl (fun hb174 => ?_) (fun hb174 => ?_)
  · exact (cnd_t H hb174).elim
  replace H := cnd_f H hb174
  refine ago_regE (rfl : C58_107 = .region 4 R58_4 false) (l := [0, 1, 2]) rfl ?_
  refine lj 43 R58_4_N rfl rfl rfl (opv_move rfl rfl h0) ?_
  obtain ⟨b175, i176, hp177, c178, hg182, c179, hg183, c180, hg184, c181, hg185, H⟩ := H
  refine lj 44 R58_4_N rfl rfl rfl (ov_ldN rfl underlying34 rfl sz34 rfl h3 hp177 (getN_cons hg182 (getN_cons hg183 (getN_cons hg184 (getN_cons hg185 getN_nil))))) ?_
  refine lc 45 R58_4_N rfl rfl rfl (opc_of rfl rfl is75 (ma_cons rfl (ma_cons rfl rfl))) H (fun _ _ h => ⟨rfl, h⟩) fun r186 aw187 H => ?_
  refine aops_nil ?_
  refine ago_inBlock ?_
  exact ago_nilR (r := ()) (ares_0 rfl ) rfl H
theorem S58_0_ok (Q : Unit → AW → Prop) (E : List PanicEntry → AW → Prop)  (ρ : Env) (m_0 : Value) (aw : AW) (h0 : ρ 0 = m_0) (H : S58_0 Q E  m_0 aw) :
    AGo prog 303 [.code C58_0] ρ [] aw (RR prog f58 303 sh58 Q E) := by
  unfold S58_0 at H
  refine ago_seqE (rfl : C58_0 = .seq C58_1 C58_2) ?_
  obtain ⟨hp188, H⟩ := H
  obtain ⟨b190, i191, p189, hp192, hv193, H⟩ := H
  obtain ⟨b194, i195, x197, hp196, hg198, H⟩ := H
  obtain ⟨hp199, H⟩ := H
  obtain ⟨b201, i202, p200, hp203, hv204, H⟩ := H
  obtain ⟨b205, i206, x208, hp207, hg209, H⟩ := H
  obtain ⟨q211, l212, c213, n210, hv214, hn215, H⟩ := H
  obtain ⟨b217, i218, l219, c220, p216, hp221, h0222, hj223, hv224, H⟩ := H
  refine ago_drawH (p := [0, 1, 2, 3, 4, 5, 6, 7, 8, 9, 10, 11]) (tl := []) (hv := [(0, m_0), (1, m_0), (2, p189), (3, x197), (4, m_0), (5, m_0), (6, p200), (7, x208), (8, Value.int .i64 n210), (9, Value.int .i64 (IntKind.i64.wrap (n210 - 1))), (10, p216), (11, p216)]) (rfl : C58_1 = .region 0 R58_0 true) mixed R58_0_N R58_0_O rfl (pv_cons rfl (pv_cons rfl (pv_cons rfl (pv_cons rfl (pv_cons rfl (pv_cons rfl (pv_cons rfl (pv_cons rfl (pv_cons rfl (pv_cons rfl (pv_cons rfl (pv_cons rfl (pv_nil _)))))))))))))
    (fc 6 m_0 (hd_v rfl fun ρ hρ => ⟨rfl, opv_move rfl rfl ((hρ 0 (lmem rfl)).trans h0)⟩) rfl rfl
    (fc 7 m_0 (hd_v rfl fun ρ hρ => ⟨rfl, ov_nck rfl rfl ((hρ 6 (lmem rfl)).trans rfl) hp188⟩) rfl rfl
    (fc 8 p189 (hd_v rfl fun ρ hρ => ⟨rfl, ov_fldA rfl rfl underlying77 rfl sz70 (by decide) ((hρ 7 (lmem rfl)).trans rfl) hp192 rfl hv193⟩) rfl rfl
    (fc 9 x197 (hd_v rfl fun ρ hρ => ⟨rfl, ov_ldV rfl underlying70 rfl rfl ((hρ 8 (lmem rfl)).trans rfl) hp196 hg198⟩) rfl rfl
    (fc 10 m_0 (hd_v rfl fun ρ hρ => ⟨rfl, opv_move rfl rfl ((hρ 0 (lmem rfl)).trans h0)⟩) rfl rfl
    (fc 11 m_0 (hd_v rfl fun ρ hρ => ⟨rfl, ov_nck rfl rfl ((hρ 10 (lmem rfl)).trans rfl) hp199⟩) rfl rfl
    (fc 12 p200 (hd_v rfl fun ρ hρ => ⟨rfl, ov_fldA rfl rfl underlying77 rfl sz70 (by decide) ((hρ 11 (lmem rfl)).trans rfl) hp203 rfl hv204⟩) rfl rfl
    (fc 13 x208 (hd_v rfl fun ρ hρ => ⟨rfl, ov_ldV rfl underlying70 rfl rfl ((hρ 12 (lmem rfl)).trans rfl) hp207 hg209⟩) rfl rfl
    (fc 14 (.int .i64 n210) (hd_v rfl fun ρ hρ => ⟨rfl, ov_len rfl rfl rfl underlying70 ((hρ 13 (lmem rfl)).trans rfl) hv214 hn215⟩) rfl rfl
    (fc 15 (.int .i64 (IntKind.i64.wrap (n210 - 1))) (hd_v rfl fun ρ hρ => ⟨rfl, opv_sub rfl rfl rfl ((hρ 14 (lmem rfl)).trans rfl) rfl⟩) rfl rfl
    (fc 16 p216 (hd_v rfl fun ρ hρ => ⟨rfl, ov_ixS rfl rfl rfl underlying70 sz85 ((hρ 9 (lmem rfl)).trans rfl) ((hρ 15 (lmem rfl)).trans rfl) hp221 h0222 hj223 hv224⟩) rfl rfl
    (fc 2 p216 (hd_v rfl fun ρ hρ => ⟨rfl, opv_assign rfl rfl ((hρ 16 (lmem rfl)).trans rfl)⟩) rfl rfl
    ffn)))))))))))) ?_
  refine lt_end ?_
  refine ago_seqE (rfl : C58_2 = .seq C58_3 C58_4) ?_
  refine ago_cut (fun ρ => ρ 0 = m_0 ∧ ρ 2 = p216 ∧ True) ⟨h0, rfl, trivial⟩ (fun ρ ⟨h0, h2, _⟩ => ?_)
  obtain ⟨hp225, H⟩ := H
  obtain ⟨b227, i228, p226, hp229, hv230, H⟩ := H
  obtain ⟨b231, i232, x234, hp233, hg235, H⟩ := H
  obtain ⟨hp236, H⟩ := H
  obtain ⟨b238, i239, p237, hp240, hv241, H⟩ := H
  obtain ⟨b242, i243, x245, hp244, hg246, H⟩ := H
  obtain ⟨b248, i249, l250, c251, p247, hp252, h0253, hj254, hv255, H⟩ := H
  obtain ⟨b257, i258, p256, hp259, hv260, H⟩ := H
  obtain ⟨b261, i262, x264, hp263, hg265, H⟩ := H
  obtain ⟨hp266, H⟩ := H
  obtain ⟨b268, i269, p267, hp270, hv271, H⟩ := H
  obtain ⟨b272, i273, x275, hp274, hg276, H⟩ := H
  obtain ⟨b278, i279, l280, c281, p277, hp282, h0283, hj284, hv285, H⟩ := H
  obtain ⟨b286, i287, hp288, c289, hg293, c290, hg294, c291, hg295, c292, hg296, H⟩ := H
  refine ago_drawH (p := [0, 1, 2, 3, 4, 5, 6, 7, 8, 9, 10, 11, 12, 13, 14, 15, 16]) (tl := [(17, [0, 1, 2, 3, 4, 5, 6, 7, 8, 9, 10, 11, 12, 13, 14, 15, 16], []), (18, [], [])]) (hv := [(0, m_0), (1, m_0), (2, p226), (3, x234), (4, p216), (5, p216), (6, p237), (7, Value.int .i64 x245), (8, p247), (9, p256), (10, x264), (11, p216), (12, p216), (13, p267), (14, Value.int .i64 x275), (15, p277), (16, Value.agg #[.int .u8 c289, .int .i64 c290, .int .i64 c291, .string c292])]) (rfl : C58_3 = .region 1 R58_1 true) mixed R58_1_N R58_1_O rfl (pv_cons rfl (pv_cons rfl (pv_cons rfl (pv_cons rfl (pv_cons rfl (pv_cons rfl (pv_cons rfl (pv_cons rfl (pv_cons rfl (pv_cons rfl (pv_cons rfl (pv_cons rfl (pv_cons rfl (pv_cons rfl (pv_cons rfl (pv_cons rfl (pv_cons rfl (pv_nil _))))))))))))))))))
    (fc 17 m_0 (hd_v rfl fun ρ hρ => ⟨rfl, opv_move rfl rfl ((hρ 0 (lmem rfl)).trans h0)⟩) rfl rfl
    (fc 18 m_0 (hd_v rfl fun ρ hρ => ⟨rfl, ov_nck rfl rfl ((hρ 17 (lmem rfl)).trans rfl) hp225⟩) rfl rfl
    (fc 19 p226 (hd_v rfl fun ρ hρ => ⟨rfl, ov_fldA rfl rfl underlying77 rfl sz44 (by decide) ((hρ 18 (lmem rfl)).trans rfl) hp229 rfl hv230⟩) rfl rfl
    (fc 20 x234 (hd_v rfl fun ρ hρ => ⟨rfl, ov_ldV rfl underlying44 rfl rfl ((hρ 19 (lmem rfl)).trans rfl) hp233 hg235⟩) rfl rfl
    (fc 21 p216 (hd_v rfl fun ρ hρ => ⟨rfl, opv_move rfl rfl ((hρ 2 (lmem rfl)).trans h2)⟩) rfl rfl
    (fc 22 p216 (hd_v rfl fun ρ hρ => ⟨rfl, ov_nck rfl rfl ((hρ 21 (lmem rfl)).trans rfl) hp236⟩) rfl rfl
    (fc 23 p237 (hd_v rfl fun ρ hρ => ⟨rfl, ov_fldA rfl rfl underlying85 rfl sz3 (by decide) ((hρ 22 (lmem rfl)).trans rfl) hp240 rfl hv241⟩) rfl rfl
    (fc 24 (.int .i64 x245) (hd_v rfl fun ρ hρ => ⟨rfl, ov_ldI rfl underlying3 rfl ((hρ 23 (lmem rfl)).trans rfl) hp244 hg246⟩) rfl rfl
    (fc 25 p247 (hd_v rfl fun ρ hρ => ⟨rfl, ov_ixS rfl rfl rfl underlying44 sz43 ((hρ 20 (lmem rfl)).trans rfl) ((hρ 24 (lmem rfl)).trans rfl) hp252 h0253 hj254 hv255⟩) rfl rfl
    (fc 26 p256 (hd_v rfl fun ρ hρ => ⟨rfl, ov_fldA rfl rfl underlying43 rfl sz35 (by decide) ((hρ 25 (lmem rfl)).trans rfl) hp259 rfl hv260⟩) rfl rfl
    (fc 27 x264 (hd_v rfl fun ρ hρ => ⟨rfl, ov_ldV rfl underlying35 rfl rfl ((hρ 26 (lmem rfl)).trans rfl) hp263 hg265⟩) rfl rfl
    (fc 28 p216 (hd_v rfl fun ρ hρ => ⟨rfl, opv_move rfl rfl ((hρ 2 (lmem rfl)).trans h2)⟩) rfl rfl
    (fc 29 p216 (hd_v rfl fun ρ hρ => ⟨rfl, ov_nck rfl rfl ((hρ 28 (lmem rfl)).trans rfl) hp266⟩) rfl rfl
    (fc 30 p267 (hd_v rfl fun ρ hρ => ⟨rfl, ov_fldA rfl rfl underlying85 rfl sz3 (by decide) ((hρ 29 (lmem rfl)).trans rfl) hp270 rfl hv271⟩) rfl rfl
    (fc 31 (.int .i64 x275) (hd_v rfl fun ρ hρ => ⟨rfl, ov_ldI rfl underlying3 rfl ((hρ 30 (lmem rfl)).trans rfl) hp274 hg276⟩) rfl rfl
    (fc 32 p277 (hd_v rfl fun ρ hρ => ⟨rfl, ov_ixS rfl rfl rfl underlying35 sz34 ((hρ 27 (lmem rfl)).trans rfl) ((hρ 31 (lmem rfl)).trans rfl) hp282 h0283 hj284 hv285⟩) rfl rfl
    (fc 33 (.agg #[.int .u8 c289, .int .i64 c290, .int .i64 c291, .string c292]) (hd_v rfl fun ρ hρ => ⟨rfl, ov_ldN rfl underlying34 rfl sz34 rfl ((hρ 32 (lmem rfl)).trans rfl) hp288 (getN_cons hg293 (getN_cons hg294 (getN_cons hg295 (getN_cons hg296 getN_nil))))⟩) rfl rfl
    ffn))))))))))))))))) ?_
  obtain ⟨p297, aw298, hp299, ha300, H⟩ := H
  refine lt_val (dt := some 3) (v := p297) rfl rfl (fun ρ hρ => ⟨rfl, ov_alloc rfl z34 rfl rfl hp299 ha300⟩) ?_
  obtain ⟨hg235, H⟩ := H
  replace hg235 := hg235 _ _ hp233
  obtain ⟨hg246, H⟩ := H
  replace hg246 := hg246 _ _ hp244
  obtain ⟨hg265, H⟩ := H
  replace hg265 := hg265 _ _ hp263
  obtain ⟨hg276, H⟩ := H
  replace hg276 := hg276 _ _ hp274
  obtain ⟨hg293, H⟩ := H
  obtain ⟨hg294, H⟩ := H
  obtain ⟨hg295, H⟩ := H
  obtain ⟨hg296, H⟩ := H
  refine lt_next (l := [0, 1, 2, 3, 4, 5, 6, 7, 8, 9, 10, 11, 12, 13, 14, 15, 16]) (hv := []) rfl rfl (pv_nil _)
    (fc 17 m_0 (hd_v rfl fun ρ hρ => ⟨rfl, opv_move rfl rfl ((hρ 0 (lmem rfl)).trans h0)⟩) rfl rfl
    (fc 18 m_0 (hd_v rfl fun ρ hρ => ⟨rfl, ov_nck rfl rfl ((hρ 17 (lmem rfl)).trans rfl) hp225⟩) rfl rfl
    (fc 19 p226 (hd_v rfl fun ρ hρ => ⟨rfl, ov_fldA rfl rfl underlying77 rfl sz44 (by decide) ((hρ 18 (lmem rfl)).trans rfl) hp229 rfl hv230⟩) rfl rfl
    (fc 20 x234 (hd_v rfl fun ρ hρ => ⟨rfl, ov_ldV rfl underlying44 rfl rfl ((hρ 19 (lmem rfl)).trans rfl) hp233 hg235⟩) rfl rfl
    (fc 21 p216 (hd_v rfl fun ρ hρ => ⟨rfl, opv_move rfl rfl ((hρ 2 (lmem rfl)).trans h2)⟩) rfl rfl
    (fc 22 p216 (hd_v rfl fun ρ hρ => ⟨rfl, ov_nck rfl rfl ((hρ 21 (lmem rfl)).trans rfl) hp236⟩) rfl rfl
    (fc 23 p237 (hd_v rfl fun ρ hρ => ⟨rfl, ov_fldA rfl rfl underlying85 rfl sz3 (by decide) ((hρ 22 (lmem rfl)).trans rfl) hp240 rfl hv241⟩) rfl rfl
    (fc 24 (.int .i64 x245) (hd_v rfl fun ρ hρ => ⟨rfl, ov_ldI rfl underlying3 rfl ((hρ 23 (lmem rfl)).trans rfl) hp244 hg246⟩) rfl rfl
    (fc 25 p247 (hd_v rfl fun ρ hρ => ⟨rfl, ov_ixS rfl rfl rfl underlying44 sz43 ((hρ 20 (lmem rfl)).trans rfl) ((hρ 24 (lmem rfl)).trans rfl) hp252 h0253 hj254 hv255⟩) rfl rfl
    (fc 26 p256 (hd_v rfl fun ρ hρ => ⟨rfl, ov_fldA rfl rfl underlying43 rfl sz35 (by decide) ((hρ 25 (lmem rfl)).trans rfl) hp259 rfl hv260⟩) rfl rfl
    (fc 27 x264 (hd_v rfl fun ρ hρ => ⟨rfl, ov_ldV rfl underlying35 rfl rfl ((hρ 26 (lmem rfl)).trans rfl) hp263 hg265⟩) rfl rfl
    (fc 28 p216 (hd_v rfl fun ρ hρ => ⟨rfl, opv_move rfl rfl ((hρ 2 (lmem rfl)).trans h2)⟩) rfl rfl
    (fc 29 p216 (hd_v rfl fun ρ hρ => ⟨rfl, ov_nck rfl rfl ((hρ 28 (lmem rfl)).trans rfl) hp266⟩) rfl rfl
    (fc 30 p267 (hd_v rfl fun ρ hρ => ⟨rfl, ov_fldA rfl rfl underlying85 rfl sz3 (by decide) ((hρ 29 (lmem rfl)).trans rfl) hp270 rfl hv271⟩) rfl rfl
    (fc 31 (.int .i64 x275) (hd_v rfl fun ρ hρ => ⟨rfl, ov_ldI rfl underlying3 rfl ((hρ 30 (lmem rfl)).trans rfl) hp274 hg276⟩) rfl rfl
    (fc 32 p277 (hd_v rfl fun ρ hρ => ⟨rfl, ov_ixS rfl rfl rfl underlying35 sz34 ((hρ 27 (lmem rfl)).trans rfl) ((hρ 31 (lmem rfl)).trans rfl) hp282 h0283 hj284 hv285⟩) rfl rfl
    (fc 33 (.agg #[.int .u8 c289, .int .i64 c290, .int .i64 c291, .string c292]) (hd_v rfl fun ρ hρ => ⟨rfl, ov_ldN rfl underlying34 rfl sz34 rfl ((hρ 32 (lmem rfl)).trans rfl) hp288 (getN_cons hg293 (getN_cons hg294 (getN_cons hg295 (getN_cons hg296 getN_nil))))⟩) rfl rfl
    ffn))))))))))))))))) ?_
  obtain ⟨b302, i303, aw301, hp304, hw305, ho306, ha307, H⟩ := H
  refine lt_val (dt := none) (v := undef) rfl rfl (fun ρ hρ => ⟨rfl, ov_st rfl rfl rfl ((hρ 3 (lmem rfl)).trans rfl) ((hρ 33 (lmem rfl)).trans rfl) rfl sz34 hp304 hw305 ho306 ha307⟩) ?_
  refine lt_next (l := []) (hv := []) rfl rfl (pv_nil _)
    ffn ?_
  refine lt_end ?_
  refine ago_seqE (rfl : C58_4 = .seq C58_5 C58_6) ?_
  refine ago_cut (fun ρ => ρ 0 = m_0 ∧ ρ 2 = p216 ∧ ρ 3 = p297 ∧ True) ⟨h0, h2, rfl, trivial⟩ (fun ρ ⟨h0, h2, h3, _⟩ => ?_)
  refine ago_regE (rfl : C58_5 = .region 2 R58_2 false) (l := [0, 1, 2, 3, 4, 5, 6, 7]) rfl ?_
  refine lj 34 R58_2_N rfl rfl rfl (opv_move rfl rfl h2) ?_
  obtain ⟨hp308, H⟩ := H
  refine lj 35 R58_2_N rfl rfl rfl (ov_nck rfl rfl rfl hp308) ?_
  obtain ⟨b310, i311, p309, hp312, hv313, H⟩ := H
  refine lj 36 R58_2_N rfl rfl rfl (ov_fldA rfl rfl underlying85 rfl sz3 (by decide) rfl hp312 rfl hv313) ?_
  obtain ⟨b314, i315, x317, hp316, hg318, H⟩ := H
  refine lj 37 R58_2_N rfl rfl rfl (ov_ldI rfl underlying3 rfl rfl hp316 hg318) ?_
  refine lj 38 R58_2_N rfl rfl rfl (opv_add rfl rfl rfl rfl rfl) ?_
  obtain ⟨hp319, H⟩ := H
  refine lj 39 R58_2_N rfl rfl rfl (ov_nck rfl rfl rfl hp319) ?_
  obtain ⟨b321, i322, p320, hp323, hv324, H⟩ := H
  refine lj 40 R58_2_N rfl rfl rfl (ov_fldA rfl rfl underlying85 rfl sz3 (by decide) rfl hp323 rfl hv324) ?_
  obtain ⟨b326, i327, aw325, hp328, hw329, ho330, ha331, H⟩ := H
  refine lk (dt := none) R58_2_N rfl rfl rfl (ov_st rfl rfl rfl rfl rfl rfl sz3 hp328 hw329 ho330 ha331) ?_
  refine aops_nil ?_
  refine ago_seqE (rfl : C58_6 = .seq C58_7 C58_8) ?_
  refine ago_regE (rfl : C58_7 = .region 3 R58_3 false) (l := [0, 1]) rfl ?_
  obtain ⟨b333, i334, p332, hp335, hv336, H⟩ := H
  refine lj 41 R58_3_N rfl rfl rfl (ov_fldA rfl rfl underlying34 rfl sz5 (by decide) h3 hp335 rfl hv336) ?_
  obtain ⟨b337, i338, x340, hp339, hg341, H⟩ := H
  refine lj 42 R58_3_N rfl rfl rfl (ov_ldI rfl underlying5 rfl rfl hp339 hg341) ?_
  refine aops_nil ?_
  exact S58_1_ok Q E  _ m_0 p216 p297 x340 aw325 h0 h2 h3 rfl H
theorem F58_ok {Q : Unit → AW → Prop} {E : List PanicEntry → AW → Prop} (m_0 : Value) (aw : AW) (H : S58_0 Q E m_0 aw) : CallP prog 58 [m_0] aw sh58 Q E :=
  callP_of func58 C58_is rfl (Nat.le_of_ble_eq_true rfl) (S58_0_ok Q E _ m_0 aw rfl H)
def C67_0 := bodyOf f67
theorem C67_is : f67.body = some C67_0 := by kernel_rfl
def C67_1 := cl C67_0
def R67_0 := regOps C67_1
def C67_2 := cr C67_0
def C67_3 := cl C67_2
def C67_4 := cl C67_3
def R67_1 := regOps C67_4
def C67_5 := cr C67_3
def C67_6 := cl C67_5
def C67_7 := cr C67_5
def C67_8 := cr C67_2
def C67_9 := cl C67_8
def R67_3 := regOps C67_9
def C67_10 := cr C67_8
theorem R67_0_N : dstsOk 38 R67_0 = true := by decide +kernel
theorem R67_1_N : dstsOk 38 R67_1 = true := by decide +kernel
theorem R67_1_O : linOk R67_1 [0, 1, 2, 3, 4, 6, 7, 8, 9] [(5, [0, 6, 7, 8, 9], []), (10, [0], [11, 12])] = true := by decide +kernel
theorem R67_3_N : dstsOk 38 R67_3 = true := by decide +kernel
theorem R67_3_O : linOk R67_3 [0, 1, 2, 3, 4, 6, 7, 8, 9] [(5, [0, 6, 7, 8, 9], []), (10, [0], [11, 12, 13])] = true := by decide +kernel
def S67_1 (Q : Bool → AW → Prop) (E : List PanicEntry → AW → Prop)  (m_0 : Value) (n_1 : Int) (aw : AW) : Prop :=
  nck m_0 (fldA m_0 0 fun p2 =>
  ldV aw p2 fun x10 =>
  nck m_0 (fldA m_0 0 fun p13 =>
  ldV aw p13 fun x21 =>
  CallP prog 79 [x10] aw sh79 (fun r23 aw24 =>
  again1 aw24 p13 (x21) ∧ CallP prog 23 [x21] aw24 sh23 (fun r25 aw26 =>
  Q (decide (n_1 ≤ (IntKind.i64.wrap (r23 - r25)))) aw26) E) E))
def S67_0 (Q : Bool → AW → Prop) (E : List PanicEntry → AW → Prop)  (m_0 : Value) (n_1 : Int) (aw : AW) : Prop :=
  nck m_0 (fldA m_0 0 fun p28 =>
  ldV aw p28 fun x36 =>
  nck m_0 (fldA m_0 0 fun p39 =>
  ldV aw p39 fun x47 =>
  CallP prog 79 [x36] aw sh79 (fun r49 aw50 =>
  again1 aw50 p39 (x47) ∧ CallP prog 23 [x47] aw50 sh23 (fun r51 aw52 =>
  cnd (decide ((IntKind.i64.wrap (r49 - r51)) < n_1)) (False) (S67_1 Q E  m_0 n_1 aw52)) E) E))
theorem S67_1_ok (Q : Bool → AW → Prop) (E : List PanicEntry → AW → Prop)  (ρ : Env) (m_0 : Value) (n_1 : Int) (aw : AW) (h0 : ρ 0 = m_0) (h1 : ρ 1 = .int .i64 n_1) (H : S67_1 Q E  m_0 n_1 aw) :
    AGo prog 38 [.code C67_8] ρ [] aw (RR prog f67 38 sh67 Q E) := by
  unfold S67_1 at H
  refine ago_seqE (rfl : C67_8 = .seq C67_9 C67_10) ?_
  obtain ⟨hp1, H⟩ := H
  obtain ⟨b3, i4, p2, hp5, hv6, H⟩ := H
  obtain ⟨b7, i8, x10, hp9, hg11, H⟩ := H
  obtain ⟨hp12, H⟩ := H
  obtain ⟨b14, i15, p13, hp16, hv17, H⟩ := H
  obtain ⟨b18, i19, x21, hp20, hg22, H⟩ := H
  refine ago_drawH (p := [0, 1, 2, 3, 4, 6, 7, 8, 9]) (tl := [(5, [0, 6, 7, 8, 9], []), (10, [0], [11, 12, 13])]) (hv := [(0, Value.int .i64 n_1), (1, m_0), (2, m_0), (3, p2), (4, x10), (6, m_0), (7, m_0), (8, p13), (9, x21)]) (rfl : C67_9 = .region 3 R67_3 true) mixed R67_3_N R67_3_O rfl (pv_cons rfl (pv_cons rfl (pv_cons rfl (pv_cons rfl (pv_cons rfl (pv_cons rfl (pv_cons rfl (pv_cons rfl (pv_cons rfl (pv_nil _))))))))))
    (fc 25 (.int .i64 n_1) (hd_v rfl fun ρ hρ => ⟨rfl, opv_move rfl rfl ((hρ 1 (lmem rfl)).trans h1)⟩) rfl rfl
    (fc 26 m_0 (hd_v rfl fun ρ hρ => ⟨rfl, opv_move rfl rfl ((hρ 0 (lmem rfl)).trans h0)⟩) rfl rfl
    (fc 27 m_0 (hd_v rfl fun ρ hρ => ⟨rfl, ov_nck rfl rfl ((hρ 26 (lmem rfl)).trans rfl) hp1⟩) rfl rfl
    (fc 28 p2 (hd_v rfl fun ρ hρ => ⟨rfl, ov_fldA rfl rfl underlying77 rfl sz50 (by decide) ((hρ 27 (lmem rfl)).trans rfl) hp5 rfl hv6⟩) rfl rfl
    (fc 29 x10 (hd_v rfl fun ρ hρ => ⟨rfl, ov_ldV rfl underlying50 rfl rfl ((hρ 28 (lmem rfl)).trans rfl) hp9 hg11⟩) rfl rfl
    (fc 31 m_0 (hd_v rfl fun ρ hρ => ⟨rfl, opv_move rfl rfl ((hρ 0 (lmem rfl)).trans h0)⟩) rfl rfl
    (fc 32 m_0 (hd_v rfl fun ρ hρ => ⟨rfl, ov_nck rfl rfl ((hρ 31 (lmem rfl)).trans rfl) hp12⟩) rfl rfl
    (fc 33 p13 (hd_v rfl fun ρ hρ => ⟨rfl, ov_fldA rfl rfl underlying77 rfl sz50 (by decide) ((hρ 32 (lmem rfl)).trans rfl) hp16 rfl hv17⟩) rfl rfl
    (fc 34 x21 (hd_v rfl fun ρ hρ => ⟨rfl, ov_ldV rfl underlying50 rfl rfl ((hρ 33 (lmem rfl)).trans rfl) hp20 hg22⟩) rfl rfl
    ffn))))))))) ?_
  refine lt_call (dt := some 30) rfl rfl (fun ρ hρ => ⟨rfl, opc_of rfl rfl is79 (ma_cons ((hρ 29 (lmem rfl)).trans rfl) rfl)⟩) H (fun _ _ h _ => ⟨rfl, h⟩) fun r23 aw24 H => ?_
  obtain ⟨hg22, H⟩ := H
  replace hg22 := hg22 _ _ hp20
  refine lt_next (l := [0, 6, 7, 8, 9]) (hv := []) rfl rfl (pv_nil _)
    (fc 25 (.int .i64 n_1) (hd_v rfl fun ρ hρ => ⟨rfl, opv_move rfl rfl ((hρ 1 (lmem rfl)).trans h1)⟩) rfl rfl
    (fc 31 m_0 (hd_v rfl fun ρ hρ => ⟨rfl, opv_move rfl rfl ((hρ 0 (lmem rfl)).trans h0)⟩) rfl rfl
    (fc 32 m_0 (hd_v rfl fun ρ hρ => ⟨rfl, ov_nck rfl rfl ((hρ 31 (lmem rfl)).trans rfl) hp12⟩) rfl rfl
    (fc 33 p13 (hd_v rfl fun ρ hρ => ⟨rfl, ov_fldA rfl rfl underlying77 rfl sz50 (by decide) ((hρ 32 (lmem rfl)).trans rfl) hp16 rfl hv17⟩) rfl rfl
    (fc 34 x21 (hd_v rfl fun ρ hρ => ⟨rfl, ov_ldV rfl underlying50 rfl rfl ((hρ 33 (lmem rfl)).trans rfl) hp20 hg22⟩) rfl rfl
    ffn))))) ?_
  refine lt_call (dt := some 35) rfl rfl (fun ρ hρ => ⟨rfl, opc_of rfl rfl is23 (ma_cons ((hρ 34 (lmem rfl)).trans rfl) rfl)⟩) H (fun _ _ h _ => ⟨rfl, h⟩) fun r25 aw26 H => ?_
  refine lt_next (l := [0, 11, 12, 13]) (hv := [(11, Value.int .i64 (IntKind.i64.wrap (r23 - r25))), (12, Value.bool (decide (n_1 ≤ (IntKind.i64.wrap (r23 - r25))))), (13, Value.bool (decide (n_1 ≤ (IntKind.i64.wrap (r23 - r25)))))]) rfl rfl (pv_cons rfl (pv_cons rfl (pv_cons rfl (pv_nil _))))
    (fc 25 (.int .i64 n_1) (hd_v rfl fun ρ hρ => ⟨rfl, opv_move rfl rfl ((hρ 1 (lmem rfl)).trans h1)⟩) rfl rfl
    (fc 36 (.int .i64 (IntKind.i64.wrap (r23 - r25))) (hd_v rfl fun ρ hρ => ⟨rfl, opv_sub rfl rfl rfl ((hρ 30 (lmem rfl)).trans rfl) ((hρ 35 (lmem rfl)).trans rfl)⟩) rfl rfl
    (fc 37 (.bool (decide (n_1 ≤ (IntKind.i64.wrap (r23 - r25))))) (hd_v rfl fun ρ hρ => ⟨rfl, opv_le rfl rfl rfl ((hρ 25 (lmem rfl)).trans rfl) ((hρ 36 (lmem rfl)).trans rfl)⟩) rfl rfl
    (fc 4 (.bool (decide (n_1 ≤ (IntKind.i64.wrap (r23 - r25))))) (hd_v rfl fun ρ hρ => ⟨rfl, opv_assign rfl rfl ((hρ 37 (lmem rfl)).trans rfl)⟩) rfl rfl
    ffn)))) ?_
  refine lt_end ?_
  exact ago_retE (rfl : C67_10 = .ret) (r := (decide (n_1 ≤ (IntKind.i64.wrap (r23 - r25))))) (ares_1 rfl (oneT rfl)) rfl H
theorem S67_0_ok (Q : Bool → AW → Prop) (E : List PanicEntry → AW → Prop)  (ρ : Env) (m_0 : Value) (n_1 : Int) (aw : AW) (h0 : ρ 0 = m_0) (h1 : ρ 1 = .int .i64 n_1) (H : S67_0 Q E  m_0 n_1 aw) :
    AGo prog 38 [.code C67_0] ρ [] aw (RR prog f67 38 sh67 Q E) := by
  unfold S67_0 at H
  refine ago_seqE (rfl : C67_0 = .seq C67_1 C67_2) ?_
  refine ago_regE (rfl : C67_1 = .region 0 R67_0 false) (l := [0]) rfl ?_
  refine lj 4 R67_0_N rfl rfl rfl (opv_assign rfl rfl rfl) ?_
  refine aops_nil ?_
  refine ago_seqE (rfl : C67_2 = .seq C67_3 C67_8) ?_
  refine ago_seqE (rfl : C67_3 = .seq C67_4 C67_5) ?_
  obtain ⟨hp27, H⟩ := H
  obtain ⟨b29, i30, p28, hp31, hv32, H⟩ := H
  obtain ⟨b33, i34, x36, hp35, hg37, H⟩ := H
  obtain ⟨hp38, H⟩ := H
  obtain ⟨b40, i41, p39, hp42, hv43, H⟩ := H
  obtain ⟨b44, i45, x47, hp46, hg48, H⟩ := H
  refine ago_drawH (p := [0, 1, 2, 3, 4, 6, 7, 8, 9]) (tl := [(5, [0, 6, 7, 8, 9], []), (10, [0], [11, 12])]) (hv := [(0, Value.int .i64 n_1), (1, m_0), (2, m_0), (3, p28), (4, x36), (6, m_0), (7, m_0), (8, p39), (9, x47)]) (rfl : C67_4 = .region 1 R67_1 true) mixed R67_1_N R67_1_O rfl (pv_cons rfl (pv_cons rfl (pv_cons rfl (pv_cons rfl (pv_cons rfl (pv_cons rfl (pv_cons rfl (pv_cons rfl (pv_cons rfl (pv_nil _))))))))))
    (fc 5 (.int .i64 n_1) (hd_v rfl fun ρ hρ => ⟨rfl, opv_move rfl rfl ((hρ 1 (lmem rfl)).trans h1)⟩) rfl rfl
    (fc 6 m_0 (hd_v rfl fun ρ hρ => ⟨rfl, opv_move rfl rfl ((hρ 0 (lmem rfl)).trans h0)⟩) rfl rfl
    (fc 7 m_0 (hd_v rfl fun ρ hρ => ⟨rfl, ov_nck rfl rfl ((hρ 6 (lmem rfl)).trans rfl) hp27⟩) rfl rfl
    (fc 8 p28 (hd_v rfl fun ρ hρ => ⟨rfl, ov_fldA rfl rfl underlying77 rfl sz50 (by decide) ((hρ 7 (lmem rfl)).trans rfl) hp31 rfl hv32⟩) rfl rfl
    (fc 9 x36 (hd_v rfl fun ρ hρ => ⟨rfl, ov_ldV rfl underlying50 rfl rfl ((hρ 8 (lmem rfl)).trans rfl) hp35 hg37⟩) rfl rfl
    (fc 11 m_0 (hd_v rfl fun ρ hρ => ⟨rfl, opv_move rfl rfl ((hρ 0 (lmem rfl)).trans h0)⟩) rfl rfl
    (fc 12 m_0 (hd_v rfl fun ρ hρ => ⟨rfl, ov_nck rfl rfl ((hρ 11 (lmem rfl)).trans rfl) hp38⟩) rfl rfl
    (fc 13 p39 (hd_v rfl fun ρ hρ => ⟨rfl, ov_fldA rfl rfl underlying77 rfl sz50 (by decide) ((hρ 12 (lmem rfl)).trans rfl) hp42 rfl hv43⟩) rfl rfl
    (fc 14 x47 (hd_v rfl fun ρ hρ => ⟨rfl, ov_ldV rfl underlying50 rfl rfl ((hρ 13 (lmem rfl)).trans rfl) hp46 hg48⟩) rfl rfl
    ffn))))))))) ?_
  refine lt_call (dt := some 10) rfl rfl (fun ρ hρ => ⟨rfl, opc_of rfl rfl is79 (ma_cons ((hρ 9 (lmem rfl)).trans rfl) rfl)⟩) H (fun _ _ h _ => ⟨rfl, h⟩) fun r49 aw50 H => ?_
  obtain ⟨hg48, H⟩ := H
  replace hg48 := hg48 _ _ hp46
  refine lt_next (l := [0, 6, 7, 8, 9]) (hv := []) rfl rfl (pv_nil _)
    (fc 5 (.int .i64 n_1) (hd_v rfl fun ρ hρ => ⟨rfl, opv_move rfl rfl ((hρ 1 (lmem rfl)).trans h1)⟩) rfl rfl
    (fc 11 m_0 (hd_v rfl fun ρ hρ => ⟨rfl, opv_move rfl rfl ((hρ 0 (lmem rfl)).trans h0)⟩) rfl rfl
    (fc 12 m_0 (hd_v rfl fun ρ hρ => ⟨rfl, ov_nck rfl rfl ((hρ 11 (lmem rfl)).trans rfl) hp38⟩) rfl rfl
    (fc 13 p39 (hd_v rfl fun ρ hρ => ⟨rfl, ov_fldA rfl rfl underlying77 rfl sz50 (by decide) ((hρ 12 (lmem rfl)).trans rfl) hp42 rfl hv43⟩) rfl rfl
    (fc 14 x47 (hd_v rfl fun ρ hρ => ⟨rfl, ov_ldV rfl underlying50 rfl rfl ((hρ 13 (lmem rfl)).trans rfl) hp46 hg48⟩) rfl rfl
    ffn))))) ?_
  refine lt_call (dt := some 15) rfl rfl (fun ρ hρ => ⟨rfl, opc_of rfl rfl is23 (ma_cons ((hρ 14 (lmem rfl)).trans rfl) rfl)⟩) H (fun _ _ h _ => ⟨rfl, h⟩) fun r51 aw52 H => ?_
  refine lt_next (l := [0, 11, 12]) (hv := [(11, Value.int .i64 (IntKind.i64.wrap (r49 - r51))), (12, Value.bool (decide ((IntKind.i64.wrap (r49 - r51)) < n_1)))]) rfl rfl (pv_cons rfl (pv_cons rfl (pv_nil _)))
    (fc 5 (.int .i64 n_1) (hd_v rfl fun ρ hρ => ⟨rfl, opv_move rfl rfl ((hρ 1 (lmem rfl)).trans h1)⟩) rfl rfl
    (fc 16 (.int .i64 (IntKind.i64.wrap (r49 - r51))) (hd_v rfl fun ρ hρ => ⟨rfl, opv_sub rfl rfl rfl ((hρ 10 (lmem rfl)).trans rfl) ((hρ 15 (lmem rfl)).trans rfl)⟩) rfl rfl
    (fc 17 (.bool (decide ((IntKind.i64.wrap (r49 - r51)) < n_1))) (hd_v rfl fun ρ hρ => ⟨rfl, opv_gt rfl rfl rfl ((hρ 5 (lmem rfl)).trans rfl) ((hρ 16 (lmem rfl)).trans rfl)⟩) rfl rfl
    ffn))) ?_
  refine lt_end ?_
  refine ago_condE  (rfl : C67_5 = .cond (.tmp 17) C67_6 C67_7) rfl rfl (fun hb53 => ?_) (fun hb53 => ?_)
  · exact (cnd_t H hb53).elim
  replace H := cnd_f H hb53
  refine ago_skipE (rfl : C67_7 = .skip) ?_
  exact S67_1_ok Q E  _ m_0 n_1 aw52 h0 h1 H
theorem F67_ok {Q : Bool → AW → Prop} {E : List PanicEntry → AW → Prop} (m_0 : Value) (n_1 : Int) (aw : AW) (H : S67_0 Q E m_0 n_1 aw) : CallP prog 67 [m_0, .int .i64 n_1] aw sh67 Q E :=
  callP_of func67 C67_is rfl (Nat.le_of_ble_eq_true rfl) (S67_0_ok Q E _ m_0 n_1 aw rfl rfl H)
def C69_0 := bodyOf f69
theorem C69_is : f69.body = some C69_0 := by kernel_rfl
def C69_1 := cl C69_0
def C69_2 := cl C69_1
def R69_0 := regOps C69_2
def C69_3 := cr C69_1
def C69_4 := cl C69_3
def C69_5 := cr C69_3
def C69_6 := cr C69_0
def C69_7 := cl C69_6
def C69_8 := cl C69_7
def R69_2 := regOps C69_8
def C69_9 := cr C69_7
def C69_10 := cl C69_9
def C69_11 := cr C69_9
def C69_12 := cr C69_6
def C69_13 := cl C69_12
def R69_4 := regOps C69_13
def C69_14 := cr C69_12
def R69_5 := regOps C69_14
theorem R69_0_N : dstsOk 31 R69_0 = true := by decide +kernel
theorem R69_2_N : dstsOk 31 R69_2 = true := by decide +kernel
theorem R69_4_N : dstsOk 31 R69_4 = true := by decide +kernel
theorem R69_5_N : dstsOk 31 R69_5 = true := by decide +kernel
def S69_0 (Q : Unit → AW → Prop) (E : List PanicEntry → AW → Prop)  (m_0 : Value) (s_1 : ByteArray) (aw : AW) : Prop :=
  cnd (decide (4096 < (s_1.size : Int))) (False) (CallP prog 53 [.int .u8 3, .int .i64 (s_1.size : Int)] aw sh53 (fun r2 aw3 =>
  CallP prog 67 [m_0, .int .i64 r2] aw3 sh67 (fun r4 aw5 =>
  cnd (!r4) (False) (nck m_0 (fldA m_0 0 fun p8 =>
  ldV aw5 p8 fun x16 =>
  CallP prog 68 [x16, .string s_1, (.slice none 0 0)] aw5 sh68 (fun r18 aw19 =>
  CallP prog 34 [m_0, .int .u64 r18.1] aw19 sh34 (fun r20 aw21 =>
  Q () aw21) E) E))) E) E)
theorem S69_0_ok (Q : Unit → AW → Prop) (E : List PanicEntry → AW → Prop)  (ρ : Env) (m_0 : Value) (s_1 : ByteArray) (aw : AW) (h0 : ρ 0 = m_0) (h1 : ρ 1 = .string s_1) (H : S69_0 Q E  m_0 s_1 aw) :
    AGo prog 31 [.code C69_0] ρ [] aw (RR prog f69 31 sh69 Q E) := by
  unfold S69_0 at H
  refine ago_seqE (rfl : C69_0 = .seq C69_1 C69_6) ?_
  refine ago_seqE (rfl : C69_1 = .seq C69_2 C69_3) ?_
  refine ago_regE (rfl : C69_2 = .region 0 R69_0 false) (l := [0, 1, 2]) rfl ?_
  refine lj 6 R69_0_N rfl rfl rfl (opv_move rfl rfl h1) ?_
  refine lj 7 R69_0_N rfl rfl rfl (opv_lenS rfl rfl rfl underlying9 rfl) ?_
  refine lj 8 R69_0_N rfl rfl rfl (opv_gt rfl rfl rfl rfl rfl) ?_
  refine aops_nil ?_
  refine ago_condE  (rfl : C69_3 = .cond (.tmp 8) C69_4 C69_5) rfl rfl (fun hb1 => ?_) (fun hb1 => ?_)
  · exact (cnd_t H hb1).elim
  replace H := cnd_f H hb1
  refine ago_skipE (rfl : C69_5 = .skip) ?_
  refine ago_seqE (rfl : C69_6 = .seq C69_7 C69_12) ?_
  refine ago_seqE (rfl : C69_7 = .seq C69_8 C69_9) ?_
  refine ago_regE (rfl : C69_8 = .region 2 R69_2 false) (l := [0, 1, 2, 3, 4, 5]) rfl ?_
  refine lj 11 R69_2_N rfl rfl rfl (opv_move rfl rfl h0) ?_
  refine lj 12 R69_2_N rfl rfl rfl (opv_move rfl rfl h1) ?_
  refine lj 13 R69_2_N rfl rfl rfl (opv_lenS rfl rfl rfl underlying9 rfl) ?_
  refine lc 14 R69_2_N rfl rfl rfl (opc_of rfl rfl is53 (ma_cons rfl (ma_cons rfl rfl))) H (fun _ _ h => ⟨rfl, h⟩) fun r2 aw3 H => ?_
  refine lc 15 R69_2_N rfl rfl rfl (opc_of rfl rfl is67 (ma_cons rfl (ma_cons rfl rfl))) H (fun _ _ h => ⟨rfl, h⟩) fun r4 aw5 H => ?_
  refine lj 16 R69_2_N rfl rfl rfl (opv_not rfl rfl rfl) ?_
  refine aops_nil ?_
  refine ago_condE  (rfl : C69_9 = .cond (.tmp 16) C69_10 C69_11) rfl rfl (fun hb6 => ?_) (fun hb6 => ?_)
  · exact (cnd_t H hb6).elim
  replace H := cnd_f H hb6
  refine ago_skipE (rfl : C69_11 = .skip) ?_
  refine ago_seqE (rfl : C69_12 = .seq C69_13 C69_14) ?_
  refine ago_regE (rfl : C69_13 = .region 4 R69_4 false) (l := [0, 1, 2, 3, 4, 5, 6, 7, 8, 9, 10]) rfl ?_
  refine lj 20 R69_4_N rfl rfl rfl (opv_move rfl rfl h0) ?_
  obtain ⟨hp7, H⟩ := H
  refine lj 21 R69_4_N rfl rfl rfl (ov_nck rfl rfl rfl hp7) ?_
  obtain ⟨b9, i10, p8, hp11, hv12, H⟩ := H
  refine lj 22 R69_4_N rfl rfl rfl (ov_fldA rfl rfl underlying77 rfl sz50 (by decide) rfl hp11 rfl hv12) ?_
  obtain ⟨b13, i14, x16, hp15, hg17, H⟩ := H
  refine lj 23 R69_4_N rfl rfl rfl (ov_ldV rfl underlying50 rfl rfl rfl hp15 hg17) ?_
  refine lj 24 R69_4_N rfl rfl rfl (opv_move rfl rfl h1) ?_
  refine lc 25 R69_4_N rfl rfl rfl (opc_of rfl rfl is68 (ma_cons rfl (ma_cons rfl (ma_cons rfl rfl)))) H (fun _ _ h => ⟨rfl, h⟩) fun r18 aw19 H => ?_
  refine lj 19 R69_4_N rfl rfl rfl (opv_move rfl rfl rfl) ?_
  refine lj 26 R69_4_N rfl rfl rfl (opv_extract rfl rfl rfl rfl) ?_
  refine lj 27 R69_4_N rfl rfl rfl (opv_extract rfl rfl rfl rfl) ?_
  refine lj 4 R69_4_N rfl rfl rfl (opv_assign rfl rfl rfl) ?_
  refine lj 5 R69_4_N rfl rfl rfl (opv_assign rfl rfl rfl) ?_
  refine aops_nil ?_
  refine ago_cut (fun ρ => ρ 0 = m_0 ∧ ρ 4 = .int .u64 r18.1 ∧ True) ⟨h0, rfl, trivial⟩ (fun ρ ⟨h0, h4, _⟩ => ?_)
  refine ago_regE (rfl : C69_14 = .region 5 R69_5 false) (l := [0, 1, 2]) rfl ?_
  refine lj 28 R69_5_N rfl rfl rfl (opv_move rfl rfl h0) ?_
  refine lj 29 R69_5_N rfl rfl rfl (opv_move rfl rfl h4) ?_
  refine lc 30 R69_5_N rfl rfl rfl (opc_of rfl rfl is34 (ma_cons rfl (ma_cons rfl rfl))) H (fun _ _ h => ⟨rfl, h⟩) fun r20 aw21 H => ?_
  refine aops_nil ?_
  exact ago_nilR (r := ()) (ares_0 rfl ) rfl H
theorem F69_ok {Q : Unit → AW → Prop} {E : List PanicEntry → AW → Prop} (m_0 : Value) (s_1 : ByteArray) (aw : AW) (H : S69_0 Q E m_0 s_1 aw) : CallP prog 69 [m_0, .string s_1] aw sh69 Q E :=
  callP_of func69 C69_is rfl (Nat.le_of_ble_eq_true rfl) (S69_0_ok Q E _ m_0 s_1 aw rfl rfl H)
def C70_0 := bodyOf f70
theorem C70_is : f70.body = some C70_0 := by kernel_rfl
def C70_1 := cl C70_0
def R70_0 := regOps C70_1
def C70_2 := cr C70_0
def C70_3 := cl C70_2
def R70_1 := regOps C70_3
def C70_4 := cr C70_2
def C70_5 := cl C70_4
def C70_6 := cl C70_5
def R70_2 := regOps C70_6
def C70_7 := cr C70_5
def C70_8 := cl C70_7
def C70_9 := cr C70_7
def C70_10 := cr C70_4
def C70_11 := cl C70_10
def R70_4 := regOps C70_11
def C70_12 := cr C70_10
theorem R70_0_N : dstsOk 24 R70_0 = true := by decide +kernel
theorem R70_1_N : dstsOk 24 R70_1 = true := by decide +kernel
theorem R70_2_N : dstsOk 24 R70_2 = true := by decide +kernel
theorem R70_4_N : dstsOk 24 R70_4 = true := by decide +kernel
def S70_0 (Q : Int → AW → Prop) (E : List PanicEntry → AW → Prop)  (m_0 : Value) (w_1 : Int) (i_2 : Int) (aw : AW) : Prop :=
  nck m_0 (fldA m_0 0 fun p2 =>
  ldV aw p2 fun x10 =>
  CallP prog 80 [x10, .int .u64 w_1, .int .i64 i_2] aw sh80 (fun r12 aw13 =>
  cnd (!decide (r12.2 = 0)) (False) (Q r12.1 aw13)) E)
theorem S70_0_ok (Q : Int → AW → Prop) (E : List PanicEntry → AW → Prop)  (ρ : Env) (m_0 : Value) (w_1 : Int) (i_2 : Int) (aw : AW) (h0 : ρ 0 = m_0) (h1 : ρ 1 = .int .u64 w_1) (h2 : ρ 2 = .int .i64 i_2) (H : S70_0 Q E  m_0 w_1 i_2 aw) :
    AGo prog 24 [.code C70_0] ρ [] aw (RR prog f70 24 sh70 Q E) := by
  unfold S70_0 at H
  refine ago_seqE (rfl : C70_0 = .seq C70_1 C70_2) ?_
  refine ago_regE (rfl : C70_1 = .region 0 R70_0 false) (l := [0]) rfl ?_
  refine lj 6 R70_0_N rfl rfl rfl (opv_assign rfl rfl rfl) ?_
  refine aops_nil ?_
  refine ago_seqE (rfl : C70_2 = .seq C70_3 C70_4) ?_
  refine ago_regE (rfl : C70_3 = .region 1 R70_1 false) (l := [0, 1, 2, 3, 4, 5, 6, 7, 8, 9, 10, 11]) rfl ?_
  refine lj 10 R70_1_N rfl rfl rfl (opv_move rfl rfl h0) ?_
  obtain ⟨hp1, H⟩ := H
  refine lj 11 R70_1_N rfl rfl rfl (ov_nck rfl rfl rfl hp1) ?_
  obtain ⟨b3, i4, p2, hp5, hv6, H⟩ := H
  refine lj 12 R70_1_N rfl rfl rfl (ov_fldA rfl rfl underlying77 rfl sz50 (by decide) rfl hp5 rfl hv6) ?_
  obtain ⟨b7, i8, x10, hp9, hg11, H⟩ := H
  refine lj 13 R70_1_N rfl rfl rfl (ov_ldV rfl underlying50 rfl rfl rfl hp9 hg11) ?_
  refine lj 14 R70_1_N rfl rfl rfl (opv_move rfl rfl h1) ?_
  refine lj 15 R70_1_N rfl rfl rfl (opv_move rfl rfl h2) ?_
  refine lc 16 R70_1_N rfl rfl rfl (opc_of rfl rfl is80 (ma_cons rfl (ma_cons rfl (ma_cons rfl rfl)))) H (fun _ _ h => ⟨rfl, h⟩) fun r12 aw13 H => ?_
  refine lj 9 R70_1_N rfl rfl rfl (opv_move rfl rfl rfl) ?_
  refine lj 17 R70_1_N rfl rfl rfl (opv_extract rfl rfl rfl rfl) ?_
  refine lj 18 R70_1_N rfl rfl rfl (opv_extract rfl rfl rfl rfl) ?_
  refine lj 7 R70_1_N rfl rfl rfl (opv_assign rfl rfl rfl) ?_
  refine lj 8 R70_1_N rfl rfl rfl (opv_assign rfl rfl rfl) ?_
  refine aops_nil ?_
  refine ago_seqE (rfl : C70_4 = .seq C70_5 C70_10) ?_
  refine ago_seqE (rfl : C70_5 = .seq C70_6 C70_7) ?_
  refine ago_cut (fun ρ => ρ 7 = .int .u64 r12.1 ∧ ρ 8 = .int .i64 r12.2 ∧ True) ⟨rfl, rfl, trivial⟩ (fun ρ ⟨h7, h8, _⟩ => ?_)
  refine ago_regE (rfl : C70_6 = .region 2 R70_2 false) (l := [0, 1]) rfl ?_
  refine lj 19 R70_2_N rfl rfl rfl (opv_move rfl rfl h8) ?_
  refine lj 20 R70_2_N rfl rfl rfl (opv_neI rfl rfl rfl rfl rfl) ?_
  refine aops_nil ?_
  refine ago_condE  (rfl : C70_7 = .cond (.tmp 20) C70_8 C70_9) rfl rfl (fun hb14 => ?_) (fun hb14 => ?_)
  · exact (cnd_t H hb14).elim
  replace H := cnd_f H hb14
  refine ago_skipE (rfl : C70_9 = .skip) ?_
  refine ago_seqE (rfl : C70_10 = .seq C70_11 C70_12) ?_
  refine ago_regE (rfl : C70_11 = .region 4 R70_4 false) (l := [0, 1]) rfl ?_
  refine lj 23 R70_4_N rfl rfl rfl (opv_move rfl rfl h7) ?_
  refine lj 6 R70_4_N rfl rfl rfl (opv_assign rfl rfl rfl) ?_
  refine aops_nil ?_
  exact ago_retE (rfl : C70_12 = .ret) (r := r12.1) (ares_1 rfl (oneT rfl)) rfl H
theorem F70_ok {Q : Int → AW → Prop} {E : List PanicEntry → AW → Prop} (m_0 : Value) (w_1 : Int) (i_2 : Int) (aw : AW) (H : S70_0 Q E m_0 w_1 i_2 aw) : CallP prog 70 [m_0, .int .u64 w_1, .int .i64 i_2] aw sh70 Q E :=
  callP_of func70 C70_is rfl (Nat.le_of_ble_eq_true rfl) (S70_0_ok Q E _ m_0 w_1 i_2 aw rfl rfl rfl H)
def C72_0 := bodyOf f72
theorem C72_is : f72.body = some C72_0 := by kernel_rfl
def C72_1 := cl C72_0
def R72_0 := regOps C72_1
def C72_2 := cr C72_0
def C72_3 := cl C72_2
def R72_1 := regOps C72_3
def C72_4 := cr C72_2
def C72_5 := cl C72_4
def R72_2 := regOps C72_5
def C72_6 := cr C72_4
def C72_7 := cl C72_6
def R72_3 := regOps C72_7
def C72_8 := cr C72_6
def C72_9 := cl C72_8
def C72_10 := cl C72_9
def R72_5 := regOps C72_10
def C72_11 := cr C72_9
def C72_12 := cl C72_11
def C72_21 := cr C72_11
def C72_22 := cl C72_21
def R72_10 := regOps C72_22
def C72_23 := cr C72_21
def C72_24 := cl C72_23
def C72_25 := cl C72_24
def R72_11 := regOps C72_25
def C72_26 := cr C72_24
def C72_27 := cl C72_26
def R72_12 := regOps C72_27
def C72_28 := cr C72_26
def C72_29 := cl C72_28
def R72_13 := regOps C72_29
def C72_30 := cr C72_28
def C72_31 := cl C72_30
def R72_14 := regOps C72_31
def C72_32 := cr C72_30
def C72_33 := cl C72_32
def R72_15 := regOps C72_33
def C72_34 := cr C72_32
def R72_16 := regOps C72_34
def C72_35 := cr C72_23
theorem R72_0_N : dstsOk 101 R72_0 = true := by decide +kernel
theorem R72_1_N : dstsOk 101 R72_1 = true := by decide +kernel
theorem R72_2_N : dstsOk 101 R72_2 = true := by decide +kernel
theorem R72_3_N : dstsOk 101 R72_3 = true := by decide +kernel
theorem R72_5_N : dstsOk 101 R72_5 = true := by decide +kernel
theorem R72_10_N : dstsOk 101 R72_10 = true := by decide +kernel
theorem R72_11_N : dstsOk 101 R72_11 = true := by decide +kernel
theorem R72_12_N : dstsOk 101 R72_12 = true := by decide +kernel
theorem R72_13_N : dstsOk 101 R72_13 = true := by decide +kernel
theorem R72_14_N : dstsOk 101 R72_14 = true := by decide +kernel
theorem R72_15_N : dstsOk 101 R72_15 = true := by decide +kernel
theorem R72_16_N : dstsOk 101 R72_16 = true := by decide +kernel
def S72_0 (Q : Unit → AW → Prop) (E : List PanicEntry → AW → Prop)  (m_0 : Value) (aw : AW) : Prop :=
  CallP prog 81 [m_0] aw sh81 (fun r1 aw2 =>
  nck m_0 (fldA m_0 3 fun p4 =>
  ldV aw2 p4 fun x12 =>
  slen x12 fun n14 =>
  nck m_0 (fldA m_0 3 fun p21 =>
  ldV aw2 p21 fun x29 =>
  ixS x29 (IntKind.i64.wrap (n14 - 2)) 1 fun p31 =>
  ldI .u64 aw2 p31 fun x43 =>
  nck m_0 (fldA m_0 0 fun p46 =>
  ldV aw2 p46 fun x54 =>
  CallP prog 38 [x54, .int .u64 x43] aw2 sh38 (fun r56 aw57 =>
  cnd (decide (r56 = 5)) (False) (cnd (decide (r56 = 6)) (CallP prog 70 [m_0, .int .u64 x43, .int .i64 0] aw57 sh70 (fun r60 aw61 =>
  CallP prog 73 [.int .u64 r60] aw61 sh73 (fun r62 aw63 =>
  nck m_0 (fldA m_0 3 fun p65 =>
  ldV aw63 p65 fun x73 =>
  ixS x73 (IntKind.i64.wrap (n14 - 1)) 1 fun p75 =>
  ldI .u64 aw63 p75 fun x87 =>
  CallP prog 82 [m_0, .int .i64 r62, .int .u64 x87] aw63 sh82 (fun r89 aw90 =>
  CallP prog 37 [m_0] aw90 sh37 (fun r91 aw92 =>
  nck m_0 (fldA m_0 3 fun p94 =>
  ldV aw92 p94 fun x102 =>
  ixS x102 (IntKind.i64.wrap (n14 - 2)) 1 fun p104 =>
  st aw92 p104 [.int .u64 r91] fun aw113 =>
  nck m_0 (fldA m_0 3 fun p121 =>
  ldV aw113 p121 fun x129 =>
  cutV aw113 1 x129 0 (IntKind.i64.wrap (n14 - 1)) fun v131 =>
  nck m_0 (fldA m_0 3 fun p134 =>
  st aw113 p134 [v131] fun aw139 =>
  Q () aw139)))) E) E)) E) E) (False))) E)))) E
theorem S72_0_ok (Q : Unit → AW → Prop) (E : List PanicEntry → AW → Prop)  (ρ : Env) (m_0 : Value) (aw : AW) (h0 : ρ 0 = m_0) (H : S72_0 Q E  m_0 aw) :
    AGo prog 101 [.code C72_0] ρ [] aw (RR prog f72 101 sh72 Q E) := by
  unfold S72_0 at H
  refine ago_seqE (rfl : C72_0 = .seq C72_1 C72_2) ?_
  refine ago_regE (rfl : C72_1 = .region 0 R72_0 false) (l := [0, 1]) rfl ?_
  refine lj 8 R72_0_N rfl rfl rfl (opv_move rfl rfl h0) ?_
  refine lc 9 R72_0_N rfl rfl rfl (opc_of rfl rfl is81 (ma_cons rfl rfl)) H (fun _ _ h => ⟨rfl, h⟩) fun r1 aw2 H => ?_
  refine aops_nil ?_
  refine ago_seqE (rfl : C72_2 = .seq C72_3 C72_4) ?_
  refine ago_regE (rfl : C72_3 = .region 1 R72_1 false) (l := [0, 1, 2, 3, 4, 5]) rfl ?_
  refine lj 10 R72_1_N rfl rfl rfl (opv_move rfl rfl h0) ?_
  obtain ⟨hp3, H⟩ := H
  refine lj 11 R72_1_N rfl rfl rfl (ov_nck rfl rfl rfl hp3) ?_
  obtain ⟨b5, i6, p4, hp7, hv8, H⟩ := H
  refine lj 12 R72_1_N rfl rfl rfl (ov_fldA rfl rfl underlying77 rfl sz62 (by decide) rfl hp7 rfl hv8) ?_
  obtain ⟨b9, i10, x12, hp11, hg13, H⟩ := H
  refine lj 13 R72_1_N rfl rfl rfl (ov_ldV rfl underlying62 rfl rfl rfl hp11 hg13) ?_
  obtain ⟨q15, l16, c17, n14, hv18, hn19, H⟩ := H
  refine lj 14 R72_1_N rfl rfl rfl (ov_len rfl rfl rfl underlying62 rfl hv18 hn19) ?_
  refine lj 2 R72_1_N rfl rfl rfl (opv_assign rfl rfl rfl) ?_
  refine aops_nil ?_
  refine ago_seqE (rfl : C72_4 = .seq C72_5 C72_6) ?_
  refine ago_regE (rfl : C72_5 = .region 2 R72_2 false) (l := [0, 1, 2, 3, 4, 5, 6, 7, 8]) rfl ?_
  refine lj 15 R72_2_N rfl rfl rfl (opv_move rfl rfl h0) ?_
  obtain ⟨hp20, H⟩ := H
  refine lj 16 R72_2_N rfl rfl rfl (ov_nck rfl rfl rfl hp20) ?_
  obtain ⟨b22, i23, p21, hp24, hv25, H⟩ := H
  refine lj 17 R72_2_N rfl rfl rfl (ov_fldA rfl rfl underlying77 rfl sz62 (by decide) rfl hp24 rfl hv25) ?_
  obtain ⟨b26, i27, x29, hp28, hg30, H⟩ := H
  refine lj 18 R72_2_N rfl rfl rfl (ov_ldV rfl underlying62 rfl rfl rfl hp28 hg30) ?_
  refine lj 19 R72_2_N rfl rfl rfl (opv_move rfl rfl rfl) ?_
  refine lj 20 R72_2_N rfl rfl rfl (opv_sub rfl rfl rfl rfl rfl) ?_
  obtain ⟨b32, i33, l34, c35, p31, hp36, h037, hj38, hv39, H⟩ := H
  refine lj 21 R72_2_N rfl rfl rfl (ov_ixS rfl rfl rfl underlying62 sz26 rfl rfl hp36 h037 hj38 hv39) ?_
  obtain ⟨b40, i41, x43, hp42, hg44, H⟩ := H
  refine lj 22 R72_2_N rfl rfl rfl (ov_ldI rfl underlying26 rfl rfl hp42 hg44) ?_
  refine lj 3 R72_2_N rfl rfl rfl (opv_assign rfl rfl rfl) ?_
  refine aops_nil ?_
  refine ago_seqE (rfl : C72_6 = .seq C72_7 C72_8) ?_
  refine ago_cut (fun ρ => ρ 0 = m_0 ∧ ρ 2 = .int .i64 n14 ∧ ρ 3 = .int .u64 x43 ∧ True) ⟨h0, rfl, rfl, trivial⟩ (fun ρ ⟨h0, h2, h3, _⟩ => ?_)
  refine ago_regE (rfl : C72_7 = .region 3 R72_3 false) (l := [0, 1, 2, 3, 4, 5]) rfl ?_
  refine lj 23 R72_3_N rfl rfl rfl (opv_move rfl rfl h0) ?_
  obtain ⟨hp45, H⟩ := H
  refine lj 24 R72_3_N rfl rfl rfl (ov_nck rfl rfl rfl hp45) ?_
  obtain ⟨b47, i48, p46, hp49, hv50, H⟩ := H
  refine lj 25 R72_3_N rfl rfl rfl (ov_fldA rfl rfl underlying77 rfl sz50 (by decide) rfl hp49 rfl hv50) ?_
  obtain ⟨b51, i52, x54, hp53, hg55, H⟩ := H
  refine lj 26 R72_3_N rfl rfl rfl (ov_ldV rfl underlying50 rfl rfl rfl hp53 hg55) ?_
  refine lj 27 R72_3_N rfl rfl rfl (opv_move rfl rfl h3) ?_
  refine lc 28 R72_3_N rfl rfl rfl (opc_of rfl rfl is38 (ma_cons rfl (ma_cons rfl rfl))) H (fun _ _ h => ⟨rfl, h⟩) fun r56 aw57 H => ?_
  refine aops_nil ?_
  refine ago_blockE (rfl : C72_8 = .block 0 C72_9) ?_
  refine ago_seqE (rfl : C72_9 = .seq C72_10 C72_11) ?_
  refine ago_regE (rfl : C72_10 = .region 5 R72_5 false) (l := [0, 1]) rfl ?_
  refine lj 32 R72_5_N rfl rfl rfl (opv_eqI rfl rfl rfl rfl rfl) ?_
  refine lj 31 R72_5_N rfl rfl rfl (opv_assign rfl rfl rfl) ?_
  refine aops_nil ?_
  refine ago_condE  (rfl : C72_11 = .cond (.tmp 31) C72_12 C72_21) rfl rfl (fun hb58 => ?_) (fun hb58 => ?_)
  · exact (cnd_t H hb58).elim
  replace H := cnd_f H hb58
  refine ago_seqE (rfl : C72_21 = .seq C72_22 C72_23) ?_
  refine ago_regE (rfl : C72_22 = .region 10 R72_10 false) (l := [0, 1]) rfl ?_
  refine lj 64 R72_10_N rfl rfl rfl (opv_eqI rfl rfl rfl rfl rfl) ?_
  refine lj 63 R72_10_N rfl rfl rfl (opv_assign rfl rfl rfl) ?_
  refine aops_nil ?_
  refine ago_condE  (rfl : C72_23 = .cond (.tmp 63) C72_24 C72_35) rfl rfl (fun hb59 => ?_) (fun hb59 => ?_)
  · replace H := cnd_t H hb59
    refine ago_seqE (rfl : C72_24 = .seq C72_25 C72_26) ?_
    refine ago_regE (rfl : C72_25 = .region 11 R72_11 false) (l := [0, 1, 2, 3, 4]) rfl ?_
    refine lj 65 R72_11_N rfl rfl rfl (opv_move rfl rfl h0) ?_
    refine lj 66 R72_11_N rfl rfl rfl (opv_move rfl rfl h3) ?_
    refine lc 67 R72_11_N rfl rfl rfl (opc_of rfl rfl is70 (ma_cons rfl (ma_cons rfl (ma_cons rfl rfl)))) H (fun _ _ h => ⟨rfl, h⟩) fun r60 aw61 H => ?_
    refine lc 68 R72_11_N rfl rfl rfl (opc_of rfl rfl is73 (ma_cons rfl rfl)) H (fun _ _ h => ⟨rfl, h⟩) fun r62 aw63 H => ?_
    refine lj 5 R72_11_N rfl rfl rfl (opv_assign rfl rfl rfl) ?_
    refine aops_nil ?_
    refine ago_seqE (rfl : C72_26 = .seq C72_27 C72_28) ?_
    refine ago_cut (fun ρ => ρ 0 = m_0 ∧ ρ 2 = .int .i64 n14 ∧ ρ 5 = .int .i64 r62 ∧ True) ⟨h0, h2, rfl, trivial⟩ (fun ρ ⟨h0, h2, h5, _⟩ => ?_)
    refine ago_regE (rfl : C72_27 = .region 12 R72_12 false) (l := [0, 1, 2, 3, 4, 5, 6, 7, 8]) rfl ?_
    refine lj 69 R72_12_N rfl rfl rfl (opv_move rfl rfl h0) ?_
    obtain ⟨hp64, H⟩ := H
    refine lj 70 R72_12_N rfl rfl rfl (ov_nck rfl rfl rfl hp64) ?_
    obtain ⟨b66, i67, p65, hp68, hv69, H⟩ := H
    refine lj 71 R72_12_N rfl rfl rfl (ov_fldA rfl rfl underlying77 rfl sz62 (by decide) rfl hp68 rfl hv69) ?_
    obtain ⟨b70, i71, x73, hp72, hg74, H⟩ := H
    refine lj 72 R72_12_N rfl rfl rfl (ov_ldV rfl underlying62 rfl rfl rfl hp72 hg74) ?_
    refine lj 73 R72_12_N rfl rfl rfl (opv_move rfl rfl h2) ?_
    refine lj 74 R72_12_N rfl rfl rfl (opv_sub rfl rfl rfl rfl rfl) ?_
    obtain ⟨b76, i77, l78, c79, p75, hp80, h081, hj82, hv83, H⟩ := H
    refine lj 75 R72_12_N rfl rfl rfl (ov_ixS rfl rfl rfl underlying62 sz26 rfl rfl hp80 h081 hj82 hv83) ?_
    obtain ⟨b84, i85, x87, hp86, hg88, H⟩ := H
    refine lj 76 R72_12_N rfl rfl rfl (ov_ldI rfl underlying26 rfl rfl hp86 hg88) ?_
    refine lj 6 R72_12_N rfl rfl rfl (opv_assign rfl rfl rfl) ?_
    refine aops_nil ?_
    refine ago_seqE (rfl : C72_28 = .seq C72_29 C72_30) ?_
    refine ago_regE (rfl : C72_29 = .region 13 R72_13 false) (l := [0, 1, 2, 3]) rfl ?_
    refine lj 77 R72_13_N rfl rfl rfl (opv_move rfl rfl h0) ?_
    refine lj 78 R72_13_N rfl rfl rfl (opv_move rfl rfl h5) ?_
    refine lj 79 R72_13_N rfl rfl rfl (opv_move rfl rfl rfl) ?_
    refine lc 80 R72_13_N rfl rfl rfl (opc_of rfl rfl is82 (ma_cons rfl (ma_cons rfl (ma_cons rfl rfl)))) H (fun _ _ h => ⟨rfl, h⟩) fun r89 aw90 H => ?_
    refine aops_nil ?_
    refine ago_seqE (rfl : C72_30 = .seq C72_31 C72_32) ?_
    refine ago_cut (fun ρ => ρ 0 = m_0 ∧ ρ 2 = .int .i64 n14 ∧ True) ⟨h0, h2, trivial⟩ (fun ρ ⟨h0, h2, _⟩ => ?_)
    refine ago_regE (rfl : C72_31 = .region 14 R72_14 false) (l := [0, 1, 2]) rfl ?_
    refine lj 81 R72_14_N rfl rfl rfl (opv_move rfl rfl h0) ?_
    refine lc 82 R72_14_N rfl rfl rfl (opc_of rfl rfl is37 (ma_cons rfl rfl)) H (fun _ _ h => ⟨rfl, h⟩) fun r91 aw92 H => ?_
    refine lj 7 R72_14_N rfl rfl rfl (opv_assign rfl rfl rfl) ?_
    refine aops_nil ?_
    refine ago_seqE (rfl : C72_32 = .seq C72_33 C72_34) ?_
    refine ago_regE (rfl : C72_33 = .region 15 R72_15 false) (l := [0, 1, 2, 3, 4, 5, 6, 7, 8]) rfl ?_
    refine lj 83 R72_15_N rfl rfl rfl (opv_move rfl rfl h0) ?_
    obtain ⟨hp93, H⟩ := H
    refine lj 84 R72_15_N rfl rfl rfl (ov_nck rfl rfl rfl hp93) ?_
    obtain ⟨b95, i96, p94, hp97, hv98, H⟩ := H
    refine lj 85 R72_15_N rfl rfl rfl (ov_fldA rfl rfl underlying77 rfl sz62 (by decide) rfl hp97 rfl hv98) ?_
    obtain ⟨b99, i100, x102, hp101, hg103, H⟩ := H
    refine lj 86 R72_15_N rfl rfl rfl (ov_ldV rfl underlying62 rfl rfl rfl hp101 hg103) ?_
    refine lj 87 R72_15_N rfl rfl rfl (opv_move rfl rfl h2) ?_
    refine lj 88 R72_15_N rfl rfl rfl (opv_sub rfl rfl rfl rfl rfl) ?_
    refine lj 89 R72_15_N rfl rfl rfl (opv_move rfl rfl rfl) ?_
    obtain ⟨b105, i106, l107, c108, p104, hp109, h0110, hj111, hv112, H⟩ := H
    refine lj 90 R72_15_N rfl rfl rfl (ov_ixS rfl rfl rfl underlying62 sz26 rfl rfl hp109 h0110 hj111 hv112) ?_
    obtain ⟨b114, i115, aw113, hp116, hw117, ho118, ha119, H⟩ := H
    refine lk (dt := none) R72_15_N rfl rfl rfl (ov_st rfl rfl rfl rfl rfl rfl sz26 hp116 hw117 ho118 ha119) ?_
    refine aops_nil ?_
    refine ago_cut (fun ρ => ρ 0 = m_0 ∧ ρ 2 = .int .i64 n14 ∧ True) ⟨h0, h2, trivial⟩ (fun ρ ⟨h0, h2, _⟩ => ?_)
    refine ago_regE (rfl : C72_34 = .region 16 R72_16 false) (l := [0, 1, 2, 3, 4, 5, 6, 7, 8, 9, 10]) rfl ?_
    refine lj 91 R72_16_N rfl rfl rfl (opv_move rfl rfl h0) ?_
    refine lj 92 R72_16_N rfl rfl rfl (opv_move rfl rfl h0) ?_
    obtain ⟨hp120, H⟩ := H
    refine lj 93 R72_16_N rfl rfl rfl (ov_nck rfl rfl rfl hp120) ?_
    obtain ⟨b122, i123, p121, hp124, hv125, H⟩ := H
    refine lj 94 R72_16_N rfl rfl rfl (ov_fldA rfl rfl underlying77 rfl sz62 (by decide) rfl hp124 rfl hv125) ?_
    obtain ⟨b126, i127, x129, hp128, hg130, H⟩ := H
    refine lj 95 R72_16_N rfl rfl rfl (ov_ldV rfl underlying62 rfl rfl rfl hp128 hg130) ?_
    refine lj 96 R72_16_N rfl rfl rfl (opv_move rfl rfl h2) ?_
    refine lj 97 R72_16_N rfl rfl rfl (opv_sub rfl rfl rfl rfl rfl) ?_
    obtain ⟨v131, hq132, H⟩ := H
    refine lj 98 R72_16_N rfl rfl rfl (ov_cutV rfl rfl underlying62 sz26 rfl (bndN _ _ _) (bndS rfl) hq132) ?_
    obtain ⟨hp133, H⟩ := H
    refine lj 99 R72_16_N rfl rfl rfl (ov_nck rfl rfl rfl hp133) ?_
    obtain ⟨b135, i136, p134, hp137, hv138, H⟩ := H
    refine lj 100 R72_16_N rfl rfl rfl (ov_fldA rfl rfl underlying77 rfl sz62 (by decide) rfl hp137 rfl hv138) ?_
    obtain ⟨b140, i141, aw139, hp142, hw143, ho144, ha145, H⟩ := H
    refine lk (dt := none) R72_16_N rfl rfl rfl (ov_st rfl rfl rfl rfl rfl (cells_all ho144) sz62 hp142 hw143 ho144 ha145) ?_
    refine aops_nil ?_
    refine ago_inBlock ?_
    exact ago_nilR (r := ()) (ares_0 rfl ) rfl H
  exact (cnd_f H hb59).elim
theorem F72_ok {Q : Unit → AW → Prop} {E : List PanicEntry → AW → Prop} (m_0 : Value) (aw : AW) (H : S72_0 Q E m_0 aw) : CallP prog 72 [m_0] aw sh72 Q E :=
  callP_of func72 C72_is rfl (Nat.le_of_ble_eq_true rfl) (S72_0_ok Q E _ m_0 aw rfl H)
def C74_0 := bodyOf f74
theorem C74_is : f74.body = some C74_0 := by kernel_rfl
def C74_1 := cl C74_0
def R74_0 := regOps C74_1
def C74_2 := cr C74_0
def C74_3 := cl C74_2
def C74_4 := cl C74_3
def R74_1 := regOps C74_4
def C74_5 := cr C74_3
def C74_6 := cl C74_5
def C74_7 := cl C74_6
def R74_2 := regOps C74_7
def C74_8 := cr C74_6
def C74_9 := cl C74_8
def C74_10 := cl C74_9
def R74_3 := regOps C74_10
def C74_11 := cr C74_9
def C74_12 := cl C74_11
def C74_13 := cl C74_12
def R74_4 := regOps C74_13
def C74_14 := cr C74_12
def C74_15 := cl C74_14
def R74_5 := regOps C74_15
def C74_16 := cr C74_14
def C74_17 := cr C74_11
def C74_18 := cl C74_17
def R74_6 := regOps C74_18
def C74_19 := cr C74_17
def C74_20 := cl C74_19
def R74_7 := regOps C74_20
def C74_21 := cr C74_19
def C74_22 := cl C74_21
def R74_8 := regOps C74_22
def C74_23 := cr C74_21
def C74_24 := cl C74_23
def R74_9 := regOps C74_24
def C74_25 := cr C74_23
def C74_26 := cr C74_8
def C74_27 := cl C74_26
def R74_10 := regOps C74_27
def C74_28 := cr C74_26
def C74_29 := cl C74_28
def C74_36 := cr C74_28
def C74_37 := cr C74_2
def C74_38 := cl C74_37
def R74_14 := regOps C74_38
def C74_39 := cr C74_37
def C74_40 := cl C74_39
def R74_15 := regOps C74_40
def C74_41 := cr C74_39
def R74_16 := regOps C74_41
theorem R74_0_N : dstsOk 129 R74_0 = true := by decide +kernel
theorem R74_0_O : linOk R74_0 [0, 1, 2, 3, 4, 5, 6, 7, 8, 9, 10, 11, 12, 13, 14, 15, 16, 17, 18, 19, 20, 21, 22, 23, 24, 25] [] = true := by decide +kernel
theorem R74_1_N : dstsOk 129 R74_1 = true := by decide +kernel
theorem R74_2_N : dstsOk 129 R74_2 = true := by decide +kernel
theorem R74_3_N : dstsOk 129 R74_3 = true := by decide +kernel
theorem R74_3_O : linOk R74_3 [0, 1, 2, 3, 4, 6, 7, 8, 9, 10] [(5, [6, 7, 8, 9, 10], []), (11, [], [12, 13])] = true := by decide +kernel
theorem R74_4_N : dstsOk 129 R74_4 = true := by decide +kernel
theorem R74_5_N : dstsOk 129 R74_5 = true := by decide +kernel
theorem R74_6_N : dstsOk 129 R74_6 = true := by decide +kernel
theorem R74_7_N : dstsOk 129 R74_7 = true := by decide +kernel
theorem R74_8_N : dstsOk 129 R74_8 = true := by decide +kernel
theorem R74_8_O : linOk R74_8 [0, 1, 2, 3, 4, 5, 6, 7, 8, 9, 10, 11, 12, 13] [(14, [], [])] = true := by decide +kernel
theorem R74_9_N : dstsOk 129 R74_9 = true := by decide +kernel
theorem R74_10_N : dstsOk 129 R74_10 = true := by decide +kernel
theorem R74_14_N : dstsOk 129 R74_14 = true := by decide +kernel
theorem R74_15_N : dstsOk 129 R74_15 = true := by decide +kernel
theorem R74_15_O : linOk R74_15 [0, 1, 2, 3, 4, 5, 6, 7, 8, 9, 10, 11, 12, 13] [(14, [], [])] = true := by decide +kernel
theorem R74_16_N : dstsOk 129 R74_16 = true := by decide +kernel
def S74_0 (Q : Unit → AW → Prop) (E : List PanicEntry → AW → Prop)  (m_0 : Value) (sign_1 : Int) (aw : AW) : Prop :=
  nck m_0 (fldA m_0 3 fun p2 =>
  ldV aw p2 fun x10 =>
  nck m_0 (fldA m_0 3 fun p13 =>
  ldV aw p13 fun x21 =>
  slen x21 fun n23 =>
  ixS x10 (IntKind.i64.wrap (n23 - 1)) 1 fun p29 =>
  ldI .u64 aw p29 fun x41 =>
  nck m_0 (fldA m_0 3 fun p44 =>
  ldV aw p44 fun x52 =>
  nck m_0 (fldA m_0 3 fun p55 =>
  ldV aw p55 fun x63 =>
  slen x63 fun n65 =>
  ixS x52 (IntKind.i64.wrap (n65 - 2)) 1 fun p71 =>
  ldI .u64 aw p71 fun x83 =>
  cnd (decide (sign_1 = 9)) (nck m_0 (fldA m_0 0 fun p87 =>
  ldV aw p87 fun x95 =>
  nck m_0 (fldA m_0 0 fun p98 =>
  ldV aw p98 fun x106 =>
  CallP prog 19 [x95, .int .u64 x83] aw sh19 (fun r108 aw109 =>
  again1 aw109 p98 (x106) ∧ CallP prog 19 [x106, .int .u64 x41] aw109 sh19 (fun r110 aw111 =>
  cnd (decide (4096 < (IntKind.i64.wrap ((r108.size : Int) + (r110.size : Int))))) (E [⟨(.iface 116 (.agg #[.string (⟨#[108, 111, 110, 103]⟩ : ByteArray)])), false, false⟩] aw111) (r108.size + r110.size ≤ 2 ^ 62 ∧ CallP prog 69 [m_0, .string (r108 ++ r110)] aw111 sh69 (fun r114 aw115 =>
  CallP prog 37 [m_0] aw115 sh37 (fun r116 aw117 =>
  nck m_0 (fldA m_0 3 fun p119 =>
  ldV aw117 p119 fun x127 =>
  nck m_0 (fldA m_0 3 fun p130 =>
  ldV aw117 p130 fun x138 =>
  slen x138 fun n140 =>
  cutV aw117 1 x127 0 (IntKind.i64.wrap (n140 - 2)) fun v146 =>
  nck m_0 (fldA m_0 3 fun p149 =>
  st aw117 p149 [v146] fun aw154 =>
  CallP prog 34 [m_0, .int .u64 r116] aw154 sh34 (fun r161 aw162 =>
  Q () aw162) E)))) E) E)) E) E))) (cnd (decide (sign_1 = 10)) (False) (CallP prog 84 [m_0, .int .i64 sign_1, .int .u64 x83, .int .u64 x41] aw sh84 (fun r164 aw165 =>
  nck m_0 (fldA m_0 3 fun p167 =>
  ldV aw165 p167 fun x175 =>
  nck m_0 (fldA m_0 3 fun p178 =>
  ldV aw165 p178 fun x186 =>
  slen x186 fun n188 =>
  cutV aw165 1 x175 0 (IntKind.i64.wrap (n188 - 2)) fun v194 =>
  nck m_0 (fldA m_0 3 fun p197 =>
  st aw165 p197 [v194] fun aw202 =>
  CallP prog 34 [m_0, .int .u64 r164] aw202 sh34 (fun r209 aw210 =>
  Q () aw210) E)))) E))))))
theorem S74_0_ok (Q : Unit → AW → Prop) (E : List PanicEntry → AW → Prop)  (ρ : Env) (m_0 : Value) (sign_1 : Int) (aw : AW) (h0 : ρ 0 = m_0) (h1 : ρ 1 = .int .i64 sign_1) (H : S74_0 Q E  m_0 sign_1 aw) :
    AGo prog 129 [.code C74_0] ρ [] aw (RR prog f74 129 sh74 Q E) := by
  unfold S74_0 at H
  refine ago_seqE (rfl : C74_0 = .seq C74_1 C74_2) ?_
  obtain ⟨hp1, H⟩ := H
  obtain ⟨b3, i4, p2, hp5, hv6, H⟩ := H
  obtain ⟨b7, i8, x10, hp9, hg11, H⟩ := H
  obtain ⟨hp12, H⟩ := H
  obtain ⟨b14, i15, p13, hp16, hv17, H⟩ := H
  obtain ⟨b18, i19, x21, hp20, hg22, H⟩ := H
  obtain ⟨q24, l25, c26, n23, hv27, hn28, H⟩ := H
  obtain ⟨b30, i31, l32, c33, p29, hp34, h035, hj36, hv37, H⟩ := H
  obtain ⟨b38, i39, x41, hp40, hg42, H⟩ := H
  obtain ⟨hp43, H⟩ := H
  obtain ⟨b45, i46, p44, hp47, hv48, H⟩ := H
  obtain ⟨b49, i50, x52, hp51, hg53, H⟩ := H
  obtain ⟨hp54, H⟩ := H
  obtain ⟨b56, i57, p55, hp58, hv59, H⟩ := H
  obtain ⟨b60, i61, x63, hp62, hg64, H⟩ := H
  obtain ⟨q66, l67, c68, n65, hv69, hn70, H⟩ := H
  obtain ⟨b72, i73, l74, c75, p71, hp76, h077, hj78, hv79, H⟩ := H
  obtain ⟨b80, i81, x83, hp82, hg84, H⟩ := H
  refine ago_drawH (p := [0, 1, 2, 3, 4, 5, 6, 7, 8, 9, 10, 11, 12, 13, 14, 15, 16, 17, 18, 19, 20, 21, 22, 23, 24, 25]) (tl := []) (hv := [(0, m_0), (1, m_0), (2, p2), (3, x10), (4, m_0), (5, m_0), (6, p13), (7, x21), (8, Value.int .i64 n23), (9, Value.int .i64 (IntKind.i64.wrap (n23 - 1))), (10, p29), (11, Value.int .u64 x41), (12, m_0), (13, m_0), (14, p44), (15, x52), (16, m_0), (17, m_0), (18, p55), (19, x63), (20, Value.int .i64 n65), (21, Value.int .i64 (IntKind.i64.wrap (n65 - 2))), (22, p71), (23, Value.int .u64 x83), (24, Value.int .u64 x41), (25, Value.int .u64 x83)]) (rfl : C74_1 = .region 0 R74_0 true) mixed R74_0_N R74_0_O rfl (pv_cons rfl (pv_cons rfl (pv_cons rfl (pv_cons rfl (pv_cons rfl (pv_cons rfl (pv_cons rfl (pv_cons rfl (pv_cons rfl (pv_cons rfl (pv_cons rfl (pv_cons rfl (pv_cons rfl (pv_cons rfl (pv_cons rfl (pv_cons rfl (pv_cons rfl (pv_cons rfl (pv_cons rfl (pv_cons rfl (pv_cons rfl (pv_cons rfl (pv_cons rfl (pv_cons rfl (pv_cons rfl (pv_cons rfl (pv_nil _)))))))))))))))))))))))))))
    (fc 10 m_0 (hd_v rfl fun ρ hρ => ⟨rfl, opv_move rfl rfl ((hρ 0 (lmem rfl)).trans h0)⟩) rfl rfl
    (fc 11 m_0 (hd_v rfl fun ρ hρ => ⟨rfl, ov_nck rfl rfl ((hρ 10 (lmem rfl)).trans rfl) hp1⟩) rfl rfl
    (fc 12 p2 (hd_v rfl fun ρ hρ => ⟨rfl, ov_fldA rfl rfl underlying77 rfl sz62 (by decide) ((hρ 11 (lmem rfl)).trans rfl) hp5 rfl hv6⟩) rfl rfl
    (fc 13 x10 (hd_v rfl fun ρ hρ => ⟨rfl, ov_ldV rfl underlying62 rfl rfl ((hρ 12 (lmem rfl)).trans rfl) hp9 hg11⟩) rfl rfl
    (fc 14 m_0 (hd_v rfl fun ρ hρ => ⟨rfl, opv_move rfl rfl ((hρ 0 (lmem rfl)).trans h0)⟩) rfl rfl
    (fc 15 m_0 (hd_v rfl fun ρ hρ => ⟨rfl, ov_nck rfl rfl ((hρ 14 (lmem rfl)).trans rfl) hp12⟩) rfl rfl
    (fc 16 p13 (hd_v rfl fun ρ hρ => ⟨rfl, ov_fldA rfl rfl underlying77 rfl sz62 (by decide) ((hρ 15 (lmem rfl)).trans rfl) hp16 rfl hv17⟩) rfl rfl
    (fc 17 x21 (hd_v rfl fun ρ hρ => ⟨rfl, ov_ldV rfl underlying62 rfl rfl ((hρ 16 (lmem rfl)).trans rfl) hp20 hg22⟩) rfl rfl
    (fc 18 (.int .i64 n23) (hd_v rfl fun ρ hρ => ⟨rfl, ov_len rfl rfl rfl underlying62 ((hρ 17 (lmem rfl)).trans rfl) hv27 hn28⟩) rfl rfl
    (fc 19 (.int .i64 (IntKind.i64.wrap (n23 - 1))) (hd_v rfl fun ρ hρ => ⟨rfl, opv_sub rfl rfl rfl ((hρ 18 (lmem rfl)).trans rfl) rfl⟩) rfl rfl
    (fc 20 p29 (hd_v rfl fun ρ hρ => ⟨rfl, ov_ixS rfl rfl rfl underlying62 sz26 ((hρ 13 (lmem rfl)).trans rfl) ((hρ 19 (lmem rfl)).trans rfl) hp34 h035 hj36 hv37⟩) rfl rfl
    (fc 21 (.int .u64 x41) (hd_v rfl fun ρ hρ => ⟨rfl, ov_ldI rfl underlying26 rfl ((hρ 20 (lmem rfl)).trans rfl) hp40 hg42⟩) rfl rfl
    (fc 22 m_0 (hd_v rfl fun ρ hρ => ⟨rfl, opv_move rfl rfl ((hρ 0 (lmem rfl)).trans h0)⟩) rfl rfl
    (fc 23 m_0 (hd_v rfl fun ρ hρ => ⟨rfl, ov_nck rfl rfl ((hρ 22 (lmem rfl)).trans rfl) hp43⟩) rfl rfl
    (fc 24 p44 (hd_v rfl fun ρ hρ => ⟨rfl, ov_fldA rfl rfl underlying77 rfl sz62 (by decide) ((hρ 23 (lmem rfl)).trans rfl) hp47 rfl hv48⟩) rfl rfl
    (fc 25 x52 (hd_v rfl fun ρ hρ => ⟨rfl, ov_ldV rfl underlying62 rfl rfl ((hρ 24 (lmem rfl)).trans rfl) hp51 hg53⟩) rfl rfl
    (fc 26 m_0 (hd_v rfl fun ρ hρ => ⟨rfl, opv_move rfl rfl ((hρ 0 (lmem rfl)).trans h0)⟩) rfl rfl
    (fc 27 m_0 (hd_v rfl fun ρ hρ => ⟨rfl, ov_nck rfl rfl ((hρ 26 (lmem rfl)).trans rfl) hp54⟩) rfl rfl
    (fc 28 p55 (hd_v rfl fun ρ hρ => ⟨rfl, ov_fldA rfl rfl underlying77 rfl sz62 (by decide) ((hρ 27 (lmem rfl)).trans rfl) hp58 rfl hv59⟩) rfl rfl
    (fc 29 x63 (hd_v rfl fun ρ hρ => ⟨rfl, ov_ldV rfl underlying62 rfl rfl ((hρ 28 (lmem rfl)).trans rfl) hp62 hg64⟩) rfl rfl
    (fc 30 (.int .i64 n65) (hd_v rfl fun ρ hρ => ⟨rfl, ov_len rfl rfl rfl underlying62 ((hρ 29 (lmem rfl)).trans rfl) hv69 hn70⟩) rfl rfl
    (fc 31 (.int .i64 (IntKind.i64.wrap (n65 - 2))) (hd_v rfl fun ρ hρ => ⟨rfl, opv_sub rfl rfl rfl ((hρ 30 (lmem rfl)).trans rfl) rfl⟩) rfl rfl
    (fc 32 p71 (hd_v rfl fun ρ hρ => ⟨rfl, ov_ixS rfl rfl rfl underlying62 sz26 ((hρ 25 (lmem rfl)).trans rfl) ((hρ 31 (lmem rfl)).trans rfl) hp76 h077 hj78 hv79⟩) rfl rfl
    (fc 33 (.int .u64 x83) (hd_v rfl fun ρ hρ => ⟨rfl, ov_ldI rfl underlying26 rfl ((hρ 32 (lmem rfl)).trans rfl) hp82 hg84⟩) rfl rfl
    (fc 4 (.int .u64 x41) (hd_v rfl fun ρ hρ => ⟨rfl, opv_assign rfl rfl ((hρ 21 (lmem rfl)).trans rfl)⟩) rfl rfl
    (fc 5 (.int .u64 x83) (hd_v rfl fun ρ hρ => ⟨rfl, opv_assign rfl rfl ((hρ 33 (lmem rfl)).trans rfl)⟩) rfl rfl
    ffn)))))))))))))))))))))))))) ?_
  refine lt_end ?_
  refine ago_seqE (rfl : C74_2 = .seq C74_3 C74_37) ?_
  refine ago_seqE (rfl : C74_3 = .seq C74_4 C74_5) ?_
  refine ago_cut (fun ρ => ρ 0 = m_0 ∧ ρ 1 = .int .i64 sign_1 ∧ ρ 4 = .int .u64 x41 ∧ ρ 5 = .int .u64 x83 ∧ True) ⟨h0, h1, rfl, rfl, trivial⟩ (fun ρ ⟨h0, h1, h4, h5, _⟩ => ?_)
  refine ago_regE (rfl : C74_4 = .region 1 R74_1 false) (l := [0]) rfl ?_
  refine lj 34 R74_1_N rfl rfl rfl (opv_move rfl rfl h1) ?_
  refine aops_nil ?_
  refine ago_blockE (rfl : C74_5 = .block 0 C74_6) ?_
  refine ago_seqE (rfl : C74_6 = .seq C74_7 C74_8) ?_
  refine ago_regE (rfl : C74_7 = .region 2 R74_2 false) (l := [0, 1]) rfl ?_
  refine lj 36 R74_2_N rfl rfl rfl (opv_eqI rfl rfl rfl rfl rfl) ?_
  refine lj 35 R74_2_N rfl rfl rfl (opv_assign rfl rfl rfl) ?_
  refine aops_nil ?_
  refine ago_condE  (rfl : C74_8 = .cond (.tmp 35) C74_9 C74_26) rfl rfl (fun hb85 => ?_) (fun hb85 => ?_)
  · replace H := cnd_t H hb85
    refine ago_seqE (rfl : C74_9 = .seq C74_10 C74_11) ?_
    obtain ⟨hp86, H⟩ := H
    obtain ⟨b88, i89, p87, hp90, hv91, H⟩ := H
    obtain ⟨b92, i93, x95, hp94, hg96, H⟩ := H
    obtain ⟨hp97, H⟩ := H
    obtain ⟨b99, i100, p98, hp101, hv102, H⟩ := H
    obtain ⟨b103, i104, x106, hp105, hg107, H⟩ := H
    refine ago_drawH (p := [0, 1, 2, 3, 4, 6, 7, 8, 9, 10]) (tl := [(5, [6, 7, 8, 9, 10], []), (11, [], [12, 13])]) (hv := [(0, m_0), (1, m_0), (2, p87), (3, x95), (4, Value.int .u64 x83), (6, m_0), (7, m_0), (8, p98), (9, x106), (10, Value.int .u64 x41)]) (rfl : C74_10 = .region 3 R74_3 true) mixed R74_3_N R74_3_O rfl (pv_cons rfl (pv_cons rfl (pv_cons rfl (pv_cons rfl (pv_cons rfl (pv_cons rfl (pv_cons rfl (pv_cons rfl (pv_cons rfl (pv_cons rfl (pv_nil _)))))))))))
      (fc 37 m_0 (hd_v rfl fun ρ hρ => ⟨rfl, opv_move rfl rfl ((hρ 0 (lmem rfl)).trans h0)⟩) rfl rfl
      (fc 38 m_0 (hd_v rfl fun ρ hρ => ⟨rfl, ov_nck rfl rfl ((hρ 37 (lmem rfl)).trans rfl) hp86⟩) rfl rfl
      (fc 39 p87 (hd_v rfl fun ρ hρ => ⟨rfl, ov_fldA rfl rfl underlying77 rfl sz50 (by decide) ((hρ 38 (lmem rfl)).trans rfl) hp90 rfl hv91⟩) rfl rfl
      (fc 40 x95 (hd_v rfl fun ρ hρ => ⟨rfl, ov_ldV rfl underlying50 rfl rfl ((hρ 39 (lmem rfl)).trans rfl) hp94 hg96⟩) rfl rfl
      (fc 41 (.int .u64 x83) (hd_v rfl fun ρ hρ => ⟨rfl, opv_move rfl rfl ((hρ 5 (lmem rfl)).trans h5)⟩) rfl rfl
      (fc 43 m_0 (hd_v rfl fun ρ hρ => ⟨rfl, opv_move rfl rfl ((hρ 0 (lmem rfl)).trans h0)⟩) rfl rfl
      (fc 44 m_0 (hd_v rfl fun ρ hρ => ⟨rfl, ov_nck rfl rfl ((hρ 43 (lmem rfl)).trans rfl) hp97⟩) rfl rfl
      (fc 45 p98 (hd_v rfl fun ρ hρ => ⟨rfl, ov_fldA rfl rfl underlying77 rfl sz50 (by decide) ((hρ 44 (lmem rfl)).trans rfl) hp101 rfl hv102⟩) rfl rfl
      (fc 46 x106 (hd_v rfl fun ρ hρ => ⟨rfl, ov_ldV rfl underlying50 rfl rfl ((hρ 45 (lmem rfl)).trans rfl) hp105 hg107⟩) rfl rfl
      (fc 47 (.int .u64 x41) (hd_v rfl fun ρ hρ => ⟨rfl, opv_move rfl rfl ((hρ 4 (lmem rfl)).trans h4)⟩) rfl rfl
      ffn)))))))))) ?_
    refine lt_call (dt := some 42) rfl rfl (fun ρ hρ => ⟨rfl, opc_of rfl rfl is19 (ma_cons ((hρ 40 (lmem rfl)).trans rfl) (ma_cons ((hρ 41 (lmem rfl)).trans rfl) rfl))⟩) H (fun _ _ h _ => ⟨rfl, h⟩) fun r108 aw109 H => ?_
    obtain ⟨hg107, H⟩ := H
    replace hg107 := hg107 _ _ hp105
    refine lt_next (l := [6, 7, 8, 9, 10]) (hv := []) rfl rfl (pv_nil _)
      (fc 43 m_0 (hd_v rfl fun ρ hρ => ⟨rfl, opv_move rfl rfl ((hρ 0 (lmem rfl)).trans h0)⟩) rfl rfl
      (fc 44 m_0 (hd_v rfl fun ρ hρ => ⟨rfl, ov_nck rfl rfl ((hρ 43 (lmem rfl)).trans rfl) hp97⟩) rfl rfl
      (fc 45 p98 (hd_v rfl fun ρ hρ => ⟨rfl, ov_fldA rfl rfl underlying77 rfl sz50 (by decide) ((hρ 44 (lmem rfl)).trans rfl) hp101 rfl hv102⟩) rfl rfl
      (fc 46 x106 (hd_v rfl fun ρ hρ => ⟨rfl, ov_ldV rfl underlying50 rfl rfl ((hρ 45 (lmem rfl)).trans rfl) hp105 hg107⟩) rfl rfl
      (fc 47 (.int .u64 x41) (hd_v rfl fun ρ hρ => ⟨rfl, opv_move rfl rfl ((hρ 4 (lmem rfl)).trans h4)⟩) rfl rfl
      ffn))))) ?_
    refine lt_call (dt := some 48) rfl rfl (fun ρ hρ => ⟨rfl, opc_of rfl rfl is19 (ma_cons ((hρ 46 (lmem rfl)).trans rfl) (ma_cons ((hρ 47 (lmem rfl)).trans rfl) rfl))⟩) H (fun _ _ h _ => ⟨rfl, h⟩) fun r110 aw111 H => ?_
    refine lt_next (l := [12, 13]) (hv := [(12, Value.string r108), (13, Value.string r110)]) rfl rfl (pv_cons rfl (pv_cons rfl (pv_nil _)))
      (fc 6 (.string r108) (hd_v rfl fun ρ hρ => ⟨rfl, opv_assign rfl rfl ((hρ 42 (lmem rfl)).trans rfl)⟩) rfl rfl
      (fc 7 (.string r110) (hd_v rfl fun ρ hρ => ⟨rfl, opv_assign rfl rfl ((hρ 48 (lmem rfl)).trans rfl)⟩) rfl rfl
      ffn)) ?_
    refine lt_end ?_
    refine ago_seqE (rfl : C74_11 = .seq C74_12 C74_17) ?_
    refine ago_seqE (rfl : C74_12 = .seq C74_13 C74_14) ?_
    refine ago_cut (fun ρ => ρ 0 = m_0 ∧ ρ 6 = .string r108 ∧ ρ 7 = .string r110 ∧ True) ⟨h0, rfl, rfl, trivial⟩ (fun ρ ⟨h0, h6, h7, _⟩ => ?_)
    refine ago_regE (rfl : C74_13 = .region 4 R74_4 false) (l := [0, 1, 2, 3, 4, 5]) rfl ?_
    refine lj 49 R74_4_N rfl rfl rfl (opv_move rfl rfl h6) ?_
    refine lj 50 R74_4_N rfl rfl rfl (opv_lenS rfl rfl rfl underlying9 rfl) ?_
    refine lj 51 R74_4_N rfl rfl rfl (opv_move rfl rfl h7) ?_
    refine lj 52 R74_4_N rfl rfl rfl (opv_lenS rfl rfl rfl underlying9 rfl) ?_
    refine lj 53 R74_4_N rfl rfl rfl (opv_add rfl rfl rfl rfl rfl) ?_
    refine lj 54 R74_4_N rfl rfl rfl (opv_gt rfl rfl rfl rfl rfl) ?_
    refine aops_nil ?_
    refine ago_condE  (rfl : C74_14 = .cond (.tmp 54) C74_15 C74_16) rfl rfl (fun hb112 => ?_) (fun hb112 => ?_)
    · replace H := cnd_t H hb112
      refine ago_regE (rfl : C74_15 = .region 5 R74_5 false) (l := [0, 1, 2]) rfl ?_
      refine lj 55 R74_5_N rfl rfl rfl (ov_bld (r := [.string (⟨#[108, 111, 110, 103]⟩ : ByteArray)]) rfl rfl bo116 (mp_cons rfl rfl) (fillP rfl rfl rfl rfl (fillN rfl))) ?_
      refine lj 56 R74_5_N rfl rfl rfl (opv_mkIface rfl rfl underlying116 rfl rfl) ?_
      exact aops_panic R74_5_N rfl rfl (opp_panic rfl rfl rfl) ⟨rfl, H⟩
    replace H := cnd_f H hb112
    refine ago_skipE (rfl : C74_16 = .skip) ?_
    refine ago_seqE (rfl : C74_17 = .seq C74_18 C74_19) ?_
    refine ago_regE (rfl : C74_18 = .region 6 R74_6 false) (l := [0, 1, 2, 3, 4]) rfl ?_
    refine lj 57 R74_6_N rfl rfl rfl (opv_move rfl rfl h0) ?_
    refine lj 58 R74_6_N rfl rfl rfl (opv_move rfl rfl h6) ?_
    refine lj 59 R74_6_N rfl rfl rfl (opv_move rfl rfl h7) ?_
    obtain ⟨hz113, H⟩ := H
    refine lj 60 R74_6_N rfl rfl rfl (opv_cat rfl rfl rfl rfl rfl hz113) ?_
    refine lc 61 R74_6_N rfl rfl rfl (opc_of rfl rfl is69 (ma_cons rfl (ma_cons rfl rfl))) H (fun _ _ h => ⟨rfl, h⟩) fun r114 aw115 H => ?_
    refine aops_nil ?_
    refine ago_seqE (rfl : C74_19 = .seq C74_20 C74_21) ?_
    refine ago_regE (rfl : C74_20 = .region 7 R74_7 false) (l := [0, 1, 2]) rfl ?_
    refine lj 62 R74_7_N rfl rfl rfl (opv_move rfl rfl h0) ?_
    refine lc 63 R74_7_N rfl rfl rfl (opc_of rfl rfl is37 (ma_cons rfl rfl)) H (fun _ _ h => ⟨rfl, h⟩) fun r116 aw117 H => ?_
    refine lj 8 R74_7_N rfl rfl rfl (opv_assign rfl rfl rfl) ?_
    refine aops_nil ?_
    refine ago_seqE (rfl : C74_21 = .seq C74_22 C74_23) ?_
    refine ago_cut (fun ρ => ρ 0 = m_0 ∧ ρ 8 = .int .u64 r116 ∧ True) ⟨h0, rfl, trivial⟩ (fun ρ ⟨h0, h8, _⟩ => ?_)
    obtain ⟨hp118, H⟩ := H
    obtain ⟨b120, i121, p119, hp122, hv123, H⟩ := H
    obtain ⟨b124, i125, x127, hp126, hg128, H⟩ := H
    obtain ⟨hp129, H⟩ := H
    obtain ⟨b131, i132, p130, hp133, hv134, H⟩ := H
    obtain ⟨b135, i136, x138, hp137, hg139, H⟩ := H
    obtain ⟨q141, l142, c143, n140, hv144, hn145, H⟩ := H
    obtain ⟨v146, hq147, H⟩ := H
    obtain ⟨hp148, H⟩ := H
    obtain ⟨b150, i151, p149, hp152, hv153, H⟩ := H
    refine ago_drawH (p := [0, 1, 2, 3, 4, 5, 6, 7, 8, 9, 10, 11, 12, 13]) (tl := [(14, [], [])]) (hv := [(0, m_0), (1, m_0), (2, m_0), (3, p119), (4, x127), (5, m_0), (6, m_0), (7, p130), (8, x138), (9, Value.int .i64 n140), (10, Value.int .i64 (IntKind.i64.wrap (n140 - 2))), (11, v146), (12, m_0), (13, p149)]) (rfl : C74_22 = .region 8 R74_8 true) mixed R74_8_N R74_8_O rfl (pv_cons rfl (pv_cons rfl (pv_cons rfl (pv_cons rfl (pv_cons rfl (pv_cons rfl (pv_cons rfl (pv_cons rfl (pv_cons rfl (pv_cons rfl (pv_cons rfl (pv_cons rfl (pv_cons rfl (pv_cons rfl (pv_nil _)))))))))))))))
      (fc 64 m_0 (hd_v rfl fun ρ hρ => ⟨rfl, opv_move rfl rfl ((hρ 0 (lmem rfl)).trans h0)⟩) rfl rfl
      (fc 65 m_0 (hd_v rfl fun ρ hρ => ⟨rfl, opv_move rfl rfl ((hρ 0 (lmem rfl)).trans h0)⟩) rfl rfl
      (fc 66 m_0 (hd_v rfl fun ρ hρ => ⟨rfl, ov_nck rfl rfl ((hρ 65 (lmem rfl)).trans rfl) hp118⟩) rfl rfl
      (fc 67 p119 (hd_v rfl fun ρ hρ => ⟨rfl, ov_fldA rfl rfl underlying77 rfl sz62 (by decide) ((hρ 66 (lmem rfl)).trans rfl) hp122 rfl hv123⟩) rfl rfl
      (fc 68 x127 (hd_v rfl fun ρ hρ => ⟨rfl, ov_ldV rfl underlying62 rfl rfl ((hρ 67 (lmem rfl)).trans rfl) hp126 hg128⟩) rfl rfl
      (fc 69 m_0 (hd_v rfl fun ρ hρ => ⟨rfl, opv_move rfl rfl ((hρ 0 (lmem rfl)).trans h0)⟩) rfl rfl
      (fc 70 m_0 (hd_v rfl fun ρ hρ => ⟨rfl, ov_nck rfl rfl ((hρ 69 (lmem rfl)).trans rfl) hp129⟩) rfl rfl
      (fc 71 p130 (hd_v rfl fun ρ hρ => ⟨rfl, ov_fldA rfl rfl underlying77 rfl sz62 (by decide) ((hρ 70 (lmem rfl)).trans rfl) hp133 rfl hv134⟩) rfl rfl
      (fc 72 x138 (hd_v rfl fun ρ hρ => ⟨rfl, ov_ldV rfl underlying62 rfl rfl ((hρ 71 (lmem rfl)).trans rfl) hp137 hg139⟩) rfl rfl
      (fc 73 (.int .i64 n140) (hd_v rfl fun ρ hρ => ⟨rfl, ov_len rfl rfl rfl underlying62 ((hρ 72 (lmem rfl)).trans rfl) hv144 hn145⟩) rfl rfl
      (fc 74 (.int .i64 (IntKind.i64.wrap (n140 - 2))) (hd_v rfl fun ρ hρ => ⟨rfl, opv_sub rfl rfl rfl ((hρ 73 (lmem rfl)).trans rfl) rfl⟩) rfl rfl
      (fc 75 v146 (hd_v rfl fun ρ hρ => ⟨rfl, ov_cutV rfl rfl underlying62 sz26 ((hρ 68 (lmem rfl)).trans rfl) (bndN _ _ _) (bndS ((hρ 74 (lmem rfl)).trans rfl)) hq147⟩) rfl rfl
      (fc 76 m_0 (hd_v rfl fun ρ hρ => ⟨rfl, ov_nck rfl rfl ((hρ 64 (lmem rfl)).trans rfl) hp148⟩) rfl rfl
      (fc 77 p149 (hd_v rfl fun ρ hρ => ⟨rfl, ov_fldA rfl rfl underlying77 rfl sz62 (by decide) ((hρ 76 (lmem rfl)).trans rfl) hp152 rfl hv153⟩) rfl rfl
      ffn)))))))))))))) ?_
    obtain ⟨b155, i156, aw154, hp157, hw158, ho159, ha160, H⟩ := H
    refine lt_val (dt := none) (v := undef) rfl rfl (fun ρ hρ => ⟨rfl, ov_st rfl rfl rfl ((hρ 77 (lmem rfl)).trans rfl) ((hρ 75 (lmem rfl)).trans rfl) (cells_all ho159) sz62 hp157 hw158 ho159 ha160⟩) ?_
    refine lt_next (l := []) (hv := []) rfl rfl (pv_nil _)
      ffn ?_
    refine lt_end ?_
    refine ago_seqE (rfl : C74_23 = .seq C74_24 C74_25) ?_
    refine ago_cut (fun ρ => ρ 0 = m_0 ∧ ρ 8 = .int .u64 r116 ∧ True) ⟨h0, h8, trivial⟩ (fun ρ ⟨h0, h8, _⟩ => ?_)
    refine ago_regE (rfl : C74_24 = .region 9 R74_9 false) (l := [0, 1, 2]) rfl ?_
    refine lj 78 R74_9_N rfl rfl rfl (opv_move rfl rfl h0) ?_
    refine lj 79 R74_9_N rfl rfl rfl (opv_move rfl rfl h8) ?_
    refine lc 80 R74_9_N rfl rfl rfl (opc_of rfl rfl is34 (ma_cons rfl (ma_cons rfl rfl))) H (fun _ _ h => ⟨rfl, h⟩) fun r161 aw162 H => ?_
    refine aops_nil ?_
    exact ago_retE (rfl : C74_25 = .ret) (r := ()) (ares_0 rfl ) rfl H
  replace H := cnd_f H hb85
  refine ago_seqE (rfl : C74_26 = .seq C74_27 C74_28) ?_
  refine ago_regE (rfl : C74_27 = .region 10 R74_10 false) (l := [0, 1]) rfl ?_
  refine lj 82 R74_10_N rfl rfl rfl (opv_eqI rfl rfl rfl rfl rfl) ?_
  refine lj 81 R74_10_N rfl rfl rfl (opv_assign rfl rfl rfl) ?_
  refine aops_nil ?_
  refine ago_condE  (rfl : C74_28 = .cond (.tmp 81) C74_29 C74_36) rfl rfl (fun hb163 => ?_) (fun hb163 => ?_)
  · exact (cnd_t H hb163).elim
  replace H := cnd_f H hb163
  refine ago_skipE (rfl : C74_36 = .skip) ?_
  refine ago_inBlock ?_
  refine ago_seqE (rfl : C74_37 = .seq C74_38 C74_39) ?_
  refine ago_regE (rfl : C74_38 = .region 14 R74_14 false) (l := [0, 1, 2, 3, 4, 5]) rfl ?_
  refine lj 107 R74_14_N rfl rfl rfl (opv_move rfl rfl h0) ?_
  refine lj 108 R74_14_N rfl rfl rfl (opv_move rfl rfl h1) ?_
  refine lj 109 R74_14_N rfl rfl rfl (opv_move rfl rfl h5) ?_
  refine lj 110 R74_14_N rfl rfl rfl (opv_move rfl rfl h4) ?_
  refine lc 111 R74_14_N rfl rfl rfl (opc_of rfl rfl is84 (ma_cons rfl (ma_cons rfl (ma_cons rfl (ma_cons rfl rfl))))) H (fun _ _ h => ⟨rfl, h⟩) fun r164 aw165 H => ?_
  refine lj 9 R74_14_N rfl rfl rfl (opv_assign rfl rfl rfl) ?_
  refine aops_nil ?_
  refine ago_seqE (rfl : C74_39 = .seq C74_40 C74_41) ?_
  obtain ⟨hp166, H⟩ := H
  obtain ⟨b168, i169, p167, hp170, hv171, H⟩ := H
  obtain ⟨b172, i173, x175, hp174, hg176, H⟩ := H
  obtain ⟨hp177, H⟩ := H
  obtain ⟨b179, i180, p178, hp181, hv182, H⟩ := H
  obtain ⟨b183, i184, x186, hp185, hg187, H⟩ := H
  obtain ⟨q189, l190, c191, n188, hv192, hn193, H⟩ := H
  obtain ⟨v194, hq195, H⟩ := H
  obtain ⟨hp196, H⟩ := H
  obtain ⟨b198, i199, p197, hp200, hv201, H⟩ := H
  refine ago_drawH (p := [0, 1, 2, 3, 4, 5, 6, 7, 8, 9, 10, 11, 12, 13]) (tl := [(14, [], [])]) (hv := [(0, m_0), (1, m_0), (2, m_0), (3, p167), (4, x175), (5, m_0), (6, m_0), (7, p178), (8, x186), (9, Value.int .i64 n188), (10, Value.int .i64 (IntKind.i64.wrap (n188 - 2))), (11, v194), (12, m_0), (13, p197)]) (rfl : C74_40 = .region 15 R74_15 true) mixed R74_15_N R74_15_O rfl (pv_cons rfl (pv_cons rfl (pv_cons rfl (pv_cons rfl (pv_cons rfl (pv_cons rfl (pv_cons rfl (pv_cons rfl (pv_cons rfl (pv_cons rfl (pv_cons rfl (pv_cons rfl (pv_cons rfl (pv_cons rfl (pv_nil _)))))))))))))))
    (fc 112 m_0 (hd_v rfl fun ρ hρ => ⟨rfl, opv_move rfl rfl ((hρ 0 (lmem rfl)).trans h0)⟩) rfl rfl
    (fc 113 m_0 (hd_v rfl fun ρ hρ => ⟨rfl, opv_move rfl rfl ((hρ 0 (lmem rfl)).trans h0)⟩) rfl rfl
    (fc 114 m_0 (hd_v rfl fun ρ hρ => ⟨rfl, ov_nck rfl rfl ((hρ 113 (lmem rfl)).trans rfl) hp166⟩) rfl rfl
    (fc 115 p167 (hd_v rfl fun ρ hρ => ⟨rfl, ov_fldA rfl rfl underlying77 rfl sz62 (by decide) ((hρ 114 (lmem rfl)).trans rfl) hp170 rfl hv171⟩) rfl rfl
    (fc 116 x175 (hd_v rfl fun ρ hρ => ⟨rfl, ov_ldV rfl underlying62 rfl rfl ((hρ 115 (lmem rfl)).trans rfl) hp174 hg176⟩) rfl rfl
    (fc 117 m_0 (hd_v rfl fun ρ hρ => ⟨rfl, opv_move rfl rfl ((hρ 0 (lmem rfl)).trans h0)⟩) rfl rfl
    (fc 118 m_0 (hd_v rfl fun ρ hρ => ⟨rfl, ov_nck rfl rfl ((hρ 117 (lmem rfl)).trans rfl) hp177⟩) rfl rfl
    (fc 119 p178 (hd_v rfl fun ρ hρ => ⟨rfl, ov_fldA rfl rfl underlying77 rfl sz62 (by decide) ((hρ 118 (lmem rfl)).trans rfl) hp181 rfl hv182⟩) rfl rfl
    (fc 120 x186 (hd_v rfl fun ρ hρ => ⟨rfl, ov_ldV rfl underlying62 rfl rfl ((hρ 119 (lmem rfl)).trans rfl) hp185 hg187⟩) rfl rfl
    (fc 121 (.int .i64 n188) (hd_v rfl fun ρ hρ => ⟨rfl, ov_len rfl rfl rfl underlying62 ((hρ 120 (lmem rfl)).trans rfl) hv192 hn193⟩) rfl rfl
    (fc 122 (.int .i64 (IntKind.i64.wrap (n188 - 2))) (hd_v rfl fun ρ hρ => ⟨rfl, opv_sub rfl rfl rfl ((hρ 121 (lmem rfl)).trans rfl) rfl⟩) rfl rfl
    (fc 123 v194 (hd_v rfl fun ρ hρ => ⟨rfl, ov_cutV rfl rfl underlying62 sz26 ((hρ 116 (lmem rfl)).trans rfl) (bndN _ _ _) (bndS ((hρ 122 (lmem rfl)).trans rfl)) hq195⟩) rfl rfl
    (fc 124 m_0 (hd_v rfl fun ρ hρ => ⟨rfl, ov_nck rfl rfl ((hρ 112 (lmem rfl)).trans rfl) hp196⟩) rfl rfl
    (fc 125 p197 (hd_v rfl fun ρ hρ => ⟨rfl, ov_fldA rfl rfl underlying77 rfl sz62 (by decide) ((hρ 124 (lmem rfl)).trans rfl) hp200 rfl hv201⟩) rfl rfl
    ffn)))))))))))))) ?_
  obtain ⟨b203, i204, aw202, hp205, hw206, ho207, ha208, H⟩ := H
  refine lt_val (dt := none) (v := undef) rfl rfl (fun ρ hρ => ⟨rfl, ov_st rfl rfl rfl ((hρ 125 (lmem rfl)).trans rfl) ((hρ 123 (lmem rfl)).trans rfl) (cells_all ho207) sz62 hp205 hw206 ho207 ha208⟩) ?_
  refine lt_next (l := []) (hv := []) rfl rfl (pv_nil _)
    ffn ?_
  refine lt_end ?_
  refine ago_cut (fun ρ => ρ 0 = m_0 ∧ ρ 9 = .int .u64 r164 ∧ True) ⟨h0, rfl, trivial⟩ (fun ρ ⟨h0, h9, _⟩ => ?_)
  refine ago_regE (rfl : C74_41 = .region 16 R74_16 false) (l := [0, 1, 2]) rfl ?_
  refine lj 126 R74_16_N rfl rfl rfl (opv_move rfl rfl h0) ?_
  refine lj 127 R74_16_N rfl rfl rfl (opv_move rfl rfl h9) ?_
  refine lc 128 R74_16_N rfl rfl rfl (opc_of rfl rfl is34 (ma_cons rfl (ma_cons rfl rfl))) H (fun _ _ h => ⟨rfl, h⟩) fun r209 aw210 H => ?_
  refine aops_nil ?_
  exact ago_nilR (r := ()) (ares_0 rfl ) rfl H
theorem F74_ok {Q : Unit → AW → Prop} {E : List PanicEntry → AW → Prop} (m_0 : Value) (sign_1 : Int) (aw : AW) (H : S74_0 Q E m_0 sign_1 aw) : CallP prog 74 [m_0, .int .i64 sign_1] aw sh74 Q E :=
  callP_of func74 C74_is rfl (Nat.le_of_ble_eq_true rfl) (S74_0_ok Q E _ m_0 sign_1 aw rfl rfl H)
def C75_0 := bodyOf f75
theorem C75_is : f75.body = some C75_0 := by kernel_rfl
def C75_1 := cl C75_0
def R75_0 := regOps C75_1
def C75_2 := cr C75_0
def C75_3 := cl C75_2
def R75_1 := regOps C75_3
def C75_4 := cr C75_2
def C75_5 := cl C75_4
def R75_2 := regOps C75_5
def C75_6 := cr C75_4
def C75_7 := cl C75_6
def C75_8 := cl C75_7
def R75_3 := regOps C75_8
def C75_9 := cr C75_7
def C75_10 := cl C75_9
def C75_19 := cr C75_9
def C75_20 := cl C75_19
def R75_8 := regOps C75_20
def C75_21 := cr C75_19
def C75_22 := cl C75_21
def C75_23 := cr C75_21
def C75_24 := cl C75_23
def R75_10 := regOps C75_24
def C75_25 := cr C75_23
def C75_26 := cl C75_25
def R75_11 := regOps C75_26
def C75_27 := cr C75_25
theorem R75_0_N : dstsOk 91 R75_0 = true := by decide +kernel
theorem R75_1_N : dstsOk 91 R75_1 = true := by decide +kernel
theorem R75_2_N : dstsOk 91 R75_2 = true := by decide +kernel
theorem R75_3_N : dstsOk 91 R75_3 = true := by decide +kernel
theorem R75_8_N : dstsOk 91 R75_8 = true := by decide +kernel
theorem R75_10_N : dstsOk 91 R75_10 = true := by decide +kernel
theorem R75_11_N : dstsOk 91 R75_11 = true := by decide +kernel
theorem R75_11_O : linOk R75_11 [0, 1, 2, 3, 4, 5] [(6, [0], [7, 8, 9, 10, 11, 12, 13, 15, 16]), (14, [0, 15, 16], [17, 18]), (19, [0], []), (20, [], [])] = true := by decide +kernel
def S75_0 (Q : Unit → AW → Prop) (E : List PanicEntry → AW → Prop)  (m_0 : Value) (i_1_0 : Int) (i_1_1 : Int) (i_1_2 : Int) (i_1_3 : ByteArray) (aw : AW) : Prop :=
  alc aw [.int .u8 i_1_0, .int .i64 i_1_1, .int .i64 i_1_2, .string i_1_3] 34 0 fun p5 aw6 =>
  CallP prog 37 [m_0] aw6 sh37 (fun r9 aw10 =>
  fldA p5 0 fun p11 =>
  ldI .u8 aw10 p11 fun x19 =>
  cnd (decide (x19 = 11)) (False) (cnd (decide (x19 = 14)) (False) (cnd (decide (x19 = 15)) (nck m_0 (fldA m_0 0 fun p25 =>
  ldV aw10 p25 fun x33 =>
  CallP prog 38 [x33, .int .u64 r9] aw10 sh38 (fun r35 aw36 =>
  cnd (decide (r35 = 3)) (nck m_0 (fldA m_0 0 fun p39 =>
  ldV aw36 p39 fun x47 =>
  fldA p5 3 fun p49 =>
  ldS aw36 p49 fun x57 =>
  CallP prog 19 [x47, .int .u64 r9] aw36 sh19 (fun r59 aw60 =>
  again1 aw60 p49 (.string x57) ∧ CallP prog 85 [.bool (decide (r59 = x57))] aw60 sh85 (fun r61 aw62 =>
  CallP prog 34 [m_0, .int .u64 r61] aw62 sh34 (fun r63 aw64 =>
  Q () aw64) E) E) E)) (CallP prog 85 [.bool false] aw36 sh85 (fun r65 aw66 =>
  CallP prog 34 [m_0, .int .u64 r65] aw66 sh34 (fun r67 aw68 =>
  Q () aw68) E) E)) E)) (False)))) E
theorem S75_0_ok (Q : Unit → AW → Prop) (E : List PanicEntry → AW → Prop)  (ρ : Env) (m_0 : Value) (i_1_0 : Int) (i_1_1 : Int) (i_1_2 : Int) (i_1_3 : ByteArray) (aw : AW) (h0 : ρ 0 = m_0) (h1 : ρ 1 = .agg #[.int .u8 i_1_0, .int .i64 i_1_1, .int .i64 i_1_2, .string i_1_3]) (H : S75_0 Q E  m_0 i_1_0 i_1_1 i_1_2 i_1_3 aw) :
    AGo prog 91 [.code C75_0] ρ [] aw (RR prog f75 91 sh75 Q E) := by
  unfold S75_0 at H
  refine ago_seqE (rfl : C75_0 = .seq C75_1 C75_2) ?_
  refine ago_regE (rfl : C75_1 = .region 0 R75_0 false) (l := [0]) rfl ?_
  obtain ⟨p5, aw6, hp7, ha8, H⟩ := H
  refine lj 3 R75_0_N rfl rfl rfl (ov_box rfl rfl h1 rfl hp7 ha8) ?_
  refine aops_nil ?_
  refine ago_seqE (rfl : C75_2 = .seq C75_3 C75_4) ?_
  refine ago_regE (rfl : C75_3 = .region 1 R75_1 false) (l := [0, 1, 2]) rfl ?_
  refine lj 6 R75_1_N rfl rfl rfl (opv_move rfl rfl h0) ?_
  refine lc 7 R75_1_N rfl rfl rfl (opc_of rfl rfl is37 (ma_cons rfl rfl)) H (fun _ _ h => ⟨rfl, h⟩) fun r9 aw10 H => ?_
  refine lj 4 R75_1_N rfl rfl rfl (opv_assign rfl rfl rfl) ?_
  refine aops_nil ?_
  refine ago_seqE (rfl : C75_4 = .seq C75_5 C75_6) ?_
  refine ago_regE (rfl : C75_5 = .region 2 R75_2 false) (l := [0, 1]) rfl ?_
  obtain ⟨b12, i13, p11, hp14, hv15, H⟩ := H
  refine lj 8 R75_2_N rfl rfl rfl (ov_fldA rfl rfl underlying34 rfl sz5 (by decide) rfl hp14 rfl hv15) ?_
  obtain ⟨b16, i17, x19, hp18, hg20, H⟩ := H
  refine lj 9 R75_2_N rfl rfl rfl (ov_ldI rfl underlying5 rfl rfl hp18 hg20) ?_
  refine aops_nil ?_
  refine ago_blockE (rfl : C75_6 = .block 0 C75_7) ?_
  refine ago_seqE (rfl : C75_7 = .seq C75_8 C75_9) ?_
  refine ago_regE (rfl : C75_8 = .region 3 R75_3 false) (l := [0, 1]) rfl ?_
  refine lj 11 R75_3_N rfl rfl rfl (opv_eqI rfl rfl rfl rfl rfl) ?_
  refine lj 10 R75_3_N rfl rfl rfl (opv_assign rfl rfl rfl) ?_
  refine aops_nil ?_
  refine ago_condE  (rfl : C75_9 = .cond (.tmp 10) C75_10 C75_19) rfl rfl (fun hb21 => ?_) (fun hb21 => ?_)
  · exact (cnd_t H hb21).elim
  replace H := cnd_f H hb21
  refine ago_seqE (rfl : C75_19 = .seq C75_20 C75_21) ?_
  refine ago_regE (rfl : C75_20 = .region 8 R75_8 false) (l := [0, 1]) rfl ?_
  refine lj 30 R75_8_N rfl rfl rfl (opv_eqI rfl rfl rfl rfl rfl) ?_
  refine lj 29 R75_8_N rfl rfl rfl (opv_assign rfl rfl rfl) ?_
  refine aops_nil ?_
  refine ago_condE  (rfl : C75_21 = .cond (.tmp 29) C75_22 C75_23) rfl rfl (fun hb22 => ?_) (fun hb22 => ?_)
  · exact (cnd_t H hb22).elim
  replace H := cnd_f H hb22
  refine ago_seqE (rfl : C75_23 = .seq C75_24 C75_25) ?_
  refine ago_regE (rfl : C75_24 = .region 10 R75_10 false) (l := [0, 1]) rfl ?_
  refine lj 40 R75_10_N rfl rfl rfl (opv_eqI rfl rfl rfl rfl rfl) ?_
  refine lj 39 R75_10_N rfl rfl rfl (opv_assign rfl rfl rfl) ?_
  refine aops_nil ?_
  refine ago_condE  (rfl : C75_25 = .cond (.tmp 39) C75_26 C75_27) rfl rfl (fun hb23 => ?_) (fun hb23 => ?_)
  · replace H := cnd_t H hb23
    refine ago_cut (fun ρ => ρ 0 = m_0 ∧ ρ 3 = p5 ∧ ρ 4 = .int .u64 r9 ∧ True) ⟨h0, rfl, rfl, trivial⟩ (fun ρ ⟨h0, h3, h4, _⟩ => ?_)
    obtain ⟨hp24, H⟩ := H
    obtain ⟨b26, i27, p25, hp28, hv29, H⟩ := H
    obtain ⟨b30, i31, x33, hp32, hg34, H⟩ := H
    refine ago_drawH (p := [0, 1, 2, 3, 4, 5]) (tl := [(6, [0], [7, 8, 9, 10, 11, 12, 13, 15, 16]), (14, [0, 15, 16], [17, 18]), (19, [0], []), (20, [], [])]) (hv := [(0, m_0), (1, m_0), (2, m_0), (3, p25), (4, x33), (5, Value.int .u64 r9)]) (rfl : C75_26 = .region 11 R75_11 true) mixed R75_11_N R75_11_O rfl (pv_cons rfl (pv_cons rfl (pv_cons rfl (pv_cons rfl (pv_cons rfl (pv_cons rfl (pv_nil _)))))))
      (fc 41 m_0 (hd_v rfl fun ρ hρ => ⟨rfl, opv_move rfl rfl ((hρ 0 (lmem rfl)).trans h0)⟩) rfl rfl
      (fc 42 m_0 (hd_v rfl fun ρ hρ => ⟨rfl, opv_move rfl rfl ((hρ 0 (lmem rfl)).trans h0)⟩) rfl rfl
      (fc 43 m_0 (hd_v rfl fun ρ hρ => ⟨rfl, ov_nck rfl rfl ((hρ 42 (lmem rfl)).trans rfl) hp24⟩) rfl rfl
      (fc 44 p25 (hd_v rfl fun ρ hρ => ⟨rfl, ov_fldA rfl rfl underlying77 rfl sz50 (by decide) ((hρ 43 (lmem rfl)).trans rfl) hp28 rfl hv29⟩) rfl rfl
      (fc 45 x33 (hd_v rfl fun ρ hρ => ⟨rfl, ov_ldV rfl underlying50 rfl rfl ((hρ 44 (lmem rfl)).trans rfl) hp32 hg34⟩) rfl rfl
      (fc 46 (.int .u64 r9) (hd_v rfl fun ρ hρ => ⟨rfl, opv_move rfl rfl ((hρ 4 (lmem rfl)).trans h4)⟩) rfl rfl
      ffn)))))) ?_
    refine lt_call (dt := some 47) rfl rfl (fun ρ hρ => ⟨rfl, opc_of rfl rfl is38 (ma_cons ((hρ 45 (lmem rfl)).trans rfl) (ma_cons ((hρ 46 (lmem rfl)).trans rfl) rfl))⟩) H (fun _ _ h _ => ⟨rfl, h⟩) fun r35 aw36 H => ?_
    rcases Bool.eq_false_or_eq_true (decide (r35 = 3)) with hb37 | hb37
    · replace H := cnd_t H hb37
      obtain ⟨hp38, H⟩ := H
      obtain ⟨b40, i41, p39, hp42, hv43, H⟩ := H
      obtain ⟨b44, i45, x47, hp46, hg48, H⟩ := H
      obtain ⟨b50, i51, p49, hp52, hv53, H⟩ := H
      obtain ⟨b54, i55, x57, hp56, hg58, H⟩ := H
      refine lt_next (l := [0, 7, 8, 9, 10, 11, 12, 13, 15, 16]) (hv := [(7, Value.bool (decide (r35 = 3))), (8, Value.bool (decide (r35 = 3))), (9, m_0), (10, m_0), (11, p39), (12, x47), (13, Value.int .u64 r9), (15, p49), (16, Value.string x57)]) rfl rfl (pv_cons rfl (pv_cons rfl (pv_cons rfl (pv_cons rfl (pv_cons rfl (pv_cons rfl (pv_cons rfl (pv_cons rfl (pv_cons rfl (pv_nil _))))))))))
        (fc 41 m_0 (hd_v rfl fun ρ hρ => ⟨rfl, opv_move rfl rfl ((hρ 0 (lmem rfl)).trans h0)⟩) rfl rfl
        (fc 48 (.bool (decide (r35 = 3))) (hd_v rfl fun ρ hρ => ⟨rfl, opv_eqI rfl rfl rfl ((hρ 47 (lmem rfl)).trans rfl) rfl⟩) rfl rfl
        (fc 49 (.bool (decide (r35 = 3))) (hd_v rfl fun ρ hρ => ⟨rfl, opv_move rfl rfl ((hρ 48 (lmem rfl)).trans rfl)⟩) rfl rfl
        (fc 50 m_0 (hd_v rfl fun ρ hρ => ⟨⟨_, rfl, .inl ⟨_, ((hρ 49 (lmem rfl)).trans rfl), gq hb37 rfl⟩⟩, opv_move rfl rfl ((hρ 0 (lmem rfl)).trans h0)⟩) rfl rfl
        (fc 51 m_0 (hd_v rfl fun ρ hρ => ⟨⟨_, rfl, .inl ⟨_, ((hρ 49 (lmem rfl)).trans rfl), gq hb37 rfl⟩⟩, ov_nck rfl rfl ((hρ 50 (lmem rfl)).trans rfl) hp38⟩) rfl rfl
        (fc 52 p39 (hd_v rfl fun ρ hρ => ⟨⟨_, rfl, .inl ⟨_, ((hρ 49 (lmem rfl)).trans rfl), gq hb37 rfl⟩⟩, ov_fldA rfl rfl underlying77 rfl sz50 (by decide) ((hρ 51 (lmem rfl)).trans rfl) hp42 rfl hv43⟩) rfl rfl
        (fc 53 x47 (hd_v rfl fun ρ hρ => ⟨⟨_, rfl, .inl ⟨_, ((hρ 49 (lmem rfl)).trans rfl), gq hb37 rfl⟩⟩, ov_ldV rfl underlying50 rfl rfl ((hρ 52 (lmem rfl)).trans rfl) hp46 hg48⟩) rfl rfl
        (fc 54 (.int .u64 r9) (hd_v rfl fun ρ hρ => ⟨⟨_, rfl, .inl ⟨_, ((hρ 49 (lmem rfl)).trans rfl), gq hb37 rfl⟩⟩, opv_move rfl rfl ((hρ 4 (lmem rfl)).trans h4)⟩) rfl rfl
        (fc 56 p49 (hd_v rfl fun ρ hρ => ⟨⟨_, rfl, .inl ⟨_, ((hρ 49 (lmem rfl)).trans rfl), gq hb37 rfl⟩⟩, ov_fldA rfl rfl underlying34 rfl sz9 (by decide) ((hρ 3 (lmem rfl)).trans h3) hp52 rfl hv53⟩) rfl rfl
        (fc 57 (.string x57) (hd_v rfl fun ρ hρ => ⟨⟨_, rfl, .inl ⟨_, ((hρ 49 (lmem rfl)).trans rfl), gq hb37 rfl⟩⟩, ov_ldS rfl underlying9 rfl ((hρ 56 (lmem rfl)).trans rfl) hp56 hg58⟩) rfl rfl
        ffn)))))))))) ?_
      refine lt_call (dt := some 55) rfl rfl (fun ρ hρ => ⟨⟨_, rfl, .inl ⟨_, ((hρ 49 (lmem rfl)).trans rfl), gq hb37 rfl⟩⟩, opc_of rfl rfl is19 (ma_cons ((hρ 53 (lmem rfl)).trans rfl) (ma_cons ((hρ 54 (lmem rfl)).trans rfl) rfl))⟩) H (fun _ _ h _ => ⟨rfl, h⟩) fun r59 aw60 H => ?_
      obtain ⟨hg58, H⟩ := H
      replace hg58 := hg58 _ _ hp56
      refine lt_next (l := [0, 15, 16, 17, 18]) (hv := [(17, Value.bool (decide (r59 = x57))), (18, Value.bool (decide (r59 = x57)))]) rfl rfl (pv_cons rfl (pv_cons rfl (pv_nil _)))
        (fc 41 m_0 (hd_v rfl fun ρ hρ => ⟨rfl, opv_move rfl rfl ((hρ 0 (lmem rfl)).trans h0)⟩) rfl rfl
        (fc 56 p49 (hd_v rfl fun ρ hρ => ⟨⟨_, rfl, .inl ⟨_, ((hρ 49 (lmem rfl)).trans rfl), gq hb37 rfl⟩⟩, ov_fldA rfl rfl underlying34 rfl sz9 (by decide) ((hρ 3 (lmem rfl)).trans h3) hp52 rfl hv53⟩) rfl rfl
        (fc 57 (.string x57) (hd_v rfl fun ρ hρ => ⟨⟨_, rfl, .inl ⟨_, ((hρ 49 (lmem rfl)).trans rfl), gq hb37 rfl⟩⟩, ov_ldS rfl underlying9 rfl ((hρ 56 (lmem rfl)).trans rfl) hp56 hg58⟩) rfl rfl
        (fc 58 (.bool (decide (r59 = x57))) (hd_v rfl fun ρ hρ => ⟨⟨_, rfl, .inl ⟨_, ((hρ 49 (lmem rfl)).trans rfl), gq hb37 rfl⟩⟩, opv_eqS rfl rfl rfl ((hρ 55 (lmem rfl)).trans rfl) ((hρ 57 (lmem rfl)).trans rfl)⟩) rfl rfl
        (fc 59 (.bool (decide (r59 = x57))) (hd_v rfl fun ρ hρ => ⟨rfl, ov_pickT rfl rfl rfl rfl ((hρ 49 (lmem rfl)).trans rfl) hb37 ((hρ 58 (lmem rfl)).trans rfl)⟩) rfl rfl
        ffn))))) ?_
      refine lt_call (dt := some 60) rfl rfl (fun ρ hρ => ⟨rfl, opc_of rfl rfl is85 (ma_cons ((hρ 59 (lmem rfl)).trans rfl) rfl)⟩) H (fun _ _ h _ => ⟨rfl, h⟩) fun r61 aw62 H => ?_
      refine lt_next (l := [0]) (hv := []) rfl rfl (pv_nil _)
        (fc 41 m_0 (hd_v rfl fun ρ hρ => ⟨rfl, opv_move rfl rfl ((hρ 0 (lmem rfl)).trans h0)⟩) rfl rfl
        ffn) ?_
      refine lt_call (dt := some 61) rfl rfl (fun ρ hρ => ⟨rfl, opc_of rfl rfl is34 (ma_cons ((hρ 41 (lmem rfl)).trans rfl) (ma_cons ((hρ 60 (lmem rfl)).trans rfl) rfl))⟩) H (fun _ _ h _ => ⟨rfl, h⟩) fun r63 aw64 H => ?_
      refine lt_next (l := []) (hv := []) rfl rfl (pv_nil _)
        ffn ?_
      refine lt_end ?_
      refine ago_inBlock ?_
      exact ago_nilR (r := ()) (ares_0 rfl ) rfl H
    · replace H := cnd_f H hb37
      refine lt_next (l := [0, 7, 8, 9, 10, 11, 12, 13, 15, 16]) (hv := [(7, Value.bool (decide (r35 = 3))), (8, Value.bool (decide (r35 = 3))), (9, undef), (10, undef), (11, undef), (12, undef), (13, undef), (15, undef), (16, undef)]) rfl rfl (pv_cons rfl (pv_cons rfl (pv_cons rfl (pv_cons rfl (pv_cons rfl (pv_cons rfl (pv_cons rfl (pv_cons rfl (pv_cons rfl (pv_nil _))))))))))
        (fc 41 m_0 (hd_v rfl fun ρ hρ => ⟨rfl, opv_move rfl rfl ((hρ 0 (lmem rfl)).trans h0)⟩) rfl rfl
        (fc 48 (.bool (decide (r35 = 3))) (hd_v rfl fun ρ hρ => ⟨rfl, opv_eqI rfl rfl rfl ((hρ 47 (lmem rfl)).trans rfl) rfl⟩) rfl rfl
        (fc 49 (.bool (decide (r35 = 3))) (hd_v rfl fun ρ hρ => ⟨rfl, opv_move rfl rfl ((hρ 48 (lmem rfl)).trans rfl)⟩) rfl rfl
        (fc 50 undef (hd_s rfl (fun ρ hρ => ⟨_, rfl, .inl ⟨_, ((hρ 49 (lmem rfl)).trans rfl), gq hb37 rfl⟩⟩) rfl) rfl rfl
        (fc 51 undef (hd_s rfl (fun ρ hρ => ⟨_, rfl, .inl ⟨_, ((hρ 49 (lmem rfl)).trans rfl), gq hb37 rfl⟩⟩) rfl) rfl rfl
        (fc 52 undef (hd_s rfl (fun ρ hρ => ⟨_, rfl, .inl ⟨_, ((hρ 49 (lmem rfl)).trans rfl), gq hb37 rfl⟩⟩) rfl) rfl rfl
        (fc 53 undef (hd_s rfl (fun ρ hρ => ⟨_, rfl, .inl ⟨_, ((hρ 49 (lmem rfl)).trans rfl), gq hb37 rfl⟩⟩) rfl) rfl rfl
        (fc 54 undef (hd_s rfl (fun ρ hρ => ⟨_, rfl, .inl ⟨_, ((hρ 49 (lmem rfl)).trans rfl), gq hb37 rfl⟩⟩) rfl) rfl rfl
        (fc 56 undef (hd_s rfl (fun ρ hρ => ⟨_, rfl, .inl ⟨_, ((hρ 49 (lmem rfl)).trans rfl), gq hb37 rfl⟩⟩) rfl) rfl rfl
        (fc 57 undef (hd_s rfl (fun ρ hρ => ⟨_, rfl, .inl ⟨_, ((hρ 49 (lmem rfl)).trans rfl), gq hb37 rfl⟩⟩) rfl) rfl rfl
        ffn)))))))))) ?_
      refine lt_skip (dt := some 55) rfl rfl (fun ρ hρ => ⟨_, rfl, .inl ⟨_, ((hρ 49 (lmem rfl)).trans rfl), gq hb37 rfl⟩⟩) ?_
      refine lt_next (l := [0, 15, 16, 17, 18]) (hv := [(17, undef), (18, Value.bool false)]) rfl rfl (pv_cons rfl (pv_cons rfl (pv_nil _)))
        (fc 41 m_0 (hd_v rfl fun ρ hρ => ⟨rfl, opv_move rfl rfl ((hρ 0 (lmem rfl)).trans h0)⟩) rfl rfl
        (fc 56 undef (hd_s rfl (fun ρ hρ => ⟨_, rfl, .inl ⟨_, ((hρ 49 (lmem rfl)).trans rfl), gq hb37 rfl⟩⟩) rfl) rfl rfl
        (fc 57 undef (hd_s rfl (fun ρ hρ => ⟨_, rfl, .inl ⟨_, ((hρ 49 (lmem rfl)).trans rfl), gq hb37 rfl⟩⟩) rfl) rfl rfl
        (fc 58 undef (hd_s rfl (fun ρ hρ => ⟨_, rfl, .inl ⟨_, ((hρ 49 (lmem rfl)).trans rfl), gq hb37 rfl⟩⟩) rfl) rfl rfl
        (fc 59 (.bool false) (hd_v rfl fun ρ hρ => ⟨rfl, ov_pickF rfl rfl rfl rfl ((hρ 49 (lmem rfl)).trans rfl) hb37 rfl⟩) rfl rfl
        ffn))))) ?_
      refine lt_call (dt := some 60) rfl rfl (fun ρ hρ => ⟨rfl, opc_of rfl rfl is85 (ma_cons ((hρ 59 (lmem rfl)).trans rfl) rfl)⟩) H (fun _ _ h _ => ⟨rfl, h⟩) fun r65 aw66 H => ?_
      refine lt_next (l := [0]) (hv := []) rfl rfl (pv_nil _)
        (fc 41 m_0 (hd_v rfl fun ρ hρ => ⟨rfl, opv_move rfl rfl ((hρ 0 (lmem rfl)).trans h0)⟩) rfl rfl
        ffn) ?_
      refine lt_call (dt := some 61) rfl rfl (fun ρ hρ => ⟨rfl, opc_of rfl rfl is34 (ma_cons ((hρ 41 (lmem rfl)).trans rfl) (ma_cons ((hρ 60 (lmem rfl)).trans rfl) rfl))⟩) H (fun _ _ h _ => ⟨rfl, h⟩) fun r67 aw68 H => ?_
      refine lt_next (l := []) (hv := []) rfl rfl (pv_nil _)
        ffn ?_
      refine lt_end ?_
      refine ago_inBlock ?_
      exact ago_nilR (r := ()) (ares_0 rfl ) rfl H
  exact (cnd_f H hb23).elim
theorem F75_ok {Q : Unit → AW → Prop} {E : List PanicEntry → AW → Prop} (m_0 : Value) (i_1_0 : Int) (i_1_1 : Int) (i_1_2 : Int) (i_1_3 : ByteArray) (aw : AW) (H : S75_0 Q E m_0 i_1_0 i_1_1 i_1_2 i_1_3 aw) : CallP prog 75 [m_0, .agg #[.int .u8 i_1_0, .int .i64 i_1_1, .int .i64 i_1_2, .string i_1_3]] aw sh75 Q E :=
  callP_of func75 C75_is rfl (Nat.le_of_ble_eq_true rfl) (S75_0_ok Q E _ m_0 i_1_0 i_1_1 i_1_2 i_1_3 aw rfl rfl H)
def C81_0 := bodyOf f81
theorem C81_is : f81.body = some C81_0 := by kernel_rfl
def C81_1 := cl C81_0
def C81_2 := cl C81_1
def R81_0 := regOps C81_2
def C81_3 := cr C81_1
def C81_4 := cl C81_3
def R81_1 := regOps C81_4
def C81_5 := cr C81_3
def C81_6 := cr C81_0
def R81_2 := regOps C81_6
theorem R81_0_N : dstsOk 16 R81_0 = true := by decide +kernel
theorem R81_1_N : dstsOk 16 R81_1 = true := by decide +kernel
theorem R81_2_N : dstsOk 16 R81_2 = true := by decide +kernel
def S81_0 (Q : Unit → AW → Prop) (E : List PanicEntry → AW → Prop)  (m_0 : Value) (aw : AW) : Prop :=
  nck m_0 (fldA m_0 6 fun p2 =>
  ldI .i64 aw p2 fun x10 =>
  cnd (decide (x10 = 0)) (E [⟨(.iface 114 (.agg #[.int .i64 10])), false, false⟩] aw) (nck m_0 (fldA m_0 6 fun p14 =>
  ldI .i64 aw p14 fun x22 =>
  nck m_0 (fldA m_0 6 fun p25 =>
  st aw p25 [.int .i64 (IntKind.i64.wrap (x22 - 1))] fun aw30 =>
  Q () aw30))))
theorem S81_0_ok (Q : Unit → AW → Prop) (E : List PanicEntry → AW → Prop)  (ρ : Env) (m_0 : Value) (aw : AW) (h0 : ρ 0 = m_0) (H : S81_0 Q E  m_0 aw) :
    AGo prog 16 [.code C81_0] ρ [] aw (RR prog f81 16 sh81 Q E) := by
  unfold S81_0 at H
  refine ago_seqE (rfl : C81_0 = .seq C81_1 C81_6) ?_
  refine ago_seqE (rfl : C81_1 = .seq C81_2 C81_3) ?_
  refine ago_regE (rfl : C81_2 = .region 0 R81_0 false) (l := [0, 1, 2, 3, 4]) rfl ?_
  refine lj 2 R81_0_N rfl rfl rfl (opv_move rfl rfl h0) ?_
  obtain ⟨hp1, H⟩ := H
  refine lj 3 R81_0_N rfl rfl rfl (ov_nck rfl rfl rfl hp1) ?_
  obtain ⟨b3, i4, p2, hp5, hv6, H⟩ := H
  refine lj 4 R81_0_N rfl rfl rfl (ov_fldA rfl rfl underlying77 rfl sz3 (by decide) rfl hp5 rfl hv6) ?_
  obtain ⟨b7, i8, x10, hp9, hg11, H⟩ := H
  refine lj 5 R81_0_N rfl rfl rfl (ov_ldI rfl underlying3 rfl rfl hp9 hg11) ?_
  refine lj 6 R81_0_N rfl rfl rfl (opv_eqI rfl rfl rfl rfl rfl) ?_
  refine aops_nil ?_
  refine ago_condE  (rfl : C81_3 = .cond (.tmp 6) C81_4 C81_5) rfl rfl (fun hb12 => ?_) (fun hb12 => ?_)
  · replace H := cnd_t H hb12
    refine ago_regE (rfl : C81_4 = .region 1 R81_1 false) (l := [0, 1, 2]) rfl ?_
    refine lj 7 R81_1_N rfl rfl rfl (ov_bld (r := [.int .i64 10]) rfl rfl bo114 (mp_cons rfl rfl) (fillP rfl rfl rfl rfl (fillN rfl))) ?_
    refine lj 8 R81_1_N rfl rfl rfl (opv_mkIface rfl rfl underlying114 rfl rfl) ?_
    exact aops_panic R81_1_N rfl rfl (opp_panic rfl rfl rfl) ⟨rfl, H⟩
  replace H := cnd_f H hb12
  refine ago_skipE (rfl : C81_5 = .skip) ?_
  refine ago_regE (rfl : C81_6 = .region 2 R81_2 false) (l := [0, 1, 2, 3, 4, 5, 6, 7]) rfl ?_
  refine lj 9 R81_2_N rfl rfl rfl (opv_move rfl rfl h0) ?_
  obtain ⟨hp13, H⟩ := H
  refine lj 10 R81_2_N rfl rfl rfl (ov_nck rfl rfl rfl hp13) ?_
  obtain ⟨b15, i16, p14, hp17, hv18, H⟩ := H
  refine lj 11 R81_2_N rfl rfl rfl (ov_fldA rfl rfl underlying77 rfl sz3 (by decide) rfl hp17 rfl hv18) ?_
  obtain ⟨b19, i20, x22, hp21, hg23, H⟩ := H
  refine lj 12 R81_2_N rfl rfl rfl (ov_ldI rfl underlying3 rfl rfl hp21 hg23) ?_
  refine lj 13 R81_2_N rfl rfl rfl (opv_sub rfl rfl rfl rfl rfl) ?_
  obtain ⟨hp24, H⟩ := H
  refine lj 14 R81_2_N rfl rfl rfl (ov_nck rfl rfl rfl hp24) ?_
  obtain ⟨b26, i27, p25, hp28, hv29, H⟩ := H
  refine lj 15 R81_2_N rfl rfl rfl (ov_fldA rfl rfl underlying77 rfl sz3 (by decide) rfl hp28 rfl hv29) ?_
  obtain ⟨b31, i32, aw30, hp33, hw34, ho35, ha36, H⟩ := H
  refine lk (dt := none) R81_2_N rfl rfl rfl (ov_st rfl rfl rfl rfl rfl rfl sz3 hp33 hw34 ho35 ha36) ?_
  refine aops_nil ?_
  exact ago_nilR (r := ()) (ares_0 rfl ) rfl H
theorem F81_ok {Q : Unit → AW → Prop} {E : List PanicEntry → AW → Prop} (m_0 : Value) (aw : AW) (H : S81_0 Q E m_0 aw) : CallP prog 81 [m_0] aw sh81 Q E :=
  callP_of func81 C81_is rfl (Nat.le_of_ble_eq_true rfl) (S81_0_ok Q E _ m_0 aw rfl H)
def C82_0 := bodyOf f82
theorem C82_is : f82.body = some C82_0 := by kernel_rfl
def C82_1 := cl C82_0
def R82_0 := regOps C82_1
def C82_2 := cr C82_0
def C82_3 := cl C82_2
def C82_4 := cl C82_3
def R82_2 := regOps C82_4
def C82_5 := cr C82_3
def C82_6 := cl C82_5
def C82_7 := cr C82_5
def C82_8 := cl C82_7
def R82_4 := regOps C82_8
def C82_9 := cr C82_7
def C82_10 := cl C82_9
def C82_11 := cr C82_9
def C82_12 := cl C82_11
def C82_13 := cl C82_12
def R82_6 := regOps C82_13
def C82_14 := cr C82_12
def C82_15 := cl C82_14
def C82_16 := cr C82_14
def R82_7 := regOps C82_16
def C82_17 := cr C82_11
def C82_18 := cl C82_17
def C82_27 := cr C82_17
def C82_28 := cl C82_27
def R82_12 := regOps C82_28
def C82_29 := cr C82_27
def C82_30 := cl C82_29
def C82_31 := cr C82_29
def C82_32 := cl C82_31
def R82_14 := regOps C82_32
def C82_33 := cr C82_31
def C82_34 := cl C82_33
def C82_39 := cr C82_33
def C82_40 := cl C82_39
def R82_18 := regOps C82_40
def C82_41 := cr C82_39
def C82_42 := cl C82_41
def C82_45 := cr C82_41
def C82_46 := cl C82_45
def R82_21 := regOps C82_46
def C82_47 := cr C82_45
def C82_48 := cl C82_47
def R82_22 := regOps C82_48
def C82_49 := cr C82_47
theorem R82_0_N : dstsOk 114 R82_0 = true := by decide +kernel
theorem R82_2_N : dstsOk 114 R82_2 = true := by decide +kernel
theorem R82_4_N : dstsOk 114 R82_4 = true := by decide +kernel
theorem R82_6_N : dstsOk 114 R82_6 = true := by decide +kernel
theorem R82_7_N : dstsOk 114 R82_7 = true := by decide +kernel
theorem R82_12_N : dstsOk 114 R82_12 = true := by decide +kernel
theorem R82_14_N : dstsOk 114 R82_14 = true := by decide +kernel
theorem R82_18_N : dstsOk 114 R82_18 = true := by decide +kernel
theorem R82_21_N : dstsOk 114 R82_21 = true := by decide +kernel
theorem R82_22_N : dstsOk 114 R82_22 = true := by decide +kernel
def S82_1 (Q : Unit → AW → Prop) (E : List PanicEntry → AW → Prop)  (m_0 : Value) (k_1 : Int) (x_2 : Int) (t_7 : Int) (t_27 : Bool) (aw : AW) : Prop :=
  cnd t_27 (False) (cnd (decide (t_7 = 3)) (False) (cnd (decide (t_7 = 4)) (False) (cnd (decide (t_7 = 5)) (False) (cnd (decide (t_7 = 6)) (nck m_0 (fldA m_0 0 fun p7 =>
  ldV aw p7 fun x15 =>
  CallP prog 39 [x15, .int .u64 x_2] aw sh39 (fun r17 aw18 =>
  CallP prog 14 [.int .i64 r17] aw18 sh14 (fun r19 aw20 =>
  CallP prog 34 [m_0, .int .u64 r19] aw20 sh34 (fun r21 aw22 =>
  Q () aw22) E) E) E)) (False)))))
def S82_0 (Q : Unit → AW → Prop) (E : List PanicEntry → AW → Prop)  (m_0 : Value) (k_1 : Int) (x_2 : Int) (aw : AW) : Prop :=
  cnd (decide (k_1 = 0)) (False) (cnd (decide (k_1 = 1)) (False) (cnd (decide (k_1 = 2)) (False) (S82_1 Q E  m_0 k_1 x_2 k_1 (decide (k_1 = 7)) aw)))
theorem S82_1_ok (Q : Unit → AW → Prop) (E : List PanicEntry → AW → Prop)  (ρ : Env) (m_0 : Value) (k_1 : Int) (x_2 : Int) (t_7 : Int) (t_27 : Bool) (aw : AW) (h0 : ρ 0 = m_0) (h1 : ρ 1 = .int .i64 k_1) (h2 : ρ 2 = .int .u64 x_2) (h7 : ρ 7 = .int .i64 t_7) (h27 : ρ 27 = .bool t_27) (H : S82_1 Q E  m_0 k_1 x_2 t_7 t_27 aw) :
    AGo prog 114 [.code C82_17, .inBlock 0] ρ [] aw (RR prog f82 114 sh82 Q E) := by
  unfold S82_1 at H
  refine ago_condE  (rfl : C82_17 = .cond (.tmp 27) C82_18 C82_27) rfl h27 (fun hb1 => ?_) (fun hb1 => ?_)
  · exact (cnd_t H hb1).elim
  replace H := cnd_f H hb1
  refine ago_seqE (rfl : C82_27 = .seq C82_28 C82_29) ?_
  refine ago_regE (rfl : C82_28 = .region 12 R82_12 false) (l := [0, 1]) rfl ?_
  refine lj 60 R82_12_N rfl rfl rfl (opv_eqI rfl rfl rfl h7 rfl) ?_
  refine lj 59 R82_12_N rfl rfl rfl (opv_assign rfl rfl rfl) ?_
  refine aops_nil ?_
  refine ago_condE  (rfl : C82_29 = .cond (.tmp 59) C82_30 C82_31) rfl rfl (fun hb2 => ?_) (fun hb2 => ?_)
  · exact (cnd_t H hb2).elim
  replace H := cnd_f H hb2
  refine ago_seqE (rfl : C82_31 = .seq C82_32 C82_33) ?_
  refine ago_regE (rfl : C82_32 = .region 14 R82_14 false) (l := [0, 1]) rfl ?_
  refine lj 68 R82_14_N rfl rfl rfl (opv_eqI rfl rfl rfl h7 rfl) ?_
  refine lj 67 R82_14_N rfl rfl rfl (opv_assign rfl rfl rfl) ?_
  refine aops_nil ?_
  refine ago_condE  (rfl : C82_33 = .cond (.tmp 67) C82_34 C82_39) rfl rfl (fun hb3 => ?_) (fun hb3 => ?_)
  · exact (cnd_t H hb3).elim
  replace H := cnd_f H hb3
  refine ago_seqE (rfl : C82_39 = .seq C82_40 C82_41) ?_
  refine ago_regE (rfl : C82_40 = .region 18 R82_18 false) (l := [0, 1]) rfl ?_
  refine lj 97 R82_18_N rfl rfl rfl (opv_eqI rfl rfl rfl h7 rfl) ?_
  refine lj 96 R82_18_N rfl rfl rfl (opv_assign rfl rfl rfl) ?_
  refine aops_nil ?_
  refine ago_condE  (rfl : C82_41 = .cond (.tmp 96) C82_42 C82_45) rfl rfl (fun hb4 => ?_) (fun hb4 => ?_)
  · exact (cnd_t H hb4).elim
  replace H := cnd_f H hb4
  refine ago_seqE (rfl : C82_45 = .seq C82_46 C82_47) ?_
  refine ago_regE (rfl : C82_46 = .region 21 R82_21 false) (l := [0, 1]) rfl ?_
  refine lj 104 R82_21_N rfl rfl rfl (opv_eqI rfl rfl rfl h7 rfl) ?_
  refine lj 103 R82_21_N rfl rfl rfl (opv_assign rfl rfl rfl) ?_
  refine aops_nil ?_
  refine ago_condE  (rfl : C82_47 = .cond (.tmp 103) C82_48 C82_49) rfl rfl (fun hb5 => ?_) (fun hb5 => ?_)
  · replace H := cnd_t H hb5
    refine ago_regE (rfl : C82_48 = .region 22 R82_22 false) (l := [0, 1, 2, 3, 4, 5, 6, 7, 8]) rfl ?_
    refine lj 105 R82_22_N rfl rfl rfl (opv_move rfl rfl h0) ?_
    refine lj 106 R82_22_N rfl rfl rfl (opv_move rfl rfl h0) ?_
    obtain ⟨hp6, H⟩ := H
    refine lj 107 R82_22_N rfl rfl rfl (ov_nck rfl rfl rfl hp6) ?_
    obtain ⟨b8, i9, p7, hp10, hv11, H⟩ := H
    refine lj 108 R82_22_N rfl rfl rfl (ov_fldA rfl rfl underlying77 rfl sz50 (by decide) rfl hp10 rfl hv11) ?_
    obtain ⟨b12, i13, x15, hp14, hg16, H⟩ := H
    refine lj 109 R82_22_N rfl rfl rfl (ov_ldV rfl underlying50 rfl rfl rfl hp14 hg16) ?_
    refine lj 110 R82_22_N rfl rfl rfl (opv_move rfl rfl h2) ?_
    refine lc 111 R82_22_N rfl rfl rfl (opc_of rfl rfl is39 (ma_cons rfl (ma_cons rfl rfl))) H (fun _ _ h => ⟨rfl, h⟩) fun r17 aw18 H => ?_
    refine lc 112 R82_22_N rfl rfl rfl (opc_of rfl rfl is14 (ma_cons rfl rfl)) H (fun _ _ h => ⟨rfl, h⟩) fun r19 aw20 H => ?_
    refine lc 113 R82_22_N rfl rfl rfl (opc_of rfl rfl is34 (ma_cons rfl (ma_cons rfl rfl))) H (fun _ _ h => ⟨rfl, h⟩) fun r21 aw22 H => ?_
    refine aops_nil ?_
    refine ago_inBlock ?_
    exact ago_nilR (r := ()) (ares_0 rfl ) rfl H
  exact (cnd_f H hb5).elim
theorem S82_0_ok (Q : Unit → AW → Prop) (E : List PanicEntry → AW → Prop)  (ρ : Env) (m_0 : Value) (k_1 : Int) (x_2 : Int) (aw : AW) (h0 : ρ 0 = m_0) (h1 : ρ 1 = .int .i64 k_1) (h2 : ρ 2 = .int .u64 x_2) (H : S82_0 Q E  m_0 k_1 x_2 aw) :
    AGo prog 114 [.code C82_0] ρ [] aw (RR prog f82 114 sh82 Q E) := by
  unfold S82_0 at H
  refine ago_seqE (rfl : C82_0 = .seq C82_1 C82_2) ?_
  refine ago_regE (rfl : C82_1 = .region 0 R82_0 false) (l := [0]) rfl ?_
  refine lj 7 R82_0_N rfl rfl rfl (opv_move rfl rfl h1) ?_
  refine aops_nil ?_
  refine ago_blockE (rfl : C82_2 = .block 0 C82_3) ?_
  refine ago_seqE (rfl : C82_3 = .seq C82_4 C82_5) ?_
  refine ago_regE (rfl : C82_4 = .region 2 R82_2 false) (l := [0, 1]) rfl ?_
  refine lj 11 R82_2_N rfl rfl rfl (opv_eqI rfl rfl rfl rfl rfl) ?_
  refine lj 10 R82_2_N rfl rfl rfl (opv_assign rfl rfl rfl) ?_
  refine aops_nil ?_
  refine ago_condE  (rfl : C82_5 = .cond (.tmp 10) C82_6 C82_7) rfl rfl (fun hb23 => ?_) (fun hb23 => ?_)
  · exact (cnd_t H hb23).elim
  replace H := cnd_f H hb23
  refine ago_seqE (rfl : C82_7 = .seq C82_8 C82_9) ?_
  refine ago_regE (rfl : C82_8 = .region 4 R82_4 false) (l := [0, 1]) rfl ?_
  refine lj 21 R82_4_N rfl rfl rfl (opv_eqI rfl rfl rfl rfl rfl) ?_
  refine lj 20 R82_4_N rfl rfl rfl (opv_assign rfl rfl rfl) ?_
  refine aops_nil ?_
  refine ago_condE  (rfl : C82_9 = .cond (.tmp 20) C82_10 C82_11) rfl rfl (fun hb24 => ?_) (fun hb24 => ?_)
  · exact (cnd_t H hb24).elim
  replace H := cnd_f H hb24
  refine ago_seqE (rfl : C82_11 = .seq C82_12 C82_17) ?_
  refine ago_seqE (rfl : C82_12 = .seq C82_13 C82_14) ?_
  refine ago_regE (rfl : C82_13 = .region 6 R82_6 false) (l := [0, 1]) rfl ?_
  refine lj 28 R82_6_N rfl rfl rfl (opv_eqI rfl rfl rfl rfl rfl) ?_
  refine lj 27 R82_6_N rfl rfl rfl (opv_assign rfl rfl rfl) ?_
  refine aops_nil ?_
  refine ago_condE  (rfl : C82_14 = .cond (.tmp 27) C82_15 C82_16) rfl rfl (fun hb25 => ?_) (fun hb25 => ?_)
  · exact (cnd_t H hb25).elim
  replace H := cnd_f H hb25
  refine ago_regE (rfl : C82_16 = .region 7 R82_7 false) (l := [0, 1]) rfl ?_
  refine lj 29 R82_7_N rfl rfl rfl (opv_eqI rfl rfl rfl rfl rfl) ?_
  refine lj 27 R82_7_N rfl rfl rfl (opv_assign rfl rfl rfl) ?_
  refine aops_nil ?_
  exact S82_1_ok Q E  _ m_0 k_1 x_2 k_1 (decide (k_1 = 7)) aw h0 h1 h2 rfl rfl H
theorem F82_ok {Q : Unit → AW → Prop} {E : List PanicEntry → AW → Prop} (m_0 : Value) (k_1 : Int) (x_2 : Int) (aw : AW) (H : S82_0 Q E m_0 k_1 x_2 aw) : CallP prog 82 [m_0, .int .i64 k_1, .int .u64 x_2] aw sh82 Q E :=
  callP_of func82 C82_is rfl (Nat.le_of_ble_eq_true rfl) (S82_0_ok Q E _ m_0 k_1 x_2 aw rfl rfl rfl H)
def C84_0 := bodyOf f84
theorem C84_is : f84.body = some C84_0 := by kernel_rfl
def C84_1 := cl C84_0
def R84_0 := regOps C84_1
def C84_2 := cr C84_0
def C84_3 := cl C84_2
def R84_1 := regOps C84_3
def C84_4 := cr C84_2
def C84_5 := cl C84_4
def C84_6 := cl C84_5
def R84_2 := regOps C84_6
def C84_7 := cr C84_5
def C84_8 := cl C84_7
def C84_9 := cl C84_8
def R84_3 := regOps C84_9
def C84_10 := cr C84_8
def C84_11 := cl C84_10
def C84_14 := cr C84_10
def C84_15 := cl C84_14
def R84_5 := regOps C84_15
def C84_16 := cr C84_14
def C84_17 := cl C84_16
def C84_20 := cr C84_16
def C84_21 := cl C84_20
def R84_7 := regOps C84_21
def C84_22 := cr C84_20
def C84_23 := cl C84_22
def C84_26 := cr C84_22
def C84_27 := cl C84_26
def C84_28 := cl C84_27
def R84_9 := regOps C84_28
def C84_29 := cr C84_27
def C84_30 := cl C84_29
def C84_31 := cr C84_29
def R84_10 := regOps C84_31
def C84_32 := cr C84_26
def C84_33 := cl C84_32
def C84_50 := cr C84_32
def C84_51 := cl C84_50
def R84_16 := regOps C84_51
def C84_52 := cr C84_50
def C84_53 := cl C84_52
def C84_54 := cl C84_53
def R84_17 := regOps C84_54
def C84_55 := cr C84_53
def C84_56 := cr C84_52
def C84_69 := cr C84_4
theorem R84_0_N : dstsOk 76 R84_0 = true := by decide +kernel
theorem R84_1_N : dstsOk 76 R84_1 = true := by decide +kernel
theorem R84_2_N : dstsOk 76 R84_2 = true := by decide +kernel
theorem R84_3_N : dstsOk 76 R84_3 = true := by decide +kernel
theorem R84_5_N : dstsOk 76 R84_5 = true := by decide +kernel
theorem R84_7_N : dstsOk 76 R84_7 = true := by decide +kernel
theorem R84_9_N : dstsOk 76 R84_9 = true := by decide +kernel
theorem R84_10_N : dstsOk 76 R84_10 = true := by decide +kernel
theorem R84_16_N : dstsOk 76 R84_16 = true := by decide +kernel
theorem R84_17_N : dstsOk 76 R84_17 = true := by decide +kernel
def S84_1 (Q : Int → AW → Prop) (E : List PanicEntry → AW → Prop)  (m_0 : Value) (sign_1 : Int) (a_2 : Int) (b_3 : Int) (x_9 : Int) (y_10 : Int) (t_15 : Int) (t_34 : Bool) (aw : AW) : Prop :=
  cnd t_34 (False) (cnd (decide (t_15 = 5)) (CallP prog 90 [m_0, .int .u64 a_2, .int .u64 b_3] aw sh90 (fun r3 aw4 =>
  CallP prog 85 [.bool r3] aw4 sh85 (fun r5 aw6 =>
  Q r5 aw6) E) E) (False))
def S84_0 (Q : Int → AW → Prop) (E : List PanicEntry → AW → Prop)  (m_0 : Value) (sign_1 : Int) (a_2 : Int) (b_3 : Int) (aw : AW) : Prop :=
  CallP prog 73 [.int .u64 a_2] aw sh73 (fun r7 aw8 =>
  CallP prog 73 [.int .u64 b_3] aw8 sh73 (fun r9 aw10 =>
  cnd (decide (sign_1 = 0)) (False) (cnd (decide (sign_1 = 1)) (False) (cnd (decide (sign_1 = 2)) (False) (cnd (decide (sign_1 = 3)) (False) (S84_1 Q E  m_0 sign_1 a_2 b_3 r7 r9 sign_1 (decide (sign_1 = 4)) aw10))))) E) E
theorem S84_1_ok (Q : Int → AW → Prop) (E : List PanicEntry → AW → Prop)  (ρ : Env) (m_0 : Value) (sign_1 : Int) (a_2 : Int) (b_3 : Int) (x_9 : Int) (y_10 : Int) (t_15 : Int) (t_34 : Bool) (aw : AW) (h0 : ρ 0 = m_0) (h1 : ρ 1 = .int .i64 sign_1) (h2 : ρ 2 = .int .u64 a_2) (h3 : ρ 3 = .int .u64 b_3) (h9 : ρ 9 = .int .i64 x_9) (h10 : ρ 10 = .int .i64 y_10) (h15 : ρ 15 = .int .i64 t_15) (h34 : ρ 34 = .bool t_34) (H : S84_1 Q E  m_0 sign_1 a_2 b_3 x_9 y_10 t_15 t_34 aw) :
    AGo prog 76 [.code C84_32, .inBlock 0, .code C84_69] ρ [] aw (RR prog f84 76 sh84 Q E) := by
  unfold S84_1 at H
  refine ago_condE  (rfl : C84_32 = .cond (.tmp 34) C84_33 C84_50) rfl h34 (fun hb1 => ?_) (fun hb1 => ?_)
  · exact (cnd_t H hb1).elim
  replace H := cnd_f H hb1
  refine ago_seqE (rfl : C84_50 = .seq C84_51 C84_52) ?_
  refine ago_regE (rfl : C84_51 = .region 16 R84_16 false) (l := [0, 1]) rfl ?_
  refine lj 52 R84_16_N rfl rfl rfl (opv_eqI rfl rfl rfl h15 rfl) ?_
  refine lj 51 R84_16_N rfl rfl rfl (opv_assign rfl rfl rfl) ?_
  refine aops_nil ?_
  refine ago_condE  (rfl : C84_52 = .cond (.tmp 51) C84_53 C84_56) rfl rfl (fun hb2 => ?_) (fun hb2 => ?_)
  · replace H := cnd_t H hb2
    refine ago_seqE (rfl : C84_53 = .seq C84_54 C84_55) ?_
    refine ago_regE (rfl : C84_54 = .region 17 R84_17 false) (l := [0, 1, 2, 3, 4, 5]) rfl ?_
    refine lj 53 R84_17_N rfl rfl rfl (opv_move rfl rfl h0) ?_
    refine lj 54 R84_17_N rfl rfl rfl (opv_move rfl rfl h2) ?_
    refine lj 55 R84_17_N rfl rfl rfl (opv_move rfl rfl h3) ?_
    refine lc 56 R84_17_N rfl rfl rfl (opc_of rfl rfl is90 (ma_cons rfl (ma_cons rfl (ma_cons rfl rfl)))) H (fun _ _ h => ⟨rfl, h⟩) fun r3 aw4 H => ?_
    refine lc 57 R84_17_N rfl rfl rfl (opc_of rfl rfl is85 (ma_cons rfl rfl)) H (fun _ _ h => ⟨rfl, h⟩) fun r5 aw6 H => ?_
    refine lj 8 R84_17_N rfl rfl rfl (opv_assign rfl rfl rfl) ?_
    refine aops_nil ?_
    exact ago_retE (rfl : C84_55 = .ret) (r := r5) (ares_1 rfl (oneT rfl)) rfl H
  exact (cnd_f H hb2).elim
theorem S84_0_ok (Q : Int → AW → Prop) (E : List PanicEntry → AW → Prop)  (ρ : Env) (m_0 : Value) (sign_1 : Int) (a_2 : Int) (b_3 : Int) (aw : AW) (h0 : ρ 0 = m_0) (h1 : ρ 1 = .int .i64 sign_1) (h2 : ρ 2 = .int .u64 a_2) (h3 : ρ 3 = .int .u64 b_3) (H : S84_0 Q E  m_0 sign_1 a_2 b_3 aw) :
    AGo prog 76 [.code C84_0] ρ [] aw (RR prog f84 76 sh84 Q E) := by
  unfold S84_0 at H
  refine ago_seqE (rfl : C84_0 = .seq C84_1 C84_2) ?_
  refine ago_regE (rfl : C84_1 = .region 0 R84_0 false) (l := [0]) rfl ?_
  refine lj 8 R84_0_N rfl rfl rfl (opv_assign rfl rfl rfl) ?_
  refine aops_nil ?_
  refine ago_seqE (rfl : C84_2 = .seq C84_3 C84_4) ?_
  refine ago_regE (rfl : C84_3 = .region 1 R84_1 false) (l := [0, 1, 2, 3, 4, 5]) rfl ?_
  refine lj 11 R84_1_N rfl rfl rfl (opv_move rfl rfl h2) ?_
  refine lc 12 R84_1_N rfl rfl rfl (opc_of rfl rfl is73 (ma_cons rfl rfl)) H (fun _ _ h => ⟨rfl, h⟩) fun r7 aw8 H => ?_
  refine lj 13 R84_1_N rfl rfl rfl (opv_move rfl rfl h3) ?_
  refine lc 14 R84_1_N rfl rfl rfl (opc_of rfl rfl is73 (ma_cons rfl rfl)) H (fun _ _ h => ⟨rfl, h⟩) fun r9 aw10 H => ?_
  refine lj 9 R84_1_N rfl rfl rfl (opv_assign rfl rfl rfl) ?_
  refine lj 10 R84_1_N rfl rfl rfl (opv_assign rfl rfl rfl) ?_
  refine aops_nil ?_
  refine ago_seqE (rfl : C84_4 = .seq C84_5 C84_69) ?_
  refine ago_seqE (rfl : C84_5 = .seq C84_6 C84_7) ?_
  refine ago_regE (rfl : C84_6 = .region 2 R84_2 false) (l := [0]) rfl ?_
  refine lj 15 R84_2_N rfl rfl rfl (opv_move rfl rfl h1) ?_
  refine aops_nil ?_
  refine ago_blockE (rfl : C84_7 = .block 0 C84_8) ?_
  refine ago_seqE (rfl : C84_8 = .seq C84_9 C84_10) ?_
  refine ago_regE (rfl : C84_9 = .region 3 R84_3 false) (l := [0, 1]) rfl ?_
  refine lj 17 R84_3_N rfl rfl rfl (opv_eqI rfl rfl rfl rfl rfl) ?_
  refine lj 16 R84_3_N rfl rfl rfl (opv_assign rfl rfl rfl) ?_
  refine aops_nil ?_
  refine ago_condE  (rfl : C84_10 = .cond (.tmp 16) C84_11 C84_14) rfl rfl (fun hb11 => ?_) (fun hb11 => ?_)
  · exact (cnd_t H hb11).elim
  replace H := cnd_f H hb11
  refine ago_seqE (rfl : C84_14 = .seq C84_15 C84_16) ?_
  refine ago_regE (rfl : C84_15 = .region 5 R84_5 false) (l := [0, 1]) rfl ?_
  refine lj 23 R84_5_N rfl rfl rfl (opv_eqI rfl rfl rfl rfl rfl) ?_
  refine lj 22 R84_5_N rfl rfl rfl (opv_assign rfl rfl rfl) ?_
  refine aops_nil ?_
  refine ago_condE  (rfl : C84_16 = .cond (.tmp 22) C84_17 C84_20) rfl rfl (fun hb12 => ?_) (fun hb12 => ?_)
  · exact (cnd_t H hb12).elim
  replace H := cnd_f H hb12
  refine ago_seqE (rfl : C84_20 = .seq C84_21 C84_22) ?_
  refine ago_cut (fun ρ => ρ 0 = m_0 ∧ ρ 1 = .int .i64 sign_1 ∧ ρ 2 = .int .u64 a_2 ∧ ρ 3 = .int .u64 b_3 ∧ ρ 9 = .int .i64 r7 ∧ ρ 10 = .int .i64 r9 ∧ ρ 15 = .int .i64 sign_1 ∧ True) ⟨h0, h1, h2, h3, rfl, rfl, rfl, trivial⟩ (fun ρ ⟨h0, h1, h2, h3, h9, h10, h15, _⟩ => ?_)
  refine ago_regE (rfl : C84_21 = .region 7 R84_7 false) (l := [0, 1]) rfl ?_
  refine lj 29 R84_7_N rfl rfl rfl (opv_eqI rfl rfl rfl h15 rfl) ?_
  refine lj 28 R84_7_N rfl rfl rfl (opv_assign rfl rfl rfl) ?_
  refine aops_nil ?_
  refine ago_condE  (rfl : C84_22 = .cond (.tmp 28) C84_23 C84_26) rfl rfl (fun hb13 => ?_) (fun hb13 => ?_)
  · exact (cnd_t H hb13).elim
  replace H := cnd_f H hb13
  refine ago_seqE (rfl : C84_26 = .seq C84_27 C84_32) ?_
  refine ago_seqE (rfl : C84_27 = .seq C84_28 C84_29) ?_
  refine ago_regE (rfl : C84_28 = .region 9 R84_9 false) (l := [0, 1]) rfl ?_
  refine lj 35 R84_9_N rfl rfl rfl (opv_eqI rfl rfl rfl h15 rfl) ?_
  refine lj 34 R84_9_N rfl rfl rfl (opv_assign rfl rfl rfl) ?_
  refine aops_nil ?_
  refine ago_condE  (rfl : C84_29 = .cond (.tmp 34) C84_30 C84_31) rfl rfl (fun hb14 => ?_) (fun hb14 => ?_)
  · exact (cnd_t H hb14).elim
  replace H := cnd_f H hb14
  refine ago_regE (rfl : C84_31 = .region 10 R84_10 false) (l := [0, 1]) rfl ?_
  refine lj 36 R84_10_N rfl rfl rfl (opv_eqI rfl rfl rfl h15 rfl) ?_
  refine lj 34 R84_10_N rfl rfl rfl (opv_assign rfl rfl rfl) ?_
  refine aops_nil ?_
  exact S84_1_ok Q E  _ m_0 sign_1 a_2 b_3 r7 r9 sign_1 (decide (sign_1 = 4)) aw10 h0 h1 h2 h3 h9 h10 h15 rfl H
theorem F84_ok {Q : Int → AW → Prop} {E : List PanicEntry → AW → Prop} (m_0 : Value) (sign_1 : Int) (a_2 : Int) (b_3 : Int) (aw : AW) (H : S84_0 Q E m_0 sign_1 a_2 b_3 aw) : CallP prog 84 [m_0, .int .i64 sign_1, .int .u64 a_2, .int .u64 b_3] aw sh84 Q E :=
  callP_of func84 C84_is rfl (Nat.le_of_ble_eq_true rfl) (S84_0_ok Q E _ m_0 sign_1 a_2 b_3 aw rfl rfl rfl rfl H)
def C85_0 := bodyOf f85
theorem C85_is : f85.body = some C85_0 := by kernel_rfl
def C85_1 := cl C85_0
def R85_0 := regOps C85_1
def C85_2 := cr C85_0
def C85_3 := cl C85_2
def C85_4 := cl C85_3
def R85_1 := regOps C85_4
def C85_5 := cr C85_3
def C85_6 := cl C85_5
def C85_7 := cl C85_6
def R85_2 := regOps C85_7
def C85_8 := cr C85_6
def C85_9 := cr C85_5
def C85_10 := cr C85_2
def C85_11 := cl C85_10
def R85_3 := regOps C85_11
def C85_12 := cr C85_10
theorem R85_0_N : dstsOk 6 R85_0 = true := by decide +kernel
theorem R85_1_N : dstsOk 6 R85_1 = true := by decide +kernel
theorem R85_2_N : dstsOk 6 R85_2 = true := by decide +kernel
theorem R85_3_N : dstsOk 6 R85_3 = true := by decide +kernel
def S85_0 (Q : Int → AW → Prop) (E : List PanicEntry → AW → Prop)  (b_0 : Bool) (aw : AW) : Prop :=
  cnd b_0 (CallP prog 14 [.int .i64 1] aw sh14 (fun r2 aw3 =>
  Q r2 aw3) E) (CallP prog 14 [.int .i64 0] aw sh14 (fun r4 aw5 =>
  Q r4 aw5) E)
theorem S85_0_ok (Q : Int → AW → Prop) (E : List PanicEntry → AW → Prop)  (ρ : Env) (b_0 : Bool) (aw : AW) (h0 : ρ 0 = .bool b_0) (H : S85_0 Q E  b_0 aw) :
    AGo prog 6 [.code C85_0] ρ [] aw (RR prog f85 6 sh85 Q E) := by
  unfold S85_0 at H
  refine ago_seqE (rfl : C85_0 = .seq C85_1 C85_2) ?_
  refine ago_regE (rfl : C85_1 = .region 0 R85_0 false) (l := [0]) rfl ?_
  refine lj 2 R85_0_N rfl rfl rfl (opv_assign rfl rfl rfl) ?_
  refine aops_nil ?_
  refine ago_seqE (rfl : C85_2 = .seq C85_3 C85_10) ?_
  refine ago_seqE (rfl : C85_3 = .seq C85_4 C85_5) ?_
  refine ago_regE (rfl : C85_4 = .region 1 R85_1 false) (l := [0]) rfl ?_
  refine lj 3 R85_1_N rfl rfl rfl (opv_move rfl rfl h0) ?_
  refine aops_nil ?_
  refine ago_condE  (rfl : C85_5 = .cond (.tmp 3) C85_6 C85_9) rfl rfl (fun hb1 => ?_) (fun hb1 => ?_)
  · replace H := cnd_t H hb1
    refine ago_seqE (rfl : C85_6 = .seq C85_7 C85_8) ?_
    refine ago_regE (rfl : C85_7 = .region 2 R85_2 false) (l := [0, 1]) rfl ?_
    refine lc 4 R85_2_N rfl rfl rfl (opc_of rfl rfl is14 (ma_cons rfl rfl)) H (fun _ _ h => ⟨rfl, h⟩) fun r2 aw3 H => ?_
    refine lj 2 R85_2_N rfl rfl rfl (opv_assign rfl rfl rfl) ?_
    refine aops_nil ?_
    exact ago_retE (rfl : C85_8 = .ret) (r := r2) (ares_1 rfl (oneT rfl)) rfl H
  replace H := cnd_f H hb1
  refine ago_skipE (rfl : C85_9 = .skip) ?_
  refine ago_seqE (rfl : C85_10 = .seq C85_11 C85_12) ?_
  refine ago_regE (rfl : C85_11 = .region 3 R85_3 false) (l := [0, 1]) rfl ?_
  refine lc 5 R85_3_N rfl rfl rfl (opc_of rfl rfl is14 (ma_cons rfl rfl)) H (fun _ _ h => ⟨rfl, h⟩) fun r4 aw5 H => ?_
  refine lj 2 R85_3_N rfl rfl rfl (opv_assign rfl rfl rfl) ?_
  refine aops_nil ?_
  exact ago_retE (rfl : C85_12 = .ret) (r := r4) (ares_1 rfl (oneT rfl)) rfl H
theorem F85_ok {Q : Int → AW → Prop} {E : List PanicEntry → AW → Prop} (b_0 : Bool) (aw : AW) (H : S85_0 Q E b_0 aw) : CallP prog 85 [.bool b_0] aw sh85 Q E :=
  callP_of func85 C85_is rfl (Nat.le_of_ble_eq_true rfl) (S85_0_ok Q E _ b_0 aw rfl H)
def C90_0 := bodyOf f90
theorem C90_is : f90.body = some C90_0 := by kernel_rfl
def C90_1 := cl C90_0
def R90_0 := regOps C90_1
def C90_2 := cr C90_0
def C90_3 := cl C90_2
def R90_1 := regOps C90_3
def C90_4 := cr C90_2
def C90_5 := cl C90_4
def C90_6 := cl C90_5
def R90_2 := regOps C90_6
def C90_7 := cr C90_5
def C90_8 := cl C90_7
def C90_11 := cr C90_7
def C90_12 := cr C90_4
def C90_13 := cl C90_12
def R90_4 := regOps C90_13
def C90_14 := cr C90_12
def C90_15 := cl C90_14
def C90_16 := cl C90_15
def C90_17 := cl C90_16
def R90_5 := regOps C90_17
def C90_18 := cr C90_16
def C90_19 := cl C90_18
def C90_20 := cr C90_18
def C90_21 := cl C90_20
def R90_7 := regOps C90_21
def C90_22 := cr C90_20
def C90_23 := cl C90_22
def C90_26 := cr C90_22
def C90_27 := cl C90_26
def R90_9 := regOps C90_27
def C90_28 := cr C90_26
def C90_29 := cl C90_28
def C90_30 := cl C90_29
def R90_10 := regOps C90_30
def C90_31 := cr C90_29
def C90_32 := cr C90_28
def C90_33 := cr C90_14
theorem R90_0_N : dstsOk 88 R90_0 = true := by decide +kernel
theorem R90_1_N : dstsOk 88 R90_1 = true := by decide +kernel
theorem R90_2_N : dstsOk 88 R90_2 = true := by decide +kernel
theorem R90_4_N : dstsOk 88 R90_4 = true := by decide +kernel
theorem R90_5_N : dstsOk 88 R90_5 = true := by decide +kernel
theorem R90_7_N : dstsOk 88 R90_7 = true := by decide +kernel
theorem R90_9_N : dstsOk 88 R90_9 = true := by decide +kernel
theorem R90_10_N : dstsOk 88 R90_10 = true := by decide +kernel
theorem R90_10_O : linOk R90_10 [0, 1, 2, 3, 4, 6, 7, 8, 9, 10] [(5, [6, 7, 8, 9, 10], []), (11, [], [12, 13])] = true := by decide +kernel
def S90_2 (Q : Bool → AW → Prop) (E : List PanicEntry → AW → Prop)  (m_0 : Value) (a_1 : Int) (b_2 : Int) (k_7 : Int) (t_26 : Bool) (aw : AW) : Prop :=
  cnd t_26 (False) (cnd (decide (k_7 = 4)) (False) (cnd (decide (k_7 = 3)) (nck m_0 (fldA m_0 0 fun p13 =>
  ldV aw p13 fun x21 =>
  nck m_0 (fldA m_0 0 fun p24 =>
  ldV aw p24 fun x32 =>
  CallP prog 19 [x21, .int .u64 a_1] aw sh19 (fun r34 aw35 =>
  again1 aw35 p24 (x32) ∧ CallP prog 19 [x32, .int .u64 b_2] aw35 sh19 (fun r36 aw37 =>
  Q (decide (r34 = r36)) aw37) E) E))) (False)))
def S90_1 (Q : Bool → AW → Prop) (E : List PanicEntry → AW → Prop)  (m_0 : Value) (a_1 : Int) (b_2 : Int) (t_16 : Bool) (aw : AW) : Prop :=
  cnd t_16 (False) (nck m_0 (fldA m_0 0 fun p40 =>
  ldV aw p40 fun x48 =>
  CallP prog 38 [x48, .int .u64 a_1] aw sh38 (fun r50 aw51 =>
  nck m_0 (fldA m_0 0 fun p53 =>
  ldV aw51 p53 fun x61 =>
  CallP prog 38 [x61, .int .u64 b_2] aw51 sh38 (fun r63 aw64 =>
  cnd (!decide (r50 = r63)) (S90_2 Q E  m_0 a_1 b_2 r50 true aw64) (cnd (decide (r50 = 5)) (S90_2 Q E  m_0 a_1 b_2 r50 true aw64) (S90_2 Q E  m_0 a_1 b_2 r50 (decide (r50 = 6)) aw64))) E)) E))
def S90_0 (Q : Bool → AW → Prop) (E : List PanicEntry → AW → Prop)  (m_0 : Value) (a_1 : Int) (b_2 : Int) (aw : AW) : Prop :=
  CallP prog 81 [m_0] aw sh81 (fun r67 aw68 =>
  CallP prog 49 [.int .u64 a_1] aw68 sh49 (fun r69 aw70 =>
  cnd r69 (S90_1 Q E  m_0 a_1 b_2 true aw70) (CallP prog 49 [.int .u64 b_2] aw70 sh49 (fun r72 aw73 =>
  S90_1 Q E  m_0 a_1 b_2 r72 aw73) E)) E) E
theorem S90_2_ok (Q : Bool → AW → Prop) (E : List PanicEntry → AW → Prop)  (ρ : Env) (m_0 : Value) (a_1 : Int) (b_2 : Int) (k_7 : Int) (t_26 : Bool) (aw : AW) (h0 : ρ 0 = m_0) (h1 : ρ 1 = .int .u64 a_1) (h2 : ρ 2 = .int .u64 b_2) (h7 : ρ 7 = .int .u8 k_7) (h26 : ρ 26 = .bool t_26) (H : S90_2 Q E  m_0 a_1 b_2 k_7 t_26 aw) :
    AGo prog 88 [.code C90_18, .inBlock 0, .code C90_33] ρ [] aw (RR prog f90 88 sh90 Q E) := by
  unfold S90_2 at H
  refine ago_condE  (rfl : C90_18 = .cond (.tmp 26) C90_19 C90_20) rfl h26 (fun hb9 => ?_) (fun hb9 => ?_)
  · exact (cnd_t H hb9).elim
  replace H := cnd_f H hb9
  refine ago_seqE (rfl : C90_20 = .seq C90_21 C90_22) ?_
  refine ago_regE (rfl : C90_21 = .region 7 R90_7 false) (l := [0, 1, 2]) rfl ?_
  refine lj 46 R90_7_N rfl rfl rfl (opv_move rfl rfl h7) ?_
  refine lj 47 R90_7_N rfl rfl rfl (opv_eqI rfl rfl rfl rfl rfl) ?_
  refine lj 45 R90_7_N rfl rfl rfl (opv_assign rfl rfl rfl) ?_
  refine aops_nil ?_
  refine ago_condE  (rfl : C90_22 = .cond (.tmp 45) C90_23 C90_26) rfl rfl (fun hb10 => ?_) (fun hb10 => ?_)
  · exact (cnd_t H hb10).elim
  replace H := cnd_f H hb10
  refine ago_seqE (rfl : C90_26 = .seq C90_27 C90_28) ?_
  refine ago_regE (rfl : C90_27 = .region 9 R90_9 false) (l := [0, 1, 2]) rfl ?_
  refine lj 52 R90_9_N rfl rfl rfl (opv_move rfl rfl h7) ?_
  refine lj 53 R90_9_N rfl rfl rfl (opv_eqI rfl rfl rfl rfl rfl) ?_
  refine lj 51 R90_9_N rfl rfl rfl (opv_assign rfl rfl rfl) ?_
  refine aops_nil ?_
  refine ago_condE  (rfl : C90_28 = .cond (.tmp 51) C90_29 C90_32) rfl rfl (fun hb11 => ?_) (fun hb11 => ?_)
  · replace H := cnd_t H hb11
    refine ago_seqE (rfl : C90_29 = .seq C90_30 C90_31) ?_
    obtain ⟨hp12, H⟩ := H
    obtain ⟨b14, i15, p13, hp16, hv17, H⟩ := H
    obtain ⟨b18, i19, x21, hp20, hg22, H⟩ := H
    obtain ⟨hp23, H⟩ := H
    obtain ⟨b25, i26, p24, hp27, hv28, H⟩ := H
    obtain ⟨b29, i30, x32, hp31, hg33, H⟩ := H
    refine ago_drawH (p := [0, 1, 2, 3, 4, 6, 7, 8, 9, 10]) (tl := [(5, [6, 7, 8, 9, 10], []), (11, [], [12, 13])]) (hv := [(0, m_0), (1, m_0), (2, p13), (3, x21), (4, Value.int .u64 a_1), (6, m_0), (7, m_0), (8, p24), (9, x32), (10, Value.int .u64 b_2)]) (rfl : C90_30 = .region 10 R90_10 true) mixed R90_10_N R90_10_O rfl (pv_cons rfl (pv_cons rfl (pv_cons rfl (pv_cons rfl (pv_cons rfl (pv_cons rfl (pv_cons rfl (pv_cons rfl (pv_cons rfl (pv_cons rfl (pv_nil _)))))))))))
      (fc 54 m_0 (hd_v rfl fun ρ hρ => ⟨rfl, opv_move rfl rfl ((hρ 0 (lmem rfl)).trans h0)⟩) rfl rfl
      (fc 55 m_0 (hd_v rfl fun ρ hρ => ⟨rfl, ov_nck rfl rfl ((hρ 54 (lmem rfl)).trans rfl) hp12⟩) rfl rfl
      (fc 56 p13 (hd_v rfl fun ρ hρ => ⟨rfl, ov_fldA rfl rfl underlying77 rfl sz50 (by decide) ((hρ 55 (lmem rfl)).trans rfl) hp16 rfl hv17⟩) rfl rfl
      (fc 57 x21 (hd_v rfl fun ρ hρ => ⟨rfl, ov_ldV rfl underlying50 rfl rfl ((hρ 56 (lmem rfl)).trans rfl) hp20 hg22⟩) rfl rfl
      (fc 58 (.int .u64 a_1) (hd_v rfl fun ρ hρ => ⟨rfl, opv_move rfl rfl ((hρ 1 (lmem rfl)).trans h1)⟩) rfl rfl
      (fc 60 m_0 (hd_v rfl fun ρ hρ => ⟨rfl, opv_move rfl rfl ((hρ 0 (lmem rfl)).trans h0)⟩) rfl rfl
      (fc 61 m_0 (hd_v rfl fun ρ hρ => ⟨rfl, ov_nck rfl rfl ((hρ 60 (lmem rfl)).trans rfl) hp23⟩) rfl rfl
      (fc 62 p24 (hd_v rfl fun ρ hρ => ⟨rfl, ov_fldA rfl rfl underlying77 rfl sz50 (by decide) ((hρ 61 (lmem rfl)).trans rfl) hp27 rfl hv28⟩) rfl rfl
      (fc 63 x32 (hd_v rfl fun ρ hρ => ⟨rfl, ov_ldV rfl underlying50 rfl rfl ((hρ 62 (lmem rfl)).trans rfl) hp31 hg33⟩) rfl rfl
      (fc 64 (.int .u64 b_2) (hd_v rfl fun ρ hρ => ⟨rfl, opv_move rfl rfl ((hρ 2 (lmem rfl)).trans h2)⟩) rfl rfl
      ffn)))))))))) ?_
    refine lt_call (dt := some 59) rfl rfl (fun ρ hρ => ⟨rfl, opc_of rfl rfl is19 (ma_cons ((hρ 57 (lmem rfl)).trans rfl) (ma_cons ((hρ 58 (lmem rfl)).trans rfl) rfl))⟩) H (fun _ _ h _ => ⟨rfl, h⟩) fun r34 aw35 H => ?_
    obtain ⟨hg33, H⟩ := H
    replace hg33 := hg33 _ _ hp31
    refine lt_next (l := [6, 7, 8, 9, 10]) (hv := []) rfl rfl (pv_nil _)
      (fc 60 m_0 (hd_v rfl fun ρ hρ => ⟨rfl, opv_move rfl rfl ((hρ 0 (lmem rfl)).trans h0)⟩) rfl rfl
      (fc 61 m_0 (hd_v rfl fun ρ hρ => ⟨rfl, ov_nck rfl rfl ((hρ 60 (lmem rfl)).trans rfl) hp23⟩) rfl rfl
      (fc 62 p24 (hd_v rfl fun ρ hρ => ⟨rfl, ov_fldA rfl rfl underlying77 rfl sz50 (by decide) ((hρ 61 (lmem rfl)).trans rfl) hp27 rfl hv28⟩) rfl rfl
      (fc 63 x32 (hd_v rfl fun ρ hρ => ⟨rfl, ov_ldV rfl underlying50 rfl rfl ((hρ 62 (lmem rfl)).trans rfl) hp31 hg33⟩) rfl rfl
      (fc 64 (.int .u64 b_2) (hd_v rfl fun ρ hρ => ⟨rfl, opv_move rfl rfl ((hρ 2 (lmem rfl)).trans h2)⟩) rfl rfl
      ffn))))) ?_
    refine lt_call (dt := some 65) rfl rfl (fun ρ hρ => ⟨rfl, opc_of rfl rfl is19 (ma_cons ((hρ 63 (lmem rfl)).trans rfl) (ma_cons ((hρ 64 (lmem rfl)).trans rfl) rfl))⟩) H (fun _ _ h _ => ⟨rfl, h⟩) fun r36 aw37 H => ?_
    refine lt_next (l := [12, 13]) (hv := [(12, Value.bool (decide (r34 = r36))), (13, Value.bool (decide (r34 = r36)))]) rfl rfl (pv_cons rfl (pv_cons rfl (pv_nil _)))
      (fc 66 (.bool (decide (r34 = r36))) (hd_v rfl fun ρ hρ => ⟨rfl, opv_eqS rfl rfl rfl ((hρ 59 (lmem rfl)).trans rfl) ((hρ 65 (lmem rfl)).trans rfl)⟩) rfl rfl
      (fc 6 (.bool (decide (r34 = r36))) (hd_v rfl fun ρ hρ => ⟨rfl, opv_assign rfl rfl ((hρ 66 (lmem rfl)).trans rfl)⟩) rfl rfl
      ffn)) ?_
    refine lt_end ?_
    exact ago_retE (rfl : C90_31 = .ret) (r := (decide (r34 = r36))) (ares_1 rfl (oneT rfl)) rfl H
  exact (cnd_f H hb11).elim
theorem S90_1_ok (Q : Bool → AW → Prop) (E : List PanicEntry → AW → Prop)  (ρ : Env) (m_0 : Value) (a_1 : Int) (b_2 : Int) (t_16 : Bool) (aw : AW) (h0 : ρ 0 = m_0) (h1 : ρ 1 = .int .u64 a_1) (h2 : ρ 2 = .int .u64 b_2) (h16 : ρ 16 = .bool t_16) (H : S90_1 Q E  m_0 a_1 b_2 t_16 aw) :
    AGo prog 88 [.code C90_7, .code C90_12] ρ [] aw (RR prog f90 88 sh90 Q E) := by
  unfold S90_1 at H
  refine ago_condE  (rfl : C90_7 = .cond (.tmp 16) C90_8 C90_11) rfl h16 (fun hb38 => ?_) (fun hb38 => ?_)
  · exact (cnd_t H hb38).elim
  replace H := cnd_f H hb38
  refine ago_skipE (rfl : C90_11 = .skip) ?_
  refine ago_seqE (rfl : C90_12 = .seq C90_13 C90_14) ?_
  refine ago_regE (rfl : C90_13 = .region 4 R90_4 false) (l := [0, 1, 2, 3, 4, 5, 6]) rfl ?_
  refine lj 20 R90_4_N rfl rfl rfl (opv_move rfl rfl h0) ?_
  obtain ⟨hp39, H⟩ := H
  refine lj 21 R90_4_N rfl rfl rfl (ov_nck rfl rfl rfl hp39) ?_
  obtain ⟨b41, i42, p40, hp43, hv44, H⟩ := H
  refine lj 22 R90_4_N rfl rfl rfl (ov_fldA rfl rfl underlying77 rfl sz50 (by decide) rfl hp43 rfl hv44) ?_
  obtain ⟨b45, i46, x48, hp47, hg49, H⟩ := H
  refine lj 23 R90_4_N rfl rfl rfl (ov_ldV rfl underlying50 rfl rfl rfl hp47 hg49) ?_
  refine lj 24 R90_4_N rfl rfl rfl (opv_move rfl rfl h1) ?_
  refine lc 25 R90_4_N rfl rfl rfl (opc_of rfl rfl is38 (ma_cons rfl (ma_cons rfl rfl))) H (fun _ _ h => ⟨rfl, h⟩) fun r50 aw51 H => ?_
  refine lj 7 R90_4_N rfl rfl rfl (opv_assign rfl rfl rfl) ?_
  refine aops_nil ?_
  refine ago_seqE (rfl : C90_14 = .seq C90_15 C90_33) ?_
  refine ago_blockE (rfl : C90_15 = .block 0 C90_16) ?_
  refine ago_seqE (rfl : C90_16 = .seq C90_17 C90_18) ?_
  refine ago_regE (rfl : C90_17 = .region 5 R90_5 false) (l := [0, 1, 2, 3, 4, 5, 6, 7, 8, 9, 10, 11, 12, 13, 14, 15, 16]) rfl ?_
  refine lj 27 R90_5_N rfl rfl rfl (opv_move rfl rfl rfl) ?_
  refine lj 28 R90_5_N rfl rfl rfl (opv_move rfl rfl h0) ?_
  obtain ⟨hp52, H⟩ := H
  refine lj 29 R90_5_N rfl rfl rfl (ov_nck rfl rfl rfl hp52) ?_
  obtain ⟨b54, i55, p53, hp56, hv57, H⟩ := H
  refine lj 30 R90_5_N rfl rfl rfl (ov_fldA rfl rfl underlying77 rfl sz50 (by decide) rfl hp56 rfl hv57) ?_
  obtain ⟨b58, i59, x61, hp60, hg62, H⟩ := H
  refine lj 31 R90_5_N rfl rfl rfl (ov_ldV rfl underlying50 rfl rfl rfl hp60 hg62) ?_
  refine lj 32 R90_5_N rfl rfl rfl (opv_move rfl rfl h2) ?_
  refine lc 33 R90_5_N rfl rfl rfl (opc_of rfl rfl is38 (ma_cons rfl (ma_cons rfl rfl))) H (fun _ _ h => ⟨rfl, h⟩) fun r63 aw64 H => ?_
  refine lj 34 R90_5_N rfl rfl rfl (opv_neI rfl rfl rfl rfl rfl) ?_
  refine lj 35 R90_5_N rfl rfl rfl (opv_move rfl rfl rfl) ?_
  rcases Bool.eq_false_or_eq_true (!decide (r50 = r63)) with hb65 | hb65
  · replace H := cnd_t H hb65
    refine ls 36 R90_5_N rfl rfl ⟨_, rfl, .inl ⟨_, rfl, gq hb65 rfl⟩⟩ ?_
    refine ls 37 R90_5_N rfl rfl ⟨_, rfl, .inl ⟨_, rfl, gq hb65 rfl⟩⟩ ?_
    refine lj 38 R90_5_N rfl rfl rfl (ov_pickT rfl rfl rfl rfl rfl hb65 rfl) ?_
    refine lj 39 R90_5_N rfl rfl rfl (opv_move rfl rfl rfl) ?_
    refine ls 40 R90_5_N rfl rfl ⟨_, rfl, .inl ⟨_, rfl, gq rfl rfl⟩⟩ ?_
    refine ls 41 R90_5_N rfl rfl ⟨_, rfl, .inl ⟨_, rfl, gq rfl rfl⟩⟩ ?_
    refine lj 42 R90_5_N rfl rfl rfl (ov_pickT rfl rfl rfl rfl rfl rfl rfl) ?_
    refine lj 26 R90_5_N rfl rfl rfl (opv_assign rfl rfl rfl) ?_
    refine aops_nil ?_
    exact S90_2_ok Q E  _ m_0 a_1 b_2 r50 true aw64 h0 h1 h2 rfl rfl H
  · replace H := cnd_f H hb65
    refine lj 36 R90_5_N rfl rfl ⟨_, rfl, .inl ⟨_, rfl, gq hb65 rfl⟩⟩ (opv_move rfl rfl rfl) ?_
    refine lj 37 R90_5_N rfl rfl ⟨_, rfl, .inl ⟨_, rfl, gq hb65 rfl⟩⟩ (opv_eqI rfl rfl rfl rfl rfl) ?_
    refine lj 38 R90_5_N rfl rfl rfl (ov_pickF rfl rfl rfl rfl rfl hb65 rfl) ?_
    refine lj 39 R90_5_N rfl rfl rfl (opv_move rfl rfl rfl) ?_
    rcases Bool.eq_false_or_eq_true (decide (r50 = 5)) with hb66 | hb66
    · replace H := cnd_t H hb66
      refine ls 40 R90_5_N rfl rfl ⟨_, rfl, .inl ⟨_, rfl, gq hb66 rfl⟩⟩ ?_
      refine ls 41 R90_5_N rfl rfl ⟨_, rfl, .inl ⟨_, rfl, gq hb66 rfl⟩⟩ ?_
      refine lj 42 R90_5_N rfl rfl rfl (ov_pickT rfl rfl rfl rfl rfl hb66 rfl) ?_
      refine lj 26 R90_5_N rfl rfl rfl (opv_assign rfl rfl rfl) ?_
      refine aops_nil ?_
      exact S90_2_ok Q E  _ m_0 a_1 b_2 r50 true aw64 h0 h1 h2 rfl rfl H
    · replace H := cnd_f H hb66
      refine lj 40 R90_5_N rfl rfl ⟨_, rfl, .inl ⟨_, rfl, gq hb66 rfl⟩⟩ (opv_move rfl rfl rfl) ?_
      refine lj 41 R90_5_N rfl rfl ⟨_, rfl, .inl ⟨_, rfl, gq hb66 rfl⟩⟩ (opv_eqI rfl rfl rfl rfl rfl) ?_
      refine lj 42 R90_5_N rfl rfl rfl (ov_pickF rfl rfl rfl rfl rfl hb66 rfl) ?_
      refine lj 26 R90_5_N rfl rfl rfl (opv_assign rfl rfl rfl) ?_
      refine aops_nil ?_
      exact S90_2_ok Q E  _ m_0 a_1 b_2 r50 (decide (r50 = 6)) aw64 h0 h1 h2 rfl rfl H
theorem S90_0_ok (Q : Bool → AW → Prop) (E : List PanicEntry → AW → Prop)  (ρ : Env) (m_0 : Value) (a_1 : Int) (b_2 : Int) (aw : AW) (h0 : ρ 0 = m_0) (h1 : ρ 1 = .int .u64 a_1) (h2 : ρ 2 = .int .u64 b_2) (H : S90_0 Q E  m_0 a_1 b_2 aw) :
    AGo prog 88 [.code C90_0] ρ [] aw (RR prog f90 88 sh90 Q E) := by
  unfold S90_0 at H
  refine ago_seqE (rfl : C90_0 = .seq C90_1 C90_2) ?_
  refine ago_regE (rfl : C90_1 = .region 0 R90_0 false) (l := [0]) rfl ?_
  refine lj 6 R90_0_N rfl rfl rfl (opv_assign rfl rfl rfl) ?_
  refine aops_nil ?_
  refine ago_seqE (rfl : C90_2 = .seq C90_3 C90_4) ?_
  refine ago_regE (rfl : C90_3 = .region 1 R90_1 false) (l := [0, 1]) rfl ?_
  refine lj 9 R90_1_N rfl rfl rfl (opv_move rfl rfl h0) ?_
  refine lc 10 R90_1_N rfl rfl rfl (opc_of rfl rfl is81 (ma_cons rfl rfl)) H (fun _ _ h => ⟨rfl, h⟩) fun r67 aw68 H => ?_
  refine aops_nil ?_
  refine ago_seqE (rfl : C90_4 = .seq C90_5 C90_12) ?_
  refine ago_seqE (rfl : C90_5 = .seq C90_6 C90_7) ?_
  refine ago_regE (rfl : C90_6 = .region 2 R90_2 false) (l := [0, 1, 2, 3, 4, 5]) rfl ?_
  refine lj 11 R90_2_N rfl rfl rfl (opv_move rfl rfl h1) ?_
  refine lc 12 R90_2_N rfl rfl rfl (opc_of rfl rfl is49 (ma_cons rfl rfl)) H (fun _ _ h => ⟨rfl, h⟩) fun r69 aw70 H => ?_
  refine lj 13 R90_2_N rfl rfl rfl (opv_move rfl rfl rfl) ?_
  rcases Bool.eq_false_or_eq_true r69 with hb71 | hb71
  · replace H := cnd_t H hb71
    refine ls 14 R90_2_N rfl rfl ⟨_, rfl, .inl ⟨_, rfl, gq hb71 rfl⟩⟩ ?_
    refine ls 15 R90_2_N rfl rfl ⟨_, rfl, .inl ⟨_, rfl, gq hb71 rfl⟩⟩ ?_
    refine lj 16 R90_2_N rfl rfl rfl (ov_pickT rfl rfl rfl rfl rfl hb71 rfl) ?_
    refine aops_nil ?_
    exact S90_1_ok Q E  _ m_0 a_1 b_2 true aw70 h0 h1 h2 rfl H
  · replace H := cnd_f H hb71
    refine lj 14 R90_2_N rfl rfl ⟨_, rfl, .inl ⟨_, rfl, gq hb71 rfl⟩⟩ (opv_move rfl rfl h2) ?_
    refine lc 15 R90_2_N rfl rfl ⟨_, rfl, .inl ⟨_, rfl, gq hb71 rfl⟩⟩ (opc_of rfl rfl is49 (ma_cons rfl rfl)) H (fun _ _ h => ⟨rfl, h⟩) fun r72 aw73 H => ?_
    refine lj 16 R90_2_N rfl rfl rfl (ov_pickF rfl rfl rfl rfl rfl hb71 rfl) ?_
    refine aops_nil ?_
    exact S90_1_ok Q E  _ m_0 a_1 b_2 r72 aw73 h0 h1 h2 rfl H
theorem F90_ok {Q : Bool → AW → Prop} {E : List PanicEntry → AW → Prop} (m_0 : Value) (a_1 : Int) (b_2 : Int) (aw : AW) (H : S90_0 Q E m_0 a_1 b_2 aw) : CallP prog 90 [m_0, .int .u64 a_1, .int .u64 b_2] aw sh90 Q E :=
  callP_of func90 C90_is rfl (Nat.le_of_ble_eq_true rfl) (S90_0_ok Q E _ m_0 a_1 b_2 aw rfl rfl rfl H)
end
end Go.Proofs.Tryd
