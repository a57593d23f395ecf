/- Printed by a program of the prover: what the Go functions of this seat do, in steps. -/
import Derived.Test.YtfoceofohlpafaaDoorMaF
set_option linter.unusedSectionVars false
set_option linter.unusedSimpArgs false
set_option linter.unusedVariables false
namespace Go.Proofs.Tryd
open Go Go.Am Go.RowKit
set_option maxHeartbeats 4000000
set_option maxRecDepth 100000
noncomputable section
variable [SymE]
def C57_0 := bodyOf f57
theorem C57_is : f57.body = some C57_0 := by kernel_rfl
def C57_1 := cl C57_0
def R57_0 := regOps C57_1
def C57_2 := cr C57_0
def C57_3 := cl C57_2
def C57_4 := cl C57_3
def R57_1 := regOps C57_4
def C57_5 := cr C57_3
def C57_6 := cl C57_5
def C57_7 := cl C57_6
def R57_2 := regOps C57_7
def C57_8 := cr C57_6
def C57_9 := cr C57_5
def C57_10 := cr C57_2
theorem R57_0_N : dstsOk 94 R57_0 = true := by decide +kernel
theorem R57_1_N : dstsOk 94 R57_1 = true := by decide +kernel
theorem R57_2_N : dstsOk 94 R57_2 = true := by decide +kernel
def S57_0 (Q : (Bool × Int × Int × ByteArray × ByteArray × Value × Int) → AW → Prop) (E : List PanicEntry → AW → Prop)  (m_0 : Value) (s_1 : ByteArray) (aw : AW) : Prop :=
  alc aw [.int .i64 0, .int .u64 0, .string (⟨#[]⟩ : ByteArray), .string (⟨#[]⟩ : ByteArray), (.slice none 0 0), .int .i64 0] 29 0 fun p1 aw2 =>
  nck m_0 (fldA m_0 5 fun p6 =>
  ldV aw2 p6 fun x14 =>
  slen x14 fun n16 =>
  cnd (decide (n16 = 0)) (st aw2 p1 [.int .i64 9, .int .u64 0, .string s_1, .string (⟨#[]⟩ : ByteArray), (.slice none 0 0), .int .i64 0] fun aw23 =>
  ptr p1 fun b30 i31 => gI .i64 aw23 b30 i31 fun c33 => gI .u64 aw23 b30 (i31 + 1) fun c34 => gS aw23 b30 (i31 + 2) fun c35 => gS aw23 b30 (i31 + 3) fun c36 => gV aw23 b30 (i31 + 4) fun c37 => gI .i64 aw23 b30 (i31 + 5) fun c38 => Q (false, c33, c34, c35, c36, c37, c38) aw23) (False))
theorem S57_0_ok (Q : (Bool × Int × Int × ByteArray × ByteArray × Value × Int) → AW → Prop) (E : List PanicEntry → AW → Prop)  (ρ : Env) (m_0 : Value) (s_1 : ByteArray) (aw : AW) (h0 : ρ 0 = m_0) (h1 : ρ 1 = .string s_1) (H : S57_0 Q E  m_0 s_1 aw) :
    AGo prog 94 [.code C57_0] ρ [] aw (RR prog f57 94 sh57 Q E) := by
  unfold S57_0 at H
  refine ago_seqE (rfl : C57_0 = .seq C57_1 C57_2) ?_
  refine ago_regE (rfl : C57_1 = .region 0 R57_0 false) (l := [0, 1]) rfl ?_
  refine lj 4 R57_0_N rfl rfl rfl (opv_assign rfl rfl rfl) ?_
  obtain ⟨p1, aw2, hp3, ha4, H⟩ := H
  refine lj 5 R57_0_N rfl rfl rfl (ov_alloc rfl z29 rfl rfl hp3 ha4) ?_
  refine aops_nil ?_
  refine ago_seqE (rfl : C57_2 = .seq C57_3 C57_10) ?_
  refine ago_seqE (rfl : C57_3 = .seq C57_4 C57_5) ?_
  refine ago_regE (rfl : C57_4 = .region 1 R57_1 false) (l := [0, 1, 2, 3, 4, 5]) rfl ?_
  refine lj 9 R57_1_N rfl rfl rfl (opv_move rfl rfl h0) ?_
  obtain ⟨hp5, H⟩ := H
  refine lj 10 R57_1_N rfl rfl rfl (ov_nck rfl rfl rfl hp5) ?_
  obtain ⟨b7, i8, p6, hp9, hv10, H⟩ := H
  refine lj 11 R57_1_N rfl rfl rfl (ov_fldA rfl rfl underlying77 rfl sz71 (by decide) rfl hp9 rfl hv10) ?_
  obtain ⟨b11, i12, x14, hp13, hg15, H⟩ := H
  refine lj 12 R57_1_N rfl rfl rfl (ov_ldV rfl underlying71 rfl rfl rfl hp13 hg15) ?_
  obtain ⟨q17, l18, c19, n16, hv20, hn21, H⟩ := H
  refine lj 13 R57_1_N rfl rfl rfl (ov_len rfl rfl rfl underlying71 rfl hv20 hn21) ?_
  refine lj 14 R57_1_N rfl rfl rfl (opv_eqI rfl rfl rfl rfl rfl) ?_
  refine aops_nil ?_
  refine ago_condE  (rfl : C57_5 = .cond (.tmp 14) C57_6 C57_9) rfl rfl (fun hb22 => ?_) (fun hb22 => ?_)
  · replace H := cnd_t H hb22
    refine ago_seqE (rfl : C57_6 = .seq C57_7 C57_8) ?_
    refine ago_regE (rfl : C57_7 = .region 2 R57_2 false) (l := [0, 1, 2, 3]) rfl ?_
    refine lj 15 R57_2_N rfl rfl rfl (opv_move rfl rfl h1) ?_
    refine lj 16 R57_2_N rfl rfl rfl (ov_bld (r := [.int .i64 9, .int .u64 0, .string s_1, .string (⟨#[]⟩ : ByteArray), (.slice none 0 0), .int .i64 0]) rfl rfl bo29 (mp_cons rfl (mp_cons rfl rfl)) (fillP rfl rfl rfl rfl (fillP rfl rfl rfl rfl (fillN rfl)))) ?_
    refine lj 4 R57_2_N rfl rfl rfl (opv_assign rfl rfl rfl) ?_
    obtain ⟨b24, i25, aw23, hp26, hw27, ho28, ha29, H⟩ := H
    refine lk (dt := none) R57_2_N rfl rfl rfl (ov_st rfl rfl rfl rfl rfl rfl sz29 hp26 hw27 ho28 ha29) ?_
    refine aops_nil ?_
    obtain ⟨b30, i31, hp32, c33, hg39, c34, hg40, c35, hg41, c36, hg42, c37, hg43, c38, hg44, H⟩ := H
    exact ago_retE (rfl : C57_8 = .ret) (r := (false, c33, c34, c35, c36, c37, c38)) (ares_2 rfl (oneT rfl) (oneN rfl hp32 underlying29 rfl sz29 (getN_cons hg39 (getN_cons hg40 (getN_cons hg41 (getN_cons hg42 (getN_cons hg43 (getN_cons hg44 getN_nil)))))))) rfl H
  exact (cnd_f H hb22).elim
theorem F57_ok {Q : (Bool × Int × Int × ByteArray × ByteArray × Value × Int) → AW → Prop} {E : List PanicEntry → AW → Prop} (m_0 : Value) (s_1 : ByteArray) (aw : AW) (H : S57_0 Q E m_0 s_1 aw) : CallP prog 57 [m_0, .string s_1] aw sh57 Q E :=
  callP_of func57 C57_is rfl (Nat.le_of_ble_eq_true rfl) (S57_0_ok Q E _ m_0 s_1 aw rfl rfl H)
def C58_0 := bodyOf f58
theorem C58_is : f58.body = some C58_0 := by kernel_rfl
def C58_1 := cl C58_0
def R58_0 := regOps C58_1
def C58_2 := cr C58_0
def C58_3 := cl C58_2
def R58_1 := regOps C58_3
def C58_4 := cr C58_2
def C58_5 := cl C58_4
def R58_2 := regOps C58_5
def C58_6 := cr C58_4
def C58_7 := cl C58_6
def R58_3 := regOps C58_7
def C58_8 := cr C58_6
def C58_9 := cl C58_8
def C58_10 := cl C58_9
def R58_5 := regOps C58_10
def C58_11 := cr C58_9
def C58_12 := cl C58_11
def R58_6 := regOps C58_12
def C58_13 := cr C58_11
def C58_14 := cl C58_13
def R58_7 := regOps C58_14
def C58_15 := cr C58_13
def C58_16 := cl C58_15
def R58_8 := regOps C58_16
def C58_17 := cr C58_15
def C58_18 := cl C58_17
def R58_9 := regOps C58_18
def C58_19 := cr C58_17
def C58_20 := cl C58_19
def C58_21 := cr C58_19
def C58_22 := cl C58_21
def R58_11 := regOps C58_22
def C58_23 := cr C58_21
def C58_24 := cl C58_23
def C58_25 := cr C58_23
def C58_26 := cl C58_25
def R58_13 := regOps C58_26
def C58_27 := cr C58_25
def C58_28 := cl C58_27
def C58_29 := cr C58_27
def C58_30 := cl C58_29
def R58_15 := regOps C58_30
def C58_31 := cr C58_29
def C58_32 := cl C58_31
def R58_16 := regOps C58_32
def C58_33 := cr C58_31
def C58_34 := cl C58_33
def R58_17 := regOps C58_34
def C58_35 := cr C58_33
def C58_36 := cl C58_35
def C58_37 := cr C58_35
def C58_38 := cl C58_37
def R58_19 := regOps C58_38
def C58_39 := cr C58_37
def C58_40 := cl C58_39
def R58_20 := regOps C58_40
def C58_41 := cr C58_39
def C58_42 := cl C58_41
def R58_21 := regOps C58_42
def C58_43 := cr C58_41
def C58_44 := cl C58_43
def C58_45 := cl C58_44
def R58_22 := regOps C58_45
def C58_46 := cr C58_44
def C58_47 := cl C58_46
def R58_23 := regOps C58_47
def C58_48 := cr C58_46
def R58_24 := regOps C58_48
def C58_49 := cr C58_43
def C58_50 := cl C58_49
def R58_25 := regOps C58_50
def C58_51 := cr C58_49
def C58_52 := cl C58_51
def C58_53 := cr C58_51
def C58_54 := cl C58_53
def R58_27 := regOps C58_54
def C58_55 := cr C58_53
def C58_56 := cl C58_55
def C58_57 := cr C58_55
def C58_58 := cl C58_57
def R58_29 := regOps C58_58
def C58_59 := cr C58_57
def C58_60 := cl C58_59
def C58_61 := cr C58_59
def C58_62 := cl C58_61
def R58_31 := regOps C58_62
def C58_63 := cr C58_61
def C58_64 := cl C58_63
def C58_69 := cr C58_63
def C58_70 := cl C58_69
def R58_34 := regOps C58_70
def C58_71 := cr C58_69
def C58_72 := cl C58_71
def C58_75 := cr C58_71
def C58_76 := cl C58_75
def R58_37 := regOps C58_76
def C58_77 := cr C58_75
def C58_78 := cl C58_77
def R58_38 := regOps C58_78
def C58_79 := cr C58_77
def C58_80 := cl C58_79
def R58_39 := regOps C58_80
def C58_81 := cr C58_79
def C58_82 := cl C58_81
def C58_83 := cr C58_81
def C58_84 := cl C58_83
def R58_41 := regOps C58_84
def C58_85 := cr C58_83
def C58_86 := cl C58_85
def C58_87 := cr C58_85
def C58_88 := cl C58_87
def R58_43 := regOps C58_88
def C58_89 := cr C58_87
def C58_90 := cl C58_89
def C58_91 := cr C58_89
def C58_92 := cl C58_91
def R58_45 := regOps C58_92
def C58_93 := cr C58_91
def C58_94 := cl C58_93
def C58_95 := cr C58_93
def C58_96 := cl C58_95
def R58_47 := regOps C58_96
def C58_97 := cr C58_95
def C58_98 := cl C58_97
def C58_99 := cr C58_97
def C58_100 := cl C58_99
def R58_49 := regOps C58_100
def C58_101 := cr C58_99
def C58_102 := cl C58_101
def C58_103 := cr C58_101
def C58_104 := cl C58_103
def R58_51 := regOps C58_104
def C58_105 := cr C58_103
def C58_106 := cl C58_105
def C58_107 := cr C58_105
def R58_4 := regOps C58_107
theorem R58_0_N : dstsOk 303 R58_0 = true := by decide +kernel
theorem R58_0_O : linOk R58_0 [0, 1, 2, 3, 4, 5, 6, 7, 8, 9, 10, 11] [] = true := by decide +kernel
theorem R58_1_N : dstsOk 303 R58_1 = true := by decide +kernel
theorem R58_1_O : linOk R58_1 [0, 1, 2, 3, 4, 5, 6, 7, 8, 9, 10, 11, 12, 13, 14, 15, 16] [(17, [0, 1, 2, 3, 4, 5, 6, 7, 8, 9, 10, 11, 12, 13, 14, 15, 16], []), (18, [], [])] = true := by decide +kernel
theorem R58_2_N : dstsOk 303 R58_2 = true := by decide +kernel
theorem R58_3_N : dstsOk 303 R58_3 = true := by decide +kernel
theorem R58_5_N : dstsOk 303 R58_5 = true := by decide +kernel
theorem R58_6_N : dstsOk 303 R58_6 = true := by decide +kernel
theorem R58_7_N : dstsOk 303 R58_7 = true := by decide +kernel
theorem R58_8_N : dstsOk 303 R58_8 = true := by decide +kernel
theorem R58_9_N : dstsOk 303 R58_9 = true := by decide +kernel
theorem R58_11_N : dstsOk 303 R58_11 = true := by decide +kernel
theorem R58_13_N : dstsOk 303 R58_13 = true := by decide +kernel
theorem R58_15_N : dstsOk 303 R58_15 = true := by decide +kernel
theorem R58_16_N : dstsOk 303 R58_16 = true := by decide +kernel
theorem R58_16_O : linOk R58_16 [0, 1, 2, 3, 4, 5, 6, 7, 8] [(9, [], [])] = true := by decide +kernel
theorem R58_17_N : dstsOk 303 R58_17 = true := by decide +kernel
theorem R58_19_N : dstsOk 303 R58_19 = true := by decide +kernel
theorem R58_20_N : dstsOk 303 R58_20 = true := by decide +kernel
theorem R58_21_N : dstsOk 303 R58_21 = true := by decide +kernel
theorem R58_22_N : dstsOk 303 R58_22 = true := by decide +kernel
theorem R58_23_N : dstsOk 303 R58_23 = true := by decide +kernel
theorem R58_23_O : linOk R58_23 [0, 1, 2, 3, 4, 5, 6, 7, 8, 9, 10, 11] [(12, [0, 1, 2, 3, 4, 5, 6, 7, 8, 9, 10], []), (13, [0], [14, 15]), (16, [], [])] = true := by decide +kernel
theorem R58_24_N : dstsOk 303 R58_24 = true := by decide +kernel
theorem R58_24_O : linOk R58_24 [0, 1, 2, 3, 4, 5, 6, 7, 8, 9, 10, 11, 12, 13] [(14, [], [])] = true := by decide +kernel
theorem R58_25_N : dstsOk 303 R58_25 = true := by decide +kernel
theorem R58_27_N : dstsOk 303 R58_27 = true := by decide +kernel
theorem R58_29_N : dstsOk 303 R58_29 = true := by decide +kernel
theorem R58_31_N : dstsOk 303 R58_31 = true := by decide +kernel
theorem R58_34_N : dstsOk 303 R58_34 = true := by decide +kernel
theorem R58_37_N : dstsOk 303 R58_37 = true := by decide +kernel
theorem R58_38_N : dstsOk 303 R58_38 = true := by decide +kernel
theorem R58_39_N : dstsOk 303 R58_39 = true := by decide +kernel
theorem R58_41_N : dstsOk 303 R58_41 = true := by decide +kernel
theorem R58_43_N : dstsOk 303 R58_43 = true := by decide +kernel
theorem R58_45_N : dstsOk 303 R58_45 = true := by decide +kernel
theorem R58_47_N : dstsOk 303 R58_47 = true := by decide +kernel
theorem R58_49_N : dstsOk 303 R58_49 = true := by decide +kernel
theorem R58_51_N : dstsOk 303 R58_51 = true := by decide +kernel
theorem R58_4_N : dstsOk 303 R58_4 = true := by decide +kernel
def S58_1 (Q : Unit → AW → Prop) (E : List PanicEntry → AW → Prop)  (m_0 : Value) (f_2 : Value) (i_3 : Value) (t_42 : Int) (aw : AW) : Prop :=
  cnd (decide (t_42 = 0)) (fldA i_3 1 fun p2 =>
  ldI .i64 aw p2 fun x10 =>
  CallP prog 14 [.int .i64 x10] aw sh14 (fun r12 aw13 =>
  CallP prog 34 [m_0, .int .u64 r12] aw13 sh34 (fun r14 aw15 =>
  Q () aw15) E) E) (cnd (decide (t_42 = 1)) (fldA i_3 3 fun p17 =>
  ldS aw p17 fun x25 =>
  CallP prog 69 [m_0, .string x25] aw sh69 (fun r27 aw28 =>
  Q () aw28) E) (cnd (decide (t_42 = 2)) (False) (cnd (decide (t_42 = 3)) (False) (cnd (decide (t_42 = 4)) (False) (cnd (decide (t_42 = 5)) (nck m_0 (fldA m_0 2 fun p34 =>
  ldV aw p34 fun x42 =>
  fldA i_3 1 fun p44 =>
  ldI .i64 aw p44 fun x52 =>
  ixS x42 x52 1 fun p54 =>
  ldI .u64 aw p54 fun x66 =>
  CallP prog 34 [m_0, .int .u64 x66] aw sh34 (fun r68 aw69 =>
  Q () aw69) E)) (cnd (decide (t_42 = 6)) (False) (cnd (decide (t_42 = 7)) (CallP prog 72 [m_0] aw sh72 (fun r72 aw73 =>
  Q () aw73) E) (cnd (decide (t_42 = 8)) (CallP prog 37 [m_0] aw sh37 (fun r75 aw76 =>
  nck m_0 (fldA m_0 3 fun p78 =>
  ldV aw76 p78 fun x86 =>
  nck f_2 (fldA f_2 2 fun p89 =>
  ldI .i64 aw76 p89 fun x97 =>
  cutV aw76 1 x86 0 (IntKind.i64.wrap (x97 - 1)) fun v99 =>
  alcS aw76 [.int .u64 r75] 26 1 1 fun p101 aw102 =>
  again1 aw102 p78 (x86) ∧ again1 aw102 p89 (.int .i64 x97) ∧ Cut aw102 1 x86 0 (IntKind.i64.wrap (x97 - 1)) v99 ∧ app aw102 26 1 8 v99 p101 fun v105 aw106 =>
  nck m_0 (fldA m_0 3 fun p109 =>
  st aw106 p109 [v105] fun aw114 =>
  nck m_0 (fldA m_0 4 fun p122 =>
  ldV aw114 p122 fun x130 =>
  nck m_0 (fldA m_0 4 fun p133 =>
  ldV aw114 p133 fun x141 =>
  slen x141 fun n143 =>
  cutV aw114 3 x130 0 (IntKind.i64.wrap (n143 - 1)) fun v149 =>
  nck m_0 (fldA m_0 4 fun p152 =>
  st aw114 p152 [v149] fun aw157 =>
  Q () aw157))))))) E) (cnd (decide (t_42 = 9)) (False) (cnd (decide (t_42 = 10)) (False) (cnd (decide (t_42 = 12)) (False) (cnd (decide (t_42 = 13)) (False) (cnd (decide (t_42 = 18)) (False) (cnd (decide (t_42 = 19)) (CallP prog 37 [m_0] aw sh37 (fun r170 aw171 =>
  Q () aw171) E) (cnd (decide (t_42 = 20)) (False) (cnd (decide (t_42 = 21)) (False) (cnd (decide (t_42 = 22)) (False) (cnd (decide (t_42 = 23)) (False) (cnd (decide (t_42 = 24)) (False) (cnd (decide (t_42 = 25)) (False) (cnd (decide (t_42 = 26)) (False) (ptr i_3 fun b179 i180 =>
  gI .u8 aw b179 i180 fun c182 =>
  gI .i64 aw b179 (i180 + 1) fun c183 =>
  gI .i64 aw b179 (i180 + 2) fun c184 =>
  gS aw b179 (i180 + 3) fun c185 =>
  CallP prog 75 [m_0, .agg #[.int .u8 c182, .int .i64 c183, .int .i64 c184, .string c185]] aw sh75 (fun r190 aw191 =>
  Q () aw191) E))))))))))))))))))))))
def S58_0 (Q : Unit → AW → Prop) (E : List PanicEntry → AW → Prop)  (m_0 : Value) (aw : AW) : Prop :=
  nck m_0 (fldA m_0 4 fun p193 =>
  ldV aw p193 fun x201 =>
  nck m_0 (fldA m_0 4 fun p204 =>
  ldV aw p204 fun x212 =>
  slen x212 fun n214 =>
  ixS x201 (IntKind.i64.wrap (n214 - 1)) 3 fun p220 =>
  nck m_0 (fldA m_0 1 fun p230 =>
  ldV aw p230 fun x238 =>
  nck p220 (fldA p220 0 fun p241 =>
  ldI .i64 aw p241 fun x249 =>
  ixS x238 x249 2 fun p251 =>
  fldA p251 1 fun p260 =>
  ldV aw p260 fun x268 =>
  nck p220 (fldA p220 1 fun p271 =>
  ldI .i64 aw p271 fun x279 =>
  ixS x268 x279 4 fun p281 =>
  ptr p281 fun b290 i291 =>
  gI .u8 aw b290 i291 fun c293 =>
  gI .i64 aw b290 (i291 + 1) fun c294 =>
  gI .i64 aw b290 (i291 + 2) fun c295 =>
  gS aw b290 (i291 + 3) fun c296 =>
  alc aw [.int .u8 0, .int .i64 0, .int .i64 0, .string (⟨#[]⟩ : ByteArray)] 34 0 fun p301 aw302 =>
  again1 aw302 p230 (x238) ∧ again1 aw302 p241 (.int .i64 x249) ∧ again1 aw302 p260 (x268) ∧ again1 aw302 p271 (.int .i64 x279) ∧ aw302.get b290 i291 = some (.int .u8 c293) ∧ aw302.get b290 (i291 + 1) = some (.int .i64 c294) ∧ aw302.get b290 (i291 + 2) = some (.int .i64 c295) ∧ aw302.get b290 (i291 + 3) = some (.string c296) ∧ st aw302 p301 [.int .u8 c293, .int .i64 c294, .int .i64 c295, .string c296] fun aw305 =>
  nck p220 (fldA p220 1 fun p313 =>
  ldI .i64 aw305 p313 fun x321 =>
  nck p220 (fldA p220 1 fun p324 =>
  st aw305 p324 [.int .i64 (IntKind.i64.wrap (x321 + 1))] fun aw329 =>
  fldA p301 0 fun p336 =>
  ldI .u8 aw329 p336 fun x344 =>
  S58_1 Q E  m_0 p220 p301 x344 aw329)))))))
theorem S58_1_ok (Q : Unit → AW → Prop) (E : List PanicEntry → AW → Prop)  (ρ : Env) (m_0 : Value) (f_2 : Value) (i_3 : Value) (t_42 : Int) (aw : AW) (h0 : ρ 0 = m_0) (h2 : ρ 2 = f_2) (h3 : ρ 3 = i_3) (h42 : ρ 42 = .int .u8 t_42) (H : S58_1 Q E  m_0 f_2 i_3 t_42 aw) :
    AGo prog 303 [.code C58_8] ρ [] aw (RR prog f58 303 sh58 Q E) := by
  unfold S58_1 at H
  refine ago_blockE (rfl : C58_8 = .block 0 C58_9) ?_
  refine ago_seqE (rfl : C58_9 = .seq C58_10 C58_11) ?_
  refine ago_regE (rfl : C58_10 = .region 5 R58_5 false) (l := [0, 1]) rfl ?_
  refine lj 47 R58_5_N rfl rfl rfl (opv_eqI rfl rfl rfl h42 rfl) ?_
  refine lj 46 R58_5_N rfl rfl rfl (opv_assign rfl rfl rfl) ?_
  refine aops_nil ?_
  refine ago_condE  (rfl : C58_11 = .cond (.tmp 46) C58_12 C58_13) rfl rfl (fun hb1 => ?_) (fun hb1 => ?_)
  · replace H := cnd_t H hb1
    refine ago_regE (rfl : C58_12 = .region 6 R58_6 false) (l := [0, 1, 2, 3, 4]) rfl ?_
    refine lj 48 R58_6_N rfl rfl rfl (opv_move rfl rfl h0) ?_
    obtain ⟨b3, i4, p2, hp5, hv6, H⟩ := H
    refine lj 49 R58_6_N rfl rfl rfl (ov_fldA rfl rfl underlying34 rfl sz2 (by decide) h3 hp5 rfl hv6) ?_
    obtain ⟨b7, i8, x10, hp9, hg11, H⟩ := H
    refine lj 50 R58_6_N rfl rfl rfl (ov_ldI rfl underlying2 rfl rfl hp9 hg11) ?_
    refine lc 51 R58_6_N rfl rfl rfl (opc_of rfl rfl is14 (ma_cons rfl rfl)) H (fun _ _ h => ⟨rfl, h⟩) fun r12 aw13 H => ?_
    refine lc 52 R58_6_N rfl rfl rfl (opc_of rfl rfl is34 (ma_cons rfl (ma_cons rfl rfl))) H (fun _ _ h => ⟨rfl, h⟩) fun r14 aw15 H => ?_
    refine aops_nil ?_
    refine ago_inBlock ?_
    exact ago_nilR (r := ()) (ares_0 rfl ) rfl H
  replace H := cnd_f H hb1
  refine ago_seqE (rfl : C58_13 = .seq C58_14 C58_15) ?_
  refine ago_regE (rfl : C58_14 = .region 7 R58_7 false) (l := [0, 1]) rfl ?_
  refine lj 54 R58_7_N rfl rfl rfl (opv_eqI rfl rfl rfl h42 rfl) ?_
  refine lj 53 R58_7_N rfl rfl rfl (opv_assign rfl rfl rfl) ?_
  refine aops_nil ?_
  refine ago_condE  (rfl : C58_15 = .cond (.tmp 53) C58_16 C58_17) rfl rfl (fun hb16 => ?_) (fun hb16 => ?_)
  · replace H := cnd_t H hb16
    refine ago_regE (rfl : C58_16 = .region 8 R58_8 false) (l := [0, 1, 2, 3]) rfl ?_
    refine lj 55 R58_8_N rfl rfl rfl (opv_move rfl rfl h0) ?_
    obtain ⟨b18, i19, p17, hp20, hv21, H⟩ := H
    refine lj 56 R58_8_N rfl rfl rfl (ov_fldA rfl rfl underlying34 rfl sz9 (by decide) h3 hp20 rfl hv21) ?_
    obtain ⟨b22, i23, x25, hp24, hg26, H⟩ := H
    refine lj 57 R58_8_N rfl rfl rfl (ov_ldS rfl underlying9 rfl rfl hp24 hg26) ?_
    refine lc 58 R58_8_N rfl rfl rfl (opc_of rfl rfl is69 (ma_cons rfl (ma_cons rfl rfl))) H (fun _ _ h => ⟨rfl, h⟩) fun r27 aw28 H => ?_
    refine aops_nil ?_
    refine ago_inBlock ?_
    exact ago_nilR (r := ()) (ares_0 rfl ) rfl H
  replace H := cnd_f H hb16
  refine ago_seqE (rfl : C58_17 = .seq C58_18 C58_19) ?_
  refine ago_regE (rfl : C58_18 = .region 9 R58_9 false) (l := [0, 1]) rfl ?_
  refine lj 60 R58_9_N rfl rfl rfl (opv_eqI rfl rfl rfl h42 rfl) ?_
  refine lj 59 R58_9_N rfl rfl rfl (opv_assign rfl rfl rfl) ?_
  refine aops_nil ?_
  refine ago_condE  (rfl : C58_19 = .cond (.tmp 59) C58_20 C58_21) rfl rfl (fun hb29 => ?_) (fun hb29 => ?_)
  · exact (cnd_t H hb29).elim
  replace H := cnd_f H hb29
  refine ago_seqE (rfl : C58_21 = .seq C58_22 C58_23) ?_
  refine ago_regE (rfl : C58_22 = .region 11 R58_11 false) (l := [0, 1]) rfl ?_
  refine lj 77 R58_11_N rfl rfl rfl (opv_eqI rfl rfl rfl h42 rfl) ?_
  refine lj 76 R58_11_N rfl rfl rfl (opv_assign rfl rfl rfl) ?_
  refine aops_nil ?_
  refine ago_condE  (rfl : C58_23 = .cond (.tmp 76) C58_24 C58_25) rfl rfl (fun hb30 => ?_) (fun hb30 => ?_)
  · exact (cnd_t H hb30).elim
  replace H := cnd_f H hb30
  refine ago_seqE (rfl : C58_25 = .seq C58_26 C58_27) ?_
  refine ago_regE (rfl : C58_26 = .region 13 R58_13 false) (l := [0, 1]) rfl ?_
  refine lj 97 R58_13_N rfl rfl rfl (opv_eqI rfl rfl rfl h42 rfl) ?_
  refine lj 96 R58_13_N rfl rfl rfl (opv_assign rfl rfl rfl) ?_
  refine aops_nil ?_
  refine ago_condE  (rfl : C58_27 = .cond (.tmp 96) C58_28 C58_29) rfl rfl (fun hb31 => ?_) (fun hb31 => ?_)
  · exact (cnd_t H hb31).elim
  replace H := cnd_f H hb31
  refine ago_seqE (rfl : C58_29 = .seq C58_30 C58_31) ?_
  refine ago_regE (rfl : C58_30 = .region 15 R58_15 false) (l := [0, 1]) rfl ?_
  refine lj 112 R58_15_N rfl rfl rfl (opv_eqI rfl rfl rfl h42 rfl) ?_
  refine lj 111 R58_15_N rfl rfl rfl (opv_assign rfl rfl rfl) ?_
  refine aops_nil ?_
  refine ago_condE  (rfl : C58_31 = .cond (.tmp 111) C58_32 C58_33) rfl rfl (fun hb32 => ?_) (fun hb32 => ?_)
  · replace H := cnd_t H hb32
    refine ago_cut (fun ρ => ρ 0 = m_0 ∧ ρ 3 = i_3 ∧ True) ⟨h0, h3, trivial⟩ (fun ρ ⟨h0, h3, _⟩ => ?_)
    obtain ⟨hp33, H⟩ := H
    obtain ⟨b35, i36, p34, hp37, hv38, H⟩ := H
    obtain ⟨b39, i40, x42, hp41, hg43, H⟩ := H
    obtain ⟨b45, i46, p44, hp47, hv48, H⟩ := H
    obtain ⟨b49, i50, x52, hp51, hg53, H⟩ := H
    obtain ⟨b55, i56, l57, c58, p54, hp59, h060, hj61, hv62, H⟩ := H
    obtain ⟨b63, i64, x66, hp65, hg67, H⟩ := H
    refine ago_drawH (p := [0, 1, 2, 3, 4, 5, 6, 7, 8]) (tl := [(9, [], [])]) (hv := [(0, m_0), (1, m_0), (2, m_0), (3, p34), (4, x42), (5, p44), (6, Value.int .i64 x52), (7, p54), (8, Value.int .u64 x66)]) (rfl : C58_32 = .region 16 R58_16 true) mixed R58_16_N R58_16_O rfl (pv_cons rfl (pv_cons rfl (pv_cons rfl (pv_cons rfl (pv_cons rfl (pv_cons rfl (pv_cons rfl (pv_cons rfl (pv_cons rfl (pv_nil _))))))))))
      (fc 113 m_0 (hd_v rfl fun ρ hρ => ⟨rfl, opv_move rfl rfl ((hρ 0 (lmem rfl)).trans h0)⟩) rfl rfl
      (fc 114 m_0 (hd_v rfl fun ρ hρ => ⟨rfl, opv_move rfl rfl ((hρ 0 (lmem rfl)).trans h0)⟩) rfl rfl
      (fc 115 m_0 (hd_v rfl fun ρ hρ => ⟨rfl, ov_nck rfl rfl ((hρ 114 (lmem rfl)).trans rfl) hp33⟩) rfl rfl
      (fc 116 p34 (hd_v rfl fun ρ hρ => ⟨rfl, ov_fldA rfl rfl underlying77 rfl sz62 (by decide) ((hρ 115 (lmem rfl)).trans rfl) hp37 rfl hv38⟩) rfl rfl
      (fc 117 x42 (hd_v rfl fun ρ hρ => ⟨rfl, ov_ldV rfl underlying62 rfl rfl ((hρ 116 (lmem rfl)).trans rfl) hp41 hg43⟩) rfl rfl
      (fc 118 p44 (hd_v rfl fun ρ hρ => ⟨rfl, ov_fldA rfl rfl underlying34 rfl sz2 (by decide) ((hρ 3 (lmem rfl)).trans h3) hp47 rfl hv48⟩) rfl rfl
      (fc 119 (.int .i64 x52) (hd_v rfl fun ρ hρ => ⟨rfl, ov_ldI rfl underlying2 rfl ((hρ 118 (lmem rfl)).trans rfl) hp51 hg53⟩) rfl rfl
      (fc 120 p54 (hd_v rfl fun ρ hρ => ⟨rfl, ov_ixS rfl rfl rfl underlying62 sz26 ((hρ 117 (lmem rfl)).trans rfl) ((hρ 119 (lmem rfl)).trans rfl) hp59 h060 hj61 hv62⟩) rfl rfl
      (fc 121 (.int .u64 x66) (hd_v rfl fun ρ hρ => ⟨rfl, ov_ldI rfl underlying26 rfl ((hρ 120 (lmem rfl)).trans rfl) hp65 hg67⟩) rfl rfl
      ffn))))))))) ?_
    refine lt_call (dt := some 122) rfl rfl (fun ρ hρ => ⟨rfl, opc_of rfl rfl is34 (ma_cons ((hρ 113 (lmem rfl)).trans rfl) (ma_cons ((hρ 121 (lmem rfl)).trans rfl) rfl))⟩) H (fun _ _ h _ => ⟨rfl, h⟩) fun r68 aw69 H => ?_
    refine lt_next (l := []) (hv := []) rfl rfl (pv_nil _)
      ffn ?_
    refine lt_end ?_
    refine ago_inBlock ?_
    exact ago_nilR (r := ()) (ares_0 rfl ) rfl H
  replace H := cnd_f H hb32
  refine ago_seqE (rfl : C58_33 = .seq C58_34 C58_35) ?_
  refine ago_cut (fun ρ => ρ 0 = m_0 ∧ ρ 2 = f_2 ∧ ρ 3 = i_3 ∧ ρ 42 = .int .u8 t_42 ∧ True) ⟨h0, h2, h3, h42, trivial⟩ (fun ρ ⟨h0, h2, h3, h42, _⟩ => ?_)
  refine ago_regE (rfl : C58_34 = .region 17 R58_17 false) (l := [0, 1]) rfl ?_
  refine lj 124 R58_17_N rfl rfl rfl (opv_eqI rfl rfl rfl h42 rfl) ?_
  refine lj 123 R58_17_N rfl rfl rfl (opv_assign rfl rfl rfl) ?_
  refine aops_nil ?_
  refine ago_condE  (rfl : C58_35 = .cond (.tmp 123) C58_36 C58_37) rfl rfl (fun hb70 => ?_) (fun hb70 => ?_)
  · exact (cnd_t H hb70).elim
  replace H := cnd_f H hb70
  refine ago_seqE (rfl : C58_37 = .seq C58_38 C58_39) ?_
  refine ago_regE (rfl : C58_38 = .region 19 R58_19 false) (l := [0, 1]) rfl ?_
  refine lj 134 R58_19_N rfl rfl rfl (opv_eqI rfl rfl rfl h42 rfl) ?_
  refine lj 133 R58_19_N rfl rfl rfl (opv_assign rfl rfl rfl) ?_
  refine aops_nil ?_
  refine ago_condE  (rfl : C58_39 = .cond (.tmp 133) C58_40 C58_41) rfl rfl (fun hb71 => ?_) (fun hb71 => ?_)
  · replace H := cnd_t H hb71
    refine ago_regE (rfl : C58_40 = .region 20 R58_20 false) (l := [0, 1]) rfl ?_
    refine lj 135 R58_20_N rfl rfl rfl (opv_move rfl rfl h0) ?_
    refine lc 136 R58_20_N rfl rfl rfl (opc_of rfl rfl is72 (ma_cons rfl rfl)) H (fun _ _ h => ⟨rfl, h⟩) fun r72 aw73 H => ?_
    refine aops_nil ?_
    refine ago_inBlock ?_
    exact ago_nilR (r := ()) (ares_0 rfl ) rfl H
  replace H := cnd_f H hb71
  refine ago_seqE (rfl : C58_41 = .seq C58_42 C58_43) ?_
  refine ago_regE (rfl : C58_42 = .region 21 R58_21 false) (l := [0, 1]) rfl ?_
  refine lj 138 R58_21_N rfl rfl rfl (opv_eqI rfl rfl rfl h42 rfl) ?_
  refine lj 137 R58_21_N rfl rfl rfl (opv_assign rfl rfl rfl) ?_
  refine aops_nil ?_
  refine ago_condE  (rfl : C58_43 = .cond (.tmp 137) C58_44 C58_49) rfl rfl (fun hb74 => ?_) (fun hb74 => ?_)
  · replace H := cnd_t H hb74
    refine ago_seqE (rfl : C58_44 = .seq C58_45 C58_46) ?_
    refine ago_regE (rfl : C58_45 = .region 22 R58_22 false) (l := [0, 1, 2]) rfl ?_
    refine lj 139 R58_22_N rfl rfl rfl (opv_move rfl rfl h0) ?_
    refine lc 140 R58_22_N rfl rfl rfl (opc_of rfl rfl is37 (ma_cons rfl rfl)) H (fun _ _ h => ⟨rfl, h⟩) fun r75 aw76 H => ?_
    refine lj 4 R58_22_N rfl rfl rfl (opv_assign rfl rfl rfl) ?_
    refine aops_nil ?_
    refine ago_seqE (rfl : C58_46 = .seq C58_47 C58_48) ?_
    obtain ⟨hp77, H⟩ := H
    obtain ⟨b79, i80, p78, hp81, hv82, H⟩ := H
    obtain ⟨b83, i84, x86, hp85, hg87, H⟩ := H
    obtain ⟨hp88, H⟩ := H
    obtain ⟨b90, i91, p89, hp92, hv93, H⟩ := H
    obtain ⟨b94, i95, x97, hp96, hg98, H⟩ := H
    obtain ⟨v99, hq100, H⟩ := H
    refine ago_drawH (p := [0, 1, 2, 3, 4, 5, 6, 7, 8, 9, 10, 11]) (tl := [(12, [0, 1, 2, 3, 4, 5, 6, 7, 8, 9, 10], []), (13, [0], [14, 15]), (16, [], [])]) (hv := [(0, m_0), (1, m_0), (2, m_0), (3, p78), (4, x86), (5, f_2), (6, f_2), (7, p89), (8, Value.int .i64 x97), (9, Value.int .i64 (IntKind.i64.wrap (x97 - 1))), (10, v99), (11, Value.int .u64 r75)]) (rfl : C58_47 = .region 23 R58_23 true) mixed R58_23_N R58_23_O rfl (pv_cons rfl (pv_cons rfl (pv_cons rfl (pv_cons rfl (pv_cons rfl (pv_cons rfl (pv_cons rfl (pv_cons rfl (pv_cons rfl (pv_cons rfl (pv_cons rfl (pv_cons rfl (pv_nil _)))))))))))))
      (fc 141 m_0 (hd_v rfl fun ρ hρ => ⟨rfl, opv_move rfl rfl ((hρ 0 (lmem rfl)).trans h0)⟩) rfl rfl
      (fc 142 m_0 (hd_v rfl fun ρ hρ => ⟨rfl, opv_move rfl rfl ((hρ 0 (lmem rfl)).trans h0)⟩) rfl rfl
      (fc 143 m_0 (hd_v rfl fun ρ hρ => ⟨rfl, ov_nck rfl rfl ((hρ 142 (lmem rfl)).trans rfl) hp77⟩) rfl rfl
      (fc 144 p78 (hd_v rfl fun ρ hρ => ⟨rfl, ov_fldA rfl rfl underlying77 rfl sz62 (by decide) ((hρ 143 (lmem rfl)).trans rfl) hp81 rfl hv82⟩) rfl rfl
      (fc 145 x86 (hd_v rfl fun ρ hρ => ⟨rfl, ov_ldV rfl underlying62 rfl rfl ((hρ 144 (lmem rfl)).trans rfl) hp85 hg87⟩) rfl rfl
      (fc 146 f_2 (hd_v rfl fun ρ hρ => ⟨rfl, opv_move rfl rfl ((hρ 2 (lmem rfl)).trans h2)⟩) rfl rfl
      (fc 147 f_2 (hd_v rfl fun ρ hρ => ⟨rfl, ov_nck rfl rfl ((hρ 146 (lmem rfl)).trans rfl) hp88⟩) rfl rfl
      (fc 148 p89 (hd_v rfl fun ρ hρ => ⟨rfl, ov_fldA rfl rfl underlying85 rfl sz3 (by decide) ((hρ 147 (lmem rfl)).trans rfl) hp92 rfl hv93⟩) rfl rfl
      (fc 149 (.int .i64 x97) (hd_v rfl fun ρ hρ => ⟨rfl, ov_ldI rfl underlying3 rfl ((hρ 148 (lmem rfl)).trans rfl) hp96 hg98⟩) rfl rfl
      (fc 150 (.int .i64 (IntKind.i64.wrap (x97 - 1))) (hd_v rfl fun ρ hρ => ⟨rfl, opv_sub rfl rfl rfl ((hρ 149 (lmem rfl)).trans rfl) rfl⟩) rfl rfl
      (fc 151 v99 (hd_v rfl fun ρ hρ => ⟨rfl, ov_cutV rfl rfl underlying62 sz26 ((hρ 145 (lmem rfl)).trans rfl) (bndN _ _ _) (bndS ((hρ 150 (lmem rfl)).trans rfl)) hq100⟩) rfl rfl
      (fc 152 (.int .u64 r75) (hd_v rfl fun ρ hρ => ⟨rfl, opv_move rfl rfl ((hρ 4 (lmem rfl)).trans rfl)⟩) rfl rfl
      ffn)))))))))))) ?_
    obtain ⟨p101, aw102, hp103, ha104, H⟩ := H
    refine lt_val (dt := some 153) (v := p101) rfl rfl (fun ρ hρ => ⟨rfl, ov_bsA (r := [.int .u64 r75]) (vs := [.int .u64 r75]) rfl rfl underlying62 sz26 z26 rfl rfl rfl rfl rfl (mp_cons ((hρ 152 (lmem rfl)).trans rfl) rfl) (.one rfl .nil) hp103 ha104⟩) ?_
    obtain ⟨hg87, H⟩ := H
    replace hg87 := hg87 _ _ hp85
    obtain ⟨hg98, H⟩ := H
    replace hg98 := hg98 _ _ hp96
    obtain ⟨hq100, H⟩ := H
    refine lt_next (l := [0, 1, 2, 3, 4, 5, 6, 7, 8, 9, 10]) (hv := []) rfl rfl (pv_nil _)
      (fc 141 m_0 (hd_v rfl fun ρ hρ => ⟨rfl, opv_move rfl rfl ((hρ 0 (lmem rfl)).trans h0)⟩) rfl rfl
      (fc 142 m_0 (hd_v rfl fun ρ hρ => ⟨rfl, opv_move rfl rfl ((hρ 0 (lmem rfl)).trans h0)⟩) rfl rfl
      (fc 143 m_0 (hd_v rfl fun ρ hρ => ⟨rfl, ov_nck rfl rfl ((hρ 142 (lmem rfl)).trans rfl) hp77⟩) rfl rfl
      (fc 144 p78 (hd_v rfl fun ρ hρ => ⟨rfl, ov_fldA rfl rfl underlying77 rfl sz62 (by decide) ((hρ 143 (lmem rfl)).trans rfl) hp81 rfl hv82⟩) rfl rfl
      (fc 145 x86 (hd_v rfl fun ρ hρ => ⟨rfl, ov_ldV rfl underlying62 rfl rfl ((hρ 144 (lmem rfl)).trans rfl) hp85 hg87⟩) rfl rfl
      (fc 146 f_2 (hd_v rfl fun ρ hρ => ⟨rfl, opv_move rfl rfl ((hρ 2 (lmem rfl)).trans h2)⟩) rfl rfl
      (fc 147 f_2 (hd_v rfl fun ρ hρ => ⟨rfl, ov_nck rfl rfl ((hρ 146 (lmem rfl)).trans rfl) hp88⟩) rfl rfl
      (fc 148 p89 (hd_v rfl fun ρ hρ => ⟨rfl, ov_fldA rfl rfl underlying85 rfl sz3 (by decide) ((hρ 147 (lmem rfl)).trans rfl) hp92 rfl hv93⟩) rfl rfl
      (fc 149 (.int .i64 x97) (hd_v rfl fun ρ hρ => ⟨rfl, ov_ldI rfl underlying3 rfl ((hρ 148 (lmem rfl)).trans rfl) hp96 hg98⟩) rfl rfl
      (fc 150 (.int .i64 (IntKind.i64.wrap (x97 - 1))) (hd_v rfl fun ρ hρ => ⟨rfl, opv_sub rfl rfl rfl ((hρ 149 (lmem rfl)).trans rfl) rfl⟩) rfl rfl
      (fc 151 v99 (hd_v rfl fun ρ hρ => ⟨rfl, ov_cutV rfl rfl underlying62 sz26 ((hρ 145 (lmem rfl)).trans rfl) (bndN _ _ _) (bndS ((hρ 150 (lmem rfl)).trans rfl)) hq100⟩) rfl rfl
      ffn))))))))))) ?_
    obtain ⟨v105, aw106, hq107, H⟩ := H
    refine lt_val (dt := some 154) (v := v105) rfl rfl (fun ρ hρ => ⟨rfl, ov_app rfl rfl rfl rfl underlying62 sz26 by26 underlying62 rfl z26 rfl (by decide) (by decide) ((hρ 151 (lmem rfl)).trans rfl) ((hρ 153 (lmem rfl)).trans rfl) hq107⟩) ?_
    obtain ⟨hp108, H⟩ := H
    obtain ⟨b110, i111, p109, hp112, hv113, H⟩ := H
    refine lt_next (l := [0, 14, 15]) (hv := [(14, m_0), (15, p109)]) rfl rfl (pv_cons rfl (pv_cons rfl (pv_nil _)))
      (fc 141 m_0 (hd_v rfl fun ρ hρ => ⟨rfl, opv_move rfl rfl ((hρ 0 (lmem rfl)).trans h0)⟩) rfl rfl
      (fc 155 m_0 (hd_v rfl fun ρ hρ => ⟨rfl, ov_nck rfl rfl ((hρ 141 (lmem rfl)).trans rfl) hp108⟩) rfl rfl
      (fc 156 p109 (hd_v rfl fun ρ hρ => ⟨rfl, ov_fldA rfl rfl underlying77 rfl sz62 (by decide) ((hρ 155 (lmem rfl)).trans rfl) hp112 rfl hv113⟩) rfl rfl
      ffn))) ?_
    obtain ⟨b115, i116, aw114, hp117, hw118, ho119, ha120, H⟩ := H
    refine lt_val (dt := none) (v := undef) rfl rfl (fun ρ hρ => ⟨rfl, ov_st rfl rfl rfl ((hρ 156 (lmem rfl)).trans rfl) ((hρ 154 (lmem rfl)).trans rfl) (cells_all ho119) sz62 hp117 hw118 ho119 ha120⟩) ?_
    refine lt_next (l := []) (hv := []) rfl rfl (pv_nil _)
      ffn ?_
    refine lt_end ?_
    refine ago_cut (fun ρ => ρ 0 = m_0 ∧ True) ⟨h0, trivial⟩ (fun ρ ⟨h0, _⟩ => ?_)
    obtain ⟨hp121, H⟩ := H
    obtain ⟨b123, i124, p122, hp125, hv126, H⟩ := H
    obtain ⟨b127, i128, x130, hp129, hg131, H⟩ := H
    obtain ⟨hp132, H⟩ := H
    obtain ⟨b134, i135, p133, hp136, hv137, H⟩ := H
    obtain ⟨b138, i139, x141, hp140, hg142, H⟩ := H
    obtain ⟨q144, l145, c146, n143, hv147, hn148, H⟩ := H
    obtain ⟨v149, hq150, H⟩ := H
    obtain ⟨hp151, H⟩ := H
    obtain ⟨b153, i154, p152, hp155, hv156, H⟩ := H
    refine ago_drawH (p := [0, 1, 2, 3, 4, 5, 6, 7, 8, 9, 10, 11, 12, 13]) (tl := [(14, [], [])]) (hv := [(0, m_0), (1, m_0), (2, m_0), (3, p122), (4, x130), (5, m_0), (6, m_0), (7, p133), (8, x141), (9, Value.int .i64 n143), (10, Value.int .i64 (IntKind.i64.wrap (n143 - 1))), (11, v149), (12, m_0), (13, p152)]) (rfl : C58_48 = .region 24 R58_24 true) mixed R58_24_N R58_24_O rfl (pv_cons rfl (pv_cons rfl (pv_cons rfl (pv_cons rfl (pv_cons rfl (pv_cons rfl (pv_cons rfl (pv_cons rfl (pv_cons rfl (pv_cons rfl (pv_cons rfl (pv_cons rfl (pv_cons rfl (pv_cons rfl (pv_nil _)))))))))))))))
      (fc 157 m_0 (hd_v rfl fun ρ hρ => ⟨rfl, opv_move rfl rfl ((hρ 0 (lmem rfl)).trans h0)⟩) rfl rfl
      (fc 158 m_0 (hd_v rfl fun ρ hρ => ⟨rfl, opv_move rfl rfl ((hρ 0 (lmem rfl)).trans h0)⟩) rfl rfl
      (fc 159 m_0 (hd_v rfl fun ρ hρ => ⟨rfl, ov_nck rfl rfl ((hρ 158 (lmem rfl)).trans rfl) hp121⟩) rfl rfl
      (fc 160 p122 (hd_v rfl fun ρ hρ => ⟨rfl, ov_fldA rfl rfl underlying77 rfl sz70 (by decide) ((hρ 159 (lmem rfl)).trans rfl) hp125 rfl hv126⟩) rfl rfl
      (fc 161 x130 (hd_v rfl fun ρ hρ => ⟨rfl, ov_ldV rfl underlying70 rfl rfl ((hρ 160 (lmem rfl)).trans rfl) hp129 hg131⟩) rfl rfl
      (fc 162 m_0 (hd_v rfl fun ρ hρ => ⟨rfl, opv_move rfl rfl ((hρ 0 (lmem rfl)).trans h0)⟩) rfl rfl
      (fc 163 m_0 (hd_v rfl fun ρ hρ => ⟨rfl, ov_nck rfl rfl ((hρ 162 (lmem rfl)).trans rfl) hp132⟩) rfl rfl
      (fc 164 p133 (hd_v rfl fun ρ hρ => ⟨rfl, ov_fldA rfl rfl underlying77 rfl sz70 (by decide) ((hρ 163 (lmem rfl)).trans rfl) hp136 rfl hv137⟩) rfl rfl
      (fc 165 x141 (hd_v rfl fun ρ hρ => ⟨rfl, ov_ldV rfl underlying70 rfl rfl ((hρ 164 (lmem rfl)).trans rfl) hp140 hg142⟩) rfl rfl
      (fc 166 (.int .i64 n143) (hd_v rfl fun ρ hρ => ⟨rfl, ov_len rfl rfl rfl underlying70 ((hρ 165 (lmem rfl)).trans rfl) hv147 hn148⟩) rfl rfl
      (fc 167 (.int .i64 (IntKind.i64.wrap (n143 - 1))) (hd_v rfl fun ρ hρ => ⟨rfl, opv_sub rfl rfl rfl ((hρ 166 (lmem rfl)).trans rfl) rfl⟩) rfl rfl
      (fc 168 v149 (hd_v rfl fun ρ hρ => ⟨rfl, ov_cutV rfl rfl underlying70 sz85 ((hρ 161 (lmem rfl)).trans rfl) (bndN _ _ _) (bndS ((hρ 167 (lmem rfl)).trans rfl)) hq150⟩) rfl rfl
      (fc 169 m_0 (hd_v rfl fun ρ hρ => ⟨rfl, ov_nck rfl rfl ((hρ 157 (lmem rfl)).trans rfl) hp151⟩) rfl rfl
      (fc 170 p152 (hd_v rfl fun ρ hρ => ⟨rfl, ov_fldA rfl rfl underlying77 rfl sz70 (by decide) ((hρ 169 (lmem rfl)).trans rfl) hp155 rfl hv156⟩) rfl rfl
      ffn)))))))))))))) ?_
    obtain ⟨b158, i159, aw157, hp160, hw161, ho162, ha163, H⟩ := H
    refine lt_val (dt := none) (v := undef) rfl rfl (fun ρ hρ => ⟨rfl, ov_st rfl rfl rfl ((hρ 170 (lmem rfl)).trans rfl) ((hρ 168 (lmem rfl)).trans rfl) (cells_all ho162) sz70 hp160 hw161 ho162 ha163⟩) ?_
    refine lt_next (l := []) (hv := []) rfl rfl (pv_nil _)
      ffn ?_
    refine lt_end ?_
    refine ago_inBlock ?_
    exact ago_nilR (r := ()) (ares_0 rfl ) rfl H
  replace H := cnd_f H hb74
  refine ago_seqE (rfl : C58_49 = .seq C58_50 C58_51) ?_
  refine ago_regE (rfl : C58_50 = .region 25 R58_25 false) (l := [0, 1]) rfl ?_
  refine lj 172 R58_25_N rfl rfl rfl (opv_eqI rfl rfl rfl h42 rfl) ?_
  refine lj 171 R58_25_N rfl rfl rfl (opv_assign rfl rfl rfl) ?_
  refine aops_nil ?_
  refine ago_condE  (rfl : C58_51 = .cond (.tmp 171) C58_52 C58_53) rfl rfl (fun hb164 => ?_) (fun hb164 => ?_)
  · exact (cnd_t H hb164).elim
  replace H := cnd_f H hb164
  refine ago_seqE (rfl : C58_53 = .seq C58_54 C58_55) ?_
  refine ago_regE (rfl : C58_54 = .region 27 R58_27 false) (l := [0, 1]) rfl ?_
  refine lj 178 R58_27_N rfl rfl rfl (opv_eqI rfl rfl rfl h42 rfl) ?_
  refine lj 177 R58_27_N rfl rfl rfl (opv_assign rfl rfl rfl) ?_
  refine aops_nil ?_
  refine ago_condE  (rfl : C58_55 = .cond (.tmp 177) C58_56 C58_57) rfl rfl (fun hb165 => ?_) (fun hb165 => ?_)
  · exact (cnd_t H hb165).elim
  replace H := cnd_f H hb165
  refine ago_seqE (rfl : C58_57 = .seq C58_58 C58_59) ?_
  refine ago_regE (rfl : C58_58 = .region 29 R58_29 false) (l := [0, 1]) rfl ?_
  refine lj 186 R58_29_N rfl rfl rfl (opv_eqI rfl rfl rfl h42 rfl) ?_
  refine lj 185 R58_29_N rfl rfl rfl (opv_assign rfl rfl rfl) ?_
  refine aops_nil ?_
  refine ago_condE  (rfl : C58_59 = .cond (.tmp 185) C58_60 C58_61) rfl rfl (fun hb166 => ?_) (fun hb166 => ?_)
  · exact (cnd_t H hb166).elim
  replace H := cnd_f H hb166
  refine ago_seqE (rfl : C58_61 = .seq C58_62 C58_63) ?_
  refine ago_cut (fun ρ => ρ 0 = m_0 ∧ ρ 2 = f_2 ∧ ρ 3 = i_3 ∧ ρ 42 = .int .u8 t_42 ∧ True) ⟨h0, h2, h3, h42, trivial⟩ (fun ρ ⟨h0, h2, h3, h42, _⟩ => ?_)
  refine ago_regE (rfl : C58_62 = .region 31 R58_31 false) (l := [0, 1]) rfl ?_
  refine lj 193 R58_31_N rfl rfl rfl (opv_eqI rfl rfl rfl h42 rfl) ?_
  refine lj 192 R58_31_N rfl rfl rfl (opv_assign rfl rfl rfl) ?_
  refine aops_nil ?_
  refine ago_condE  (rfl : C58_63 = .cond (.tmp 192) C58_64 C58_69) rfl rfl (fun hb167 => ?_) (fun hb167 => ?_)
  · exact (cnd_t H hb167).elim
  replace H := cnd_f H hb167
  refine ago_seqE (rfl : C58_69 = .seq C58_70 C58_71) ?_
  refine ago_regE (rfl : C58_70 = .region 34 R58_34 false) (l := [0, 1]) rfl ?_
  refine lj 204 R58_34_N rfl rfl rfl (opv_eqI rfl rfl rfl h42 rfl) ?_
  refine lj 203 R58_34_N rfl rfl rfl (opv_assign rfl rfl rfl) ?_
  refine aops_nil ?_
  refine ago_condE  (rfl : C58_71 = .cond (.tmp 203) C58_72 C58_75) rfl rfl (fun hb168 => ?_) (fun hb168 => ?_)
  · exact (cnd_t H hb168).elim
  replace H := cnd_f H hb168
  refine ago_seqE (rfl : C58_75 = .seq C58_76 C58_77) ?_
  refine ago_regE (rfl : C58_76 = .region 37 R58_37 false) (l := [0, 1]) rfl ?_
  refine lj 227 R58_37_N rfl rfl rfl (opv_eqI rfl rfl rfl h42 rfl) ?_
  refine lj 226 R58_37_N rfl rfl rfl (opv_assign rfl rfl rfl) ?_
  refine aops_nil ?_
  refine ago_condE  (rfl : C58_77 = .cond (.tmp 226) C58_78 C58_79) rfl rfl (fun hb169 => ?_) (fun hb169 => ?_)
  · replace H := cnd_t H hb169
    refine ago_regE (rfl : C58_78 = .region 38 R58_38 false) (l := [0, 1]) rfl ?_
    refine lj 228 R58_38_N rfl rfl rfl (opv_move rfl rfl h0) ?_
    refine lc 229 R58_38_N rfl rfl rfl (opc_of rfl rfl is37 (ma_cons rfl rfl)) H (fun _ _ h => ⟨rfl, h⟩) fun r170 aw171 H => ?_
    refine aops_nil ?_
    refine ago_inBlock ?_
    exact ago_nilR (r := ()) (ares_0 rfl ) rfl H
  replace H := cnd_f H hb169
  refine ago_seqE (rfl : C58_79 = .seq C58_80 C58_81) ?_
  refine ago_regE (rfl : C58_80 = .region 39 R58_39 false) (l := [0, 1]) rfl ?_
  refine lj 231 R58_39_N rfl rfl rfl (opv_eqI rfl rfl rfl h42 rfl) ?_
  refine lj 230 R58_39_N rfl rfl rfl (opv_assign rfl rfl rfl) ?_
  refine aops_nil ?_
  refine ago_condE  (rfl : C58_81 = .cond (.tmp 230) C58_82 C58_83) rfl rfl (fun hb172 => ?_) (fun hb172 => ?_)
  · exact (cnd_t H hb172).elim
  replace H := cnd_f H hb172
  refine ago_seqE (rfl : C58_83 = .seq C58_84 C58_85) ?_
  refine ago_regE (rfl : C58_84 = .region 41 R58_41 false) (l := [0, 1]) rfl ?_
  refine lj 237 R58_41_N rfl rfl rfl (opv_eqI rfl rfl rfl h42 rfl) ?_
  refine lj 236 R58_41_N rfl rfl rfl (opv_assign rfl rfl rfl) ?_
  refine aops_nil ?_
  refine ago_condE  (rfl : C58_85 = .cond (.tmp 236) C58_86 C58_87) rfl rfl (fun hb173 => ?_) (fun hb173 => ?_)
  · exact (cnd_t H hb173).elim
  replace H := cnd_f H hb173
  refine ago_seqE (rfl : C58_87 = .seq C58_88 C58_89) ?_
  refine ago_regE (rfl : C58_88 = .region 43 R58_43 false) (l := [0, 1]) rfl ?_
  refine lj 246 R58_43_N rfl rfl rfl (opv_eqI rfl rfl rfl h42 rfl) ?_
  refine lj 245 R58_43_N rfl rfl rfl (opv_assign rfl rfl rfl) ?_
  refine aops_nil ?_
  refine ago_condE  (rfl : C58_89 = .cond (.tmp 245) C58_90 C58_91) rfl rfl (fun hb174 => ?_) (fun hb174 => ?_)
  · exact (cnd_t H hb174).elim
  replace H := cnd_f H hb174
  refine ago_seqE (rfl : C58_91 = .seq C58_92 C58_93) ?_
  refine ago_cut (fun ρ => ρ 0 = m_0 ∧ ρ 3 = i_3 ∧ ρ 42 = .int .u8 t_42 ∧ True) ⟨h0, h3, h42, trivial⟩ (fun ρ ⟨h0, h3, h42, _⟩ => ?_)
  refine ago_regE (rfl : C58_92 = .region 45 R58_45 false) (l := [0, 1]) rfl ?_
  refine lj 250 R58_45_N rfl rfl rfl (opv_eqI rfl rfl rfl h42 rfl) ?_
  refine lj 249 R58_45_N rfl rfl rfl (opv_assign rfl rfl rfl) ?_
  refine aops_nil ?_
  refine ago_condE  (rfl : C58_93 = .cond (.tmp 249) C58_94 C58_95) rfl rfl (fun hb175 => ?_) (fun hb175 => ?_)
  · exact (cnd_t H hb175).elim
  replace H := cnd_f H hb175
  refine ago_seqE (rfl : C58_95 = .seq C58_96 C58_97) ?_
  refine ago_regE (rfl : C58_96 = .region 47 R58_47 false) (l := [0, 1]) rfl ?_
  refine lj 258 R58_47_N rfl rfl rfl (opv_eqI rfl rfl rfl h42 rfl) ?_
  refine lj 257 R58_47_N rfl rfl rfl (opv_assign rfl rfl rfl) ?_
  refine aops_nil ?_
  refine ago_condE  (rfl : C58_97 = .cond (.tmp 257) C58_98 C58_99) rfl rfl (fun hb176 => ?_) (fun hb176 => ?_)
  · exact (cnd_t H hb176).elim
  replace H := cnd_f H hb176
  refine ago_seqE (rfl : C58_99 = .seq C58_100 C58_101) ?_
  refine ago_regE (rfl : C58_100 = .region 49 R58_49 false) (l := [0, 1]) rfl ?_
  refine lj 282 R58_49_N rfl rfl rfl (opv_eqI rfl rfl rfl h42 rfl) ?_
  refine lj 281 R58_49_N rfl rfl rfl (opv_assign rfl rfl rfl) ?_
  refine aops_nil ?_
  refine ago_condE  (rfl : C58_101 = .cond (.tmp 281) C58_102 C58_103) rfl rfl (fun hb177 => ?_) (fun hb177 => ?_)
  · exact (cnd_t H hb177).elim
  replace H := cnd_f H hb177
  refine ago_seqE (rfl : C58_103 = .seq C58_104 C58_105) ?_
  refine ago_regE (rfl : C58_104 = .region 51 R58_51 false) (l := [0, 1]) rfl ?_
  refine lj 298 R58_51_N rfl rfl rfl (opv_eqI rfl rfl rfl h42 rfl) ?_
  refine lj 297 R58_51_N rfl rfl rfl (opv_assign rfl rfl rfl) ?_
  refine aops_nil ?_
  refine ago_condE  (rfl : C58_105 = .cond (.tmp 297) C58_106 C58_107) rfl rfl (fun hb178 => ?_) (fun hb178 => ?_)
  · exact (cnd_t H hb178).elim
  replace H := cnd_f H hb178
  refine ago_regE (rfl : C58_107 = .region 4 R58_4 false) (l := [0, 1, 2]) rfl ?_
  refine lj 43 R58_4_N rfl rfl rfl (opv_move rfl rfl h0) ?_
  obtain ⟨b179, i180, hp181, c182, hg186, c183, hg187, c184, hg188, c185, hg189, H⟩ := H
  refine lj 44 R58_4_N rfl rfl rfl (ov_ldN rfl underlying34 rfl sz34 rfl h3 hp181 (getN_cons hg186 (getN_cons hg187 (getN_cons hg188 (getN_cons hg189 getN_nil))))) ?_
  refine lc 45 R58_4_N rfl rfl rfl (opc_of rfl rfl is75 (ma_cons rfl (ma_cons rfl rfl))) H (fun _ _ h => ⟨rfl, h⟩) fun r190 aw191 H => ?_
  refine aops_nil ?_
  refine ago_inBlock ?_
  exact ago_nilR (r := ()) (ares_0 rfl ) rfl H
theorem S58_0_ok (Q : Unit → AW → Prop) (E : List PanicEntry → AW → Prop)  (ρ : Env) (m_0 : Value) (aw : AW) (h0 : ρ 0 = m_0) (H : S58_0 Q E  m_0 aw) :
    AGo prog 303 [.code C58_0] ρ [] aw (RR prog f58 303 sh58 Q E) := by
  unfold S58_0 at H
  refine ago_seqE (rfl : C58_0 = .seq C58_1 C58_2) ?_
  obtain ⟨hp192, H⟩ := H
  obtain ⟨b194, i195, p193, hp196, hv197, H⟩ := H
  obtain ⟨b198, i199, x201, hp200, hg202, H⟩ := H
  obtain ⟨hp203, H⟩ := H
  obtain ⟨b205, i206, p204, hp207, hv208, H⟩ := H
  obtain ⟨b209, i210, x212, hp211, hg213, H⟩ := H
  obtain ⟨q215, l216, c217, n214, hv218, hn219, H⟩ := H
  obtain ⟨b221, i222, l223, c224, p220, hp225, h0226, hj227, hv228, H⟩ := H
  refine ago_drawH (p := [0, 1, 2, 3, 4, 5, 6, 7, 8, 9, 10, 11]) (tl := []) (hv := [(0, m_0), (1, m_0), (2, p193), (3, x201), (4, m_0), (5, m_0), (6, p204), (7, x212), (8, Value.int .i64 n214), (9, Value.int .i64 (IntKind.i64.wrap (n214 - 1))), (10, p220), (11, p220)]) (rfl : C58_1 = .region 0 R58_0 true) mixed R58_0_N R58_0_O rfl (pv_cons rfl (pv_cons rfl (pv_cons rfl (pv_cons rfl (pv_cons rfl (pv_cons rfl (pv_cons rfl (pv_cons rfl (pv_cons rfl (pv_cons rfl (pv_cons rfl (pv_cons rfl (pv_nil _)))))))))))))
    (fc 6 m_0 (hd_v rfl fun ρ hρ => ⟨rfl, opv_move rfl rfl ((hρ 0 (lmem rfl)).trans h0)⟩) rfl rfl
    (fc 7 m_0 (hd_v rfl fun ρ hρ => ⟨rfl, ov_nck rfl rfl ((hρ 6 (lmem rfl)).trans rfl) hp192⟩) rfl rfl
    (fc 8 p193 (hd_v rfl fun ρ hρ => ⟨rfl, ov_fldA rfl rfl underlying77 rfl sz70 (by decide) ((hρ 7 (lmem rfl)).trans rfl) hp196 rfl hv197⟩) rfl rfl
    (fc 9 x201 (hd_v rfl fun ρ hρ => ⟨rfl, ov_ldV rfl underlying70 rfl rfl ((hρ 8 (lmem rfl)).trans rfl) hp200 hg202⟩) rfl rfl
    (fc 10 m_0 (hd_v rfl fun ρ hρ => ⟨rfl, opv_move rfl rfl ((hρ 0 (lmem rfl)).trans h0)⟩) rfl rfl
    (fc 11 m_0 (hd_v rfl fun ρ hρ => ⟨rfl, ov_nck rfl rfl ((hρ 10 (lmem rfl)).trans rfl) hp203⟩) rfl rfl
    (fc 12 p204 (hd_v rfl fun ρ hρ => ⟨rfl, ov_fldA rfl rfl underlying77 rfl sz70 (by decide) ((hρ 11 (lmem rfl)).trans rfl) hp207 rfl hv208⟩) rfl rfl
    (fc 13 x212 (hd_v rfl fun ρ hρ => ⟨rfl, ov_ldV rfl underlying70 rfl rfl ((hρ 12 (lmem rfl)).trans rfl) hp211 hg213⟩) rfl rfl
    (fc 14 (.int .i64 n214) (hd_v rfl fun ρ hρ => ⟨rfl, ov_len rfl rfl rfl underlying70 ((hρ 13 (lmem rfl)).trans rfl) hv218 hn219⟩) rfl rfl
    (fc 15 (.int .i64 (IntKind.i64.wrap (n214 - 1))) (hd_v rfl fun ρ hρ => ⟨rfl, opv_sub rfl rfl rfl ((hρ 14 (lmem rfl)).trans rfl) rfl⟩) rfl rfl
    (fc 16 p220 (hd_v rfl fun ρ hρ => ⟨rfl, ov_ixS rfl rfl rfl underlying70 sz85 ((hρ 9 (lmem rfl)).trans rfl) ((hρ 15 (lmem rfl)).trans rfl) hp225 h0226 hj227 hv228⟩) rfl rfl
    (fc 2 p220 (hd_v rfl fun ρ hρ => ⟨rfl, opv_assign rfl rfl ((hρ 16 (lmem rfl)).trans rfl)⟩) rfl rfl
    ffn)))))))))))) ?_
  refine lt_end ?_
  refine ago_seqE (rfl : C58_2 = .seq C58_3 C58_4) ?_
  refine ago_cut (fun ρ => ρ 0 = m_0 ∧ ρ 2 = p220 ∧ True) ⟨h0, rfl, trivial⟩ (fun ρ ⟨h0, h2, _⟩ => ?_)
  obtain ⟨hp229, H⟩ := H
  obtain ⟨b231, i232, p230, hp233, hv234, H⟩ := H
  obtain ⟨b235, i236, x238, hp237, hg239, H⟩ := H
  obtain ⟨hp240, H⟩ := H
  obtain ⟨b242, i243, p241, hp244, hv245, H⟩ := H
  obtain ⟨b246, i247, x249, hp248, hg250, H⟩ := H
  obtain ⟨b252, i253, l254, c255, p251, hp256, h0257, hj258, hv259, H⟩ := H
  obtain ⟨b261, i262, p260, hp263, hv264, H⟩ := H
  obtain ⟨b265, i266, x268, hp267, hg269, H⟩ := H
  obtain ⟨hp270, H⟩ := H
  obtain ⟨b272, i273, p271, hp274, hv275, H⟩ := H
  obtain ⟨b276, i277, x279, hp278, hg280, H⟩ := H
  obtain ⟨b282, i283, l284, c285, p281, hp286, h0287, hj288, hv289, H⟩ := H
  obtain ⟨b290, i291, hp292, c293, hg297, c294, hg298, c295, hg299, c296, hg300, H⟩ := H
  refine ago_drawH (p := [0, 1, 2, 3, 4, 5, 6, 7, 8, 9, 10, 11, 12, 13, 14, 15, 16]) (tl := [(17, [0, 1, 2, 3, 4, 5, 6, 7, 8, 9, 10, 11, 12, 13, 14, 15, 16], []), (18, [], [])]) (hv := [(0, m_0), (1, m_0), (2, p230), (3, x238), (4, p220), (5, p220), (6, p241), (7, Value.int .i64 x249), (8, p251), (9, p260), (10, x268), (11, p220), (12, p220), (13, p271), (14, Value.int .i64 x279), (15, p281), (16, Value.agg #[.int .u8 c293, .int .i64 c294, .int .i64 c295, .string c296])]) (rfl : C58_3 = .region 1 R58_1 true) mixed R58_1_N R58_1_O rfl (pv_cons rfl (pv_cons rfl (pv_cons rfl (pv_cons rfl (pv_cons rfl (pv_cons rfl (pv_cons rfl (pv_cons rfl (pv_cons rfl (pv_cons rfl (pv_cons rfl (pv_cons rfl (pv_cons rfl (pv_cons rfl (pv_cons rfl (pv_cons rfl (pv_cons rfl (pv_nil _))))))))))))))))))
    (fc 17 m_0 (hd_v rfl fun ρ hρ => ⟨rfl, opv_move rfl rfl ((hρ 0 (lmem rfl)).trans h0)⟩) rfl rfl
    (fc 18 m_0 (hd_v rfl fun ρ hρ => ⟨rfl, ov_nck rfl rfl ((hρ 17 (lmem rfl)).trans rfl) hp229⟩) rfl rfl
    (fc 19 p230 (hd_v rfl fun ρ hρ => ⟨rfl, ov_fldA rfl rfl underlying77 rfl sz44 (by decide) ((hρ 18 (lmem rfl)).trans rfl) hp233 rfl hv234⟩) rfl rfl
    (fc 20 x238 (hd_v rfl fun ρ hρ => ⟨rfl, ov_ldV rfl underlying44 rfl rfl ((hρ 19 (lmem rfl)).trans rfl) hp237 hg239⟩) rfl rfl
    (fc 21 p220 (hd_v rfl fun ρ hρ => ⟨rfl, opv_move rfl rfl ((hρ 2 (lmem rfl)).trans h2)⟩) rfl rfl
    (fc 22 p220 (hd_v rfl fun ρ hρ => ⟨rfl, ov_nck rfl rfl ((hρ 21 (lmem rfl)).trans rfl) hp240⟩) rfl rfl
    (fc 23 p241 (hd_v rfl fun ρ hρ => ⟨rfl, ov_fldA rfl rfl underlying85 rfl sz3 (by decide) ((hρ 22 (lmem rfl)).trans rfl) hp244 rfl hv245⟩) rfl rfl
    (fc 24 (.int .i64 x249) (hd_v rfl fun ρ hρ => ⟨rfl, ov_ldI rfl underlying3 rfl ((hρ 23 (lmem rfl)).trans rfl) hp248 hg250⟩) rfl rfl
    (fc 25 p251 (hd_v rfl fun ρ hρ => ⟨rfl, ov_ixS rfl rfl rfl underlying44 sz43 ((hρ 20 (lmem rfl)).trans rfl) ((hρ 24 (lmem rfl)).trans rfl) hp256 h0257 hj258 hv259⟩) rfl rfl
    (fc 26 p260 (hd_v rfl fun ρ hρ => ⟨rfl, ov_fldA rfl rfl underlying43 rfl sz35 (by decide) ((hρ 25 (lmem rfl)).trans rfl) hp263 rfl hv264⟩) rfl rfl
    (fc 27 x268 (hd_v rfl fun ρ hρ => ⟨rfl, ov_ldV rfl underlying35 rfl rfl ((hρ 26 (lmem rfl)).trans rfl) hp267 hg269⟩) rfl rfl
    (fc 28 p220 (hd_v rfl fun ρ hρ => ⟨rfl, opv_move rfl rfl ((hρ 2 (lmem rfl)).trans h2)⟩) rfl rfl
    (fc 29 p220 (hd_v rfl fun ρ hρ => ⟨rfl, ov_nck rfl rfl ((hρ 28 (lmem rfl)).trans rfl) hp270⟩) rfl rfl
    (fc 30 p271 (hd_v rfl fun ρ hρ => ⟨rfl, ov_fldA rfl rfl underlying85 rfl sz3 (by decide) ((hρ 29 (lmem rfl)).trans rfl) hp274 rfl hv275⟩) rfl rfl
    (fc 31 (.int .i64 x279) (hd_v rfl fun ρ hρ => ⟨rfl, ov_ldI rfl underlying3 rfl ((hρ 30 (lmem rfl)).trans rfl) hp278 hg280⟩) rfl rfl
    (fc 32 p281 (hd_v rfl fun ρ hρ => ⟨rfl, ov_ixS rfl rfl rfl underlying35 sz34 ((hρ 27 (lmem rfl)).trans rfl) ((hρ 31 (lmem rfl)).trans rfl) hp286 h0287 hj288 hv289⟩) rfl rfl
    (fc 33 (.agg #[.int .u8 c293, .int .i64 c294, .int .i64 c295, .string c296]) (hd_v rfl fun ρ hρ => ⟨rfl, ov_ldN rfl underlying34 rfl sz34 rfl ((hρ 32 (lmem rfl)).trans rfl) hp292 (getN_cons hg297 (getN_cons hg298 (getN_cons hg299 (getN_cons hg300 getN_nil))))⟩) rfl rfl
    ffn))))))))))))))))) ?_
  obtain ⟨p301, aw302, hp303, ha304, H⟩ := H
  refine lt_val (dt := some 3) (v := p301) rfl rfl (fun ρ hρ => ⟨rfl, ov_alloc rfl z34 rfl rfl hp303 ha304⟩) ?_
  obtain ⟨hg239, H⟩ := H
  replace hg239 := hg239 _ _ hp237
  obtain ⟨hg250, H⟩ := H
  replace hg250 := hg250 _ _ hp248
  obtain ⟨hg269, H⟩ := H
  replace hg269 := hg269 _ _ hp267
  obtain ⟨hg280, H⟩ := H
  replace hg280 := hg280 _ _ hp278
  obtain ⟨hg297, H⟩ := H
  obtain ⟨hg298, H⟩ := H
  obtain ⟨hg299, H⟩ := H
  obtain ⟨hg300, H⟩ := H
  refine lt_next (l := [0, 1, 2, 3, 4, 5, 6, 7, 8, 9, 10, 11, 12, 13, 14, 15, 16]) (hv := []) rfl rfl (pv_nil _)
    (fc 17 m_0 (hd_v rfl fun ρ hρ => ⟨rfl, opv_move rfl rfl ((hρ 0 (lmem rfl)).trans h0)⟩) rfl rfl
    (fc 18 m_0 (hd_v rfl fun ρ hρ => ⟨rfl, ov_nck rfl rfl ((hρ 17 (lmem rfl)).trans rfl) hp229⟩) rfl rfl
    (fc 19 p230 (hd_v rfl fun ρ hρ => ⟨rfl, ov_fldA rfl rfl underlying77 rfl sz44 (by decide) ((hρ 18 (lmem rfl)).trans rfl) hp233 rfl hv234⟩) rfl rfl
    (fc 20 x238 (hd_v rfl fun ρ hρ => ⟨rfl, ov_ldV rfl underlying44 rfl rfl ((hρ 19 (lmem rfl)).trans rfl) hp237 hg239⟩) rfl rfl
    (fc 21 p220 (hd_v rfl fun ρ hρ => ⟨rfl, opv_move rfl rfl ((hρ 2 (lmem rfl)).trans h2)⟩) rfl rfl
    (fc 22 p220 (hd_v rfl fun ρ hρ => ⟨rfl, ov_nck rfl rfl ((hρ 21 (lmem rfl)).trans rfl) hp240⟩) rfl rfl
    (fc 23 p241 (hd_v rfl fun ρ hρ => ⟨rfl, ov_fldA rfl rfl underlying85 rfl sz3 (by decide) ((hρ 22 (lmem rfl)).trans rfl) hp244 rfl hv245⟩) rfl rfl
    (fc 24 (.int .i64 x249) (hd_v rfl fun ρ hρ => ⟨rfl, ov_ldI rfl underlying3 rfl ((hρ 23 (lmem rfl)).trans rfl) hp248 hg250⟩) rfl rfl
    (fc 25 p251 (hd_v rfl fun ρ hρ => ⟨rfl, ov_ixS rfl rfl rfl underlying44 sz43 ((hρ 20 (lmem rfl)).trans rfl) ((hρ 24 (lmem rfl)).trans rfl) hp256 h0257 hj258 hv259⟩) rfl rfl
    (fc 26 p260 (hd_v rfl fun ρ hρ => ⟨rfl, ov_fldA rfl rfl underlying43 rfl sz35 (by decide) ((hρ 25 (lmem rfl)).trans rfl) hp263 rfl hv264⟩) rfl rfl
    (fc 27 x268 (hd_v rfl fun ρ hρ => ⟨rfl, ov_ldV rfl underlying35 rfl rfl ((hρ 26 (lmem rfl)).trans rfl) hp267 hg269⟩) rfl rfl
    (fc 28 p220 (hd_v rfl fun ρ hρ => ⟨rfl, opv_move rfl rfl ((hρ 2 (lmem rfl)).trans h2)⟩) rfl rfl
    (fc 29 p220 (hd_v rfl fun ρ hρ => ⟨rfl, ov_nck rfl rfl ((hρ 28 (lmem rfl)).trans rfl) hp270⟩) rfl rfl
    (fc 30 p271 (hd_v rfl fun ρ hρ => ⟨rfl, ov_fldA rfl rfl underlying85 rfl sz3 (by decide) ((hρ 29 (lmem rfl)).trans rfl) hp274 rfl hv275⟩) rfl rfl
    (fc 31 (.int .i64 x279) (hd_v rfl fun ρ hρ => ⟨rfl, ov_ldI rfl underlying3 rfl ((hρ 30 (lmem rfl)).trans rfl) hp278 hg280⟩) rfl rfl
    (fc 32 p281 (hd_v rfl fun ρ hρ => ⟨rfl, ov_ixS rfl rfl rfl underlying35 sz34 ((hρ 27 (lmem rfl)).trans rfl) ((hρ 31 (lmem rfl)).trans rfl) hp286 h0287 hj288 hv289⟩) rfl rfl
    (fc 33 (.agg #[.int .u8 c293, .int .i64 c294, .int .i64 c295, .string c296]) (hd_v rfl fun ρ hρ => ⟨rfl, ov_ldN rfl underlying34 rfl sz34 rfl ((hρ 32 (lmem rfl)).trans rfl) hp292 (getN_cons hg297 (getN_cons hg298 (getN_cons hg299 (getN_cons hg300 getN_nil))))⟩) rfl rfl
    ffn))))))))))))))))) ?_
  obtain ⟨b306, i307, aw305, hp308, hw309, ho310, ha311, H⟩ := H
  refine lt_val (dt := none) (v := undef) rfl rfl (fun ρ hρ => ⟨rfl, ov_st rfl rfl rfl ((hρ 3 (lmem rfl)).trans rfl) ((hρ 33 (lmem rfl)).trans rfl) rfl sz34 hp308 hw309 ho310 ha311⟩) ?_
  refine lt_next (l := []) (hv := []) rfl rfl (pv_nil _)
    ffn ?_
  refine lt_end ?_
  refine ago_seqE (rfl : C58_4 = .seq C58_5 C58_6) ?_
  refine ago_cut (fun ρ => ρ 0 = m_0 ∧ ρ 2 = p220 ∧ ρ 3 = p301 ∧ True) ⟨h0, h2, rfl, trivial⟩ (fun ρ ⟨h0, h2, h3, _⟩ => ?_)
  refine ago_regE (rfl : C58_5 = .region 2 R58_2 false) (l := [0, 1, 2, 3, 4, 5, 6, 7]) rfl ?_
  refine lj 34 R58_2_N rfl rfl rfl (opv_move rfl rfl h2) ?_
  obtain ⟨hp312, H⟩ := H
  refine lj 35 R58_2_N rfl rfl rfl (ov_nck rfl rfl rfl hp312) ?_
  obtain ⟨b314, i315, p313, hp316, hv317, H⟩ := H
  refine lj 36 R58_2_N rfl rfl rfl (ov_fldA rfl rfl underlying85 rfl sz3 (by decide) rfl hp316 rfl hv317) ?_
  obtain ⟨b318, i319, x321, hp320, hg322, H⟩ := H
  refine lj 37 R58_2_N rfl rfl rfl (ov_ldI rfl underlying3 rfl rfl hp320 hg322) ?_
  refine lj 38 R58_2_N rfl rfl rfl (opv_add rfl rfl rfl rfl rfl) ?_
  obtain ⟨hp323, H⟩ := H
  refine lj 39 R58_2_N rfl rfl rfl (ov_nck rfl rfl rfl hp323) ?_
  obtain ⟨b325, i326, p324, hp327, hv328, H⟩ := H
  refine lj 40 R58_2_N rfl rfl rfl (ov_fldA rfl rfl underlying85 rfl sz3 (by decide) rfl hp327 rfl hv328) ?_
  obtain ⟨b330, i331, aw329, hp332, hw333, ho334, ha335, H⟩ := H
  refine lk (dt := none) R58_2_N rfl rfl rfl (ov_st rfl rfl rfl rfl rfl rfl sz3 hp332 hw333 ho334 ha335) ?_
  refine aops_nil ?_
  refine ago_seqE (rfl : C58_6 = .seq C58_7 C58_8) ?_
  refine ago_regE (rfl : C58_7 = .region 3 R58_3 false) (l := [0, 1]) rfl ?_
  obtain ⟨b337, i338, p336, hp339, hv340, H⟩ := H
  refine lj 41 R58_3_N rfl rfl rfl (ov_fldA rfl rfl underlying34 rfl sz5 (by decide) h3 hp339 rfl hv340) ?_
  obtain ⟨b341, i342, x344, hp343, hg345, H⟩ := H
  refine lj 42 R58_3_N rfl rfl rfl (ov_ldI rfl underlying5 rfl rfl hp343 hg345) ?_
  refine aops_nil ?_
  exact S58_1_ok Q E  _ m_0 p220 p301 x344 aw329 h0 h2 h3 rfl H
theorem F58_ok {Q : Unit → AW → Prop} {E : List PanicEntry → AW → Prop} (m_0 : Value) (aw : AW) (H : S58_0 Q E m_0 aw) : CallP prog 58 [m_0] aw sh58 Q E :=
  callP_of func58 C58_is rfl (Nat.le_of_ble_eq_true rfl) (S58_0_ok Q E _ m_0 aw rfl H)
def C67_0 := bodyOf f67
theorem C67_is : f67.body = some C67_0 := by kernel_rfl
def C67_1 := cl C67_0
def R67_0 := regOps C67_1
def C67_2 := cr C67_0
def C67_3 := cl C67_2
def C67_4 := cl C67_3
def R67_1 := regOps C67_4
def C67_5 := cr C67_3
def C67_6 := cl C67_5
def C67_7 := cr C67_5
def C67_8 := cr C67_2
def C67_9 := cl C67_8
def R67_3 := regOps C67_9
def C67_10 := cr C67_8
theorem R67_0_N : dstsOk 38 R67_0 = true := by decide +kernel
theorem R67_1_N : dstsOk 38 R67_1 = true := by decide +kernel
theorem R67_1_O : linOk R67_1 [0, 1, 2, 3, 4, 6, 7, 8, 9] [(5, [0, 6, 7, 8, 9], []), (10, [0], [11, 12])] = true := by decide +kernel
theorem R67_3_N : dstsOk 38 R67_3 = true := by decide +kernel
theorem R67_3_O : linOk R67_3 [0, 1, 2, 3, 4, 6, 7, 8, 9] [(5, [0, 6, 7, 8, 9], []), (10, [0], [11, 12, 13])] = true := by decide +kernel
def S67_1 (Q : Bool → AW → Prop) (E : List PanicEntry → AW → Prop)  (m_0 : Value) (n_1 : Int) (aw : AW) : Prop :=
  nck m_0 (fldA m_0 0 fun p2 =>
  ldV aw p2 fun x10 =>
  nck m_0 (fldA m_0 0 fun p13 =>
  ldV aw p13 fun x21 =>
  CallP prog 79 [x10] aw sh79 (fun r23 aw24 =>
  again1 aw24 p13 (x21) ∧ CallP prog 23 [x21] aw24 sh23 (fun r25 aw26 =>
  Q (decide (n_1 ≤ (IntKind.i64.wrap (r23 - r25)))) aw26) E) E))
def S67_0 (Q : Bool → AW → Prop) (E : List PanicEntry → AW → Prop)  (m_0 : Value) (n_1 : Int) (aw : AW) : Prop :=
  nck m_0 (fldA m_0 0 fun p28 =>
  ldV aw p28 fun x36 =>
  nck m_0 (fldA m_0 0 fun p39 =>
  ldV aw p39 fun x47 =>
  CallP prog 79 [x36] aw sh79 (fun r49 aw50 =>
  again1 aw50 p39 (x47) ∧ CallP prog 23 [x47] aw50 sh23 (fun r51 aw52 =>
  cnd (decide ((IntKind.i64.wrap (r49 - r51)) < n_1)) (False) (S67_1 Q E  m_0 n_1 aw52)) E) E))
theorem S67_1_ok (Q : Bool → AW → Prop) (E : List PanicEntry → AW → Prop)  (ρ : Env) (m_0 : Value) (n_1 : Int) (aw : AW) (h0 : ρ 0 = m_0) (h1 : ρ 1 = .int .i64 n_1) (H : S67_1 Q E  m_0 n_1 aw) :
    AGo prog 38 [.code C67_8] ρ [] aw (RR prog f67 38 sh67 Q E) := by
  unfold S67_1 at H
  refine ago_seqE (rfl : C67_8 = .seq C67_9 C67_10) ?_
  obtain ⟨hp1, H⟩ := H
  obtain ⟨b3, i4, p2, hp5, hv6, H⟩ := H
  obtain ⟨b7, i8, x10, hp9, hg11, H⟩ := H
  obtain ⟨hp12, H⟩ := H
  obtain ⟨b14, i15, p13, hp16, hv17, H⟩ := H
  obtain ⟨b18, i19, x21, hp20, hg22, H⟩ := H
  refine ago_drawH (p := [0, 1, 2, 3, 4, 6, 7, 8, 9]) (tl := [(5, [0, 6, 7, 8, 9], []), (10, [0], [11, 12, 13])]) (hv := [(0, Value.int .i64 n_1), (1, m_0), (2, m_0), (3, p2), (4, x10), (6, m_0), (7, m_0), (8, p13), (9, x21)]) (rfl : C67_9 = .region 3 R67_3 true) mixed R67_3_N R67_3_O rfl (pv_cons rfl (pv_cons rfl (pv_cons rfl (pv_cons rfl (pv_cons rfl (pv_cons rfl (pv_cons rfl (pv_cons rfl (pv_cons rfl (pv_nil _))))))))))
    (fc 25 (.int .i64 n_1) (hd_v rfl fun ρ hρ => ⟨rfl, opv_move rfl rfl ((hρ 1 (lmem rfl)).trans h1)⟩) rfl rfl
    (fc 26 m_0 (hd_v rfl fun ρ hρ => ⟨rfl, opv_move rfl rfl ((hρ 0 (lmem rfl)).trans h0)⟩) rfl rfl
    (fc 27 m_0 (hd_v rfl fun ρ hρ => ⟨rfl, ov_nck rfl rfl ((hρ 26 (lmem rfl)).trans rfl) hp1⟩) rfl rfl
    (fc 28 p2 (hd_v rfl fun ρ hρ => ⟨rfl, ov_fldA rfl rfl underlying77 rfl sz50 (by decide) ((hρ 27 (lmem rfl)).trans rfl) hp5 rfl hv6⟩) rfl rfl
    (fc 29 x10 (hd_v rfl fun ρ hρ => ⟨rfl, ov_ldV rfl underlying50 rfl rfl ((hρ 28 (lmem rfl)).trans rfl) hp9 hg11⟩) rfl rfl
    (fc 31 m_0 (hd_v rfl fun ρ hρ => ⟨rfl, opv_move rfl rfl ((hρ 0 (lmem rfl)).trans h0)⟩) rfl rfl
    (fc 32 m_0 (hd_v rfl fun ρ hρ => ⟨rfl, ov_nck rfl rfl ((hρ 31 (lmem rfl)).trans rfl) hp12⟩) rfl rfl
    (fc 33 p13 (hd_v rfl fun ρ hρ => ⟨rfl, ov_fldA rfl rfl underlying77 rfl sz50 (by decide) ((hρ 32 (lmem rfl)).trans rfl) hp16 rfl hv17⟩) rfl rfl
    (fc 34 x21 (hd_v rfl fun ρ hρ => ⟨rfl, ov_ldV rfl underlying50 rfl rfl ((hρ 33 (lmem rfl)).trans rfl) hp20 hg22⟩) rfl rfl
    ffn))))))))) ?_
  refine lt_call (dt := some 30) rfl rfl (fun ρ hρ => ⟨rfl, opc_of rfl rfl is79 (ma_cons ((hρ 29 (lmem rfl)).trans rfl) rfl)⟩) H (fun _ _ h _ => ⟨rfl, h⟩) fun r23 aw24 H => ?_
  obtain ⟨hg22, H⟩ := H
  replace hg22 := hg22 _ _ hp20
  refine lt_next (l := [0, 6, 7, 8, 9]) (hv := []) rfl rfl (pv_nil _)
    (fc 25 (.int .i64 n_1) (hd_v rfl fun ρ hρ => ⟨rfl, opv_move rfl rfl ((hρ 1 (lmem rfl)).trans h1)⟩) rfl rfl
    (fc 31 m_0 (hd_v rfl fun ρ hρ => ⟨rfl, opv_move rfl rfl ((hρ 0 (lmem rfl)).trans h0)⟩) rfl rfl
    (fc 32 m_0 (hd_v rfl fun ρ hρ => ⟨rfl, ov_nck rfl rfl ((hρ 31 (lmem rfl)).trans rfl) hp12⟩) rfl rfl
    (fc 33 p13 (hd_v rfl fun ρ hρ => ⟨rfl, ov_fldA rfl rfl underlying77 rfl sz50 (by decide) ((hρ 32 (lmem rfl)).trans rfl) hp16 rfl hv17⟩) rfl rfl
    (fc 34 x21 (hd_v rfl fun ρ hρ => ⟨rfl, ov_ldV rfl underlying50 rfl rfl ((hρ 33 (lmem rfl)).trans rfl) hp20 hg22⟩) rfl rfl
    ffn))))) ?_
  refine lt_call (dt := some 35) rfl rfl (fun ρ hρ => ⟨rfl, opc_of rfl rfl is23 (ma_cons ((hρ 34 (lmem rfl)).trans rfl) rfl)⟩) H (fun _ _ h _ => ⟨rfl, h⟩) fun r25 aw26 H => ?_
  refine lt_next (l := [0, 11, 12, 13]) (hv := [(11, Value.int .i64 (IntKind.i64.wrap (r23 - r25))), (12, Value.bool (decide (n_1 ≤ (IntKind.i64.wrap (r23 - r25))))), (13, Value.bool (decide (n_1 ≤ (IntKind.i64.wrap (r23 - r25)))))]) rfl rfl (pv_cons rfl (pv_cons rfl (pv_cons rfl (pv_nil _))))
    (fc 25 (.int .i64 n_1) (hd_v rfl fun ρ hρ => ⟨rfl, opv_move rfl rfl ((hρ 1 (lmem rfl)).trans h1)⟩) rfl rfl
    (fc 36 (.int .i64 (IntKind.i64.wrap (r23 - r25))) (hd_v rfl fun ρ hρ => ⟨rfl, opv_sub rfl rfl rfl ((hρ 30 (lmem rfl)).trans rfl) ((hρ 35 (lmem rfl)).trans rfl)⟩) rfl rfl
    (fc 37 (.bool (decide (n_1 ≤ (IntKind.i64.wrap (r23 - r25))))) (hd_v rfl fun ρ hρ => ⟨rfl, opv_le rfl rfl rfl ((hρ 25 (lmem rfl)).trans rfl) ((hρ 36 (lmem rfl)).trans rfl)⟩) rfl rfl
    (fc 4 (.bool (decide (n_1 ≤ (IntKind.i64.wrap (r23 - r25))))) (hd_v rfl fun ρ hρ => ⟨rfl, opv_assign rfl rfl ((hρ 37 (lmem rfl)).trans rfl)⟩) rfl rfl
    ffn)))) ?_
  refine lt_end ?_
  exact ago_retE (rfl : C67_10 = .ret) (r := (decide (n_1 ≤ (IntKind.i64.wrap (r23 - r25))))) (ares_1 rfl (oneT rfl)) rfl H
theorem S67_0_ok (Q : Bool → AW → Prop) (E : List PanicEntry → AW → Prop)  (ρ : Env) (m_0 : Value) (n_1 : Int) (aw : AW) (h0 : ρ 0 = m_0) (h1 : ρ 1 = .int .i64 n_1) (H : S67_0 Q E  m_0 n_1 aw) :
    AGo prog 38 [.code C67_0] ρ [] aw (RR prog f67 38 sh67 Q E) := by
  unfold S67_0 at H
  refine ago_seqE (rfl : C67_0 = .seq C67_1 C67_2) ?_
  refine ago_regE (rfl : C67_1 = .region 0 R67_0 false) (l := [0]) rfl ?_
  refine lj 4 R67_0_N rfl rfl rfl (opv_assign rfl rfl rfl) ?_
  refine aops_nil ?_
  refine ago_seqE (rfl : C67_2 = .seq C67_3 C67_8) ?_
  refine ago_seqE (rfl : C67_3 = .seq C67_4 C67_5) ?_
  obtain ⟨hp27, H⟩ := H
  obtain ⟨b29, i30, p28, hp31, hv32, H⟩ := H
  obtain ⟨b33, i34, x36, hp35, hg37, H⟩ := H
  obtain ⟨hp38, H⟩ := H
  obtain ⟨b40, i41, p39, hp42, hv43, H⟩ := H
  obtain ⟨b44, i45, x47, hp46, hg48, H⟩ := H
  refine ago_drawH (p := [0, 1, 2, 3, 4, 6, 7, 8, 9]) (tl := [(5, [0, 6, 7, 8, 9], []), (10, [0], [11, 12])]) (hv := [(0, Value.int .i64 n_1), (1, m_0), (2, m_0), (3, p28), (4, x36), (6, m_0), (7, m_0), (8, p39), (9, x47)]) (rfl : C67_4 = .region 1 R67_1 true) mixed R67_1_N R67_1_O rfl (pv_cons rfl (pv_cons rfl (pv_cons rfl (pv_cons rfl (pv_cons rfl (pv_cons rfl (pv_cons rfl (pv_cons rfl (pv_cons rfl (pv_nil _))))))))))
    (fc 5 (.int .i64 n_1) (hd_v rfl fun ρ hρ => ⟨rfl, opv_move rfl rfl ((hρ 1 (lmem rfl)).trans h1)⟩) rfl rfl
    (fc 6 m_0 (hd_v rfl fun ρ hρ => ⟨rfl, opv_move rfl rfl ((hρ 0 (lmem rfl)).trans h0)⟩) rfl rfl
    (fc 7 m_0 (hd_v rfl fun ρ hρ => ⟨rfl, ov_nck rfl rfl ((hρ 6 (lmem rfl)).trans rfl) hp27⟩) rfl rfl
    (fc 8 p28 (hd_v rfl fun ρ hρ => ⟨rfl, ov_fldA rfl rfl underlying77 rfl sz50 (by decide) ((hρ 7 (lmem rfl)).trans rfl) hp31 rfl hv32⟩) rfl rfl
    (fc 9 x36 (hd_v rfl fun ρ hρ => ⟨rfl, ov_ldV rfl underlying50 rfl rfl ((hρ 8 (lmem rfl)).trans rfl) hp35 hg37⟩) rfl rfl
    (fc 11 m_0 (hd_v rfl fun ρ hρ => ⟨rfl, opv_move rfl rfl ((hρ 0 (lmem rfl)).trans h0)⟩) rfl rfl
    (fc 12 m_0 (hd_v rfl fun ρ hρ => ⟨rfl, ov_nck rfl rfl ((hρ 11 (lmem rfl)).trans rfl) hp38⟩) rfl rfl
    (fc 13 p39 (hd_v rfl fun ρ hρ => ⟨rfl, ov_fldA rfl rfl underlying77 rfl sz50 (by decide) ((hρ 12 (lmem rfl)).trans rfl) hp42 rfl hv43⟩) rfl rfl
    (fc 14 x47 (hd_v rfl fun ρ hρ => ⟨rfl, ov_ldV rfl underlying50 rfl rfl ((hρ 13 (lmem rfl)).trans rfl) hp46 hg48⟩) rfl rfl
    ffn))))))))) ?_
  refine lt_call (dt := some 10) rfl rfl (fun ρ hρ => ⟨rfl, opc_of rfl rfl is79 (ma_cons ((hρ 9 (lmem rfl)).trans rfl) rfl)⟩) H (fun _ _ h _ => ⟨rfl, h⟩) fun r49 aw50 H => ?_
  obtain ⟨hg48, H⟩ := H
  replace hg48 := hg48 _ _ hp46
  refine lt_next (l := [0, 6, 7, 8, 9]) (hv := []) rfl rfl (pv_nil _)
    (fc 5 (.int .i64 n_1) (hd_v rfl fun ρ hρ => ⟨rfl, opv_move rfl rfl ((hρ 1 (lmem rfl)).trans h1)⟩) rfl rfl
    (fc 11 m_0 (hd_v rfl fun ρ hρ => ⟨rfl, opv_move rfl rfl ((hρ 0 (lmem rfl)).trans h0)⟩) rfl rfl
    (fc 12 m_0 (hd_v rfl fun ρ hρ => ⟨rfl, ov_nck rfl rfl ((hρ 11 (lmem rfl)).trans rfl) hp38⟩) rfl rfl
    (fc 13 p39 (hd_v rfl fun ρ hρ => ⟨rfl, ov_fldA rfl rfl underlying77 rfl sz50 (by decide) ((hρ 12 (lmem rfl)).trans rfl) hp42 rfl hv43⟩) rfl rfl
    (fc 14 x47 (hd_v rfl fun ρ hρ => ⟨rfl, ov_ldV rfl underlying50 rfl rfl ((hρ 13 (lmem rfl)).trans rfl) hp46 hg48⟩) rfl rfl
    ffn))))) ?_
  refine lt_call (dt := some 15) rfl rfl (fun ρ hρ => ⟨rfl, opc_of rfl rfl is23 (ma_cons ((hρ 14 (lmem rfl)).trans rfl) rfl)⟩) H (fun _ _ h _ => ⟨rfl, h⟩) fun r51 aw52 H => ?_
  refine lt_next (l := [0, 11, 12]) (hv := [(11, Value.int .i64 (IntKind.i64.wrap (r49 - r51))), (12, Value.bool (decide ((IntKind.i64.wrap (r49 - r51)) < n_1)))]) rfl rfl (pv_cons rfl (pv_cons rfl (pv_nil _)))
    (fc 5 (.int .i64 n_1) (hd_v rfl fun ρ hρ => ⟨rfl, opv_move rfl rfl ((hρ 1 (lmem rfl)).trans h1)⟩) rfl rfl
    (fc 16 (.int .i64 (IntKind.i64.wrap (r49 - r51))) (hd_v rfl fun ρ hρ => ⟨rfl, opv_sub rfl rfl rfl ((hρ 10 (lmem rfl)).trans rfl) ((hρ 15 (lmem rfl)).trans rfl)⟩) rfl rfl
    (fc 17 (.bool (decide ((IntKind.i64.wrap (r49 - r51)) < n_1))) (hd_v rfl fun ρ hρ => ⟨rfl, opv_gt rfl rfl rfl ((hρ 5 (lmem rfl)).trans rfl) ((hρ 16 (lmem rfl)).trans rfl)⟩) rfl rfl
    ffn))) ?_
  refine lt_end ?_
  refine ago_condE  (rfl : C67_5 = .cond (.tmp 17) C67_6 C67_7) rfl rfl (fun hb53 => ?_) (fun hb53 => ?_)
  · exact (cnd_t H hb53).elim
  replace H := cnd_f H hb53
  refine ago_skipE (rfl : C67_7 = .skip) ?_
  exact S67_1_ok Q E  _ m_0 n_1 aw52 h0 h1 H
theorem F67_ok {Q : Bool → AW → Prop} {E : List PanicEntry → AW → Prop} (m_0 : Value) (n_1 : Int) (aw : AW) (H : S67_0 Q E m_0 n_1 aw) : CallP prog 67 [m_0, .int .i64 n_1] aw sh67 Q E :=
  callP_of func67 C67_is rfl (Nat.le_of_ble_eq_true rfl) (S67_0_ok Q E _ m_0 n_1 aw rfl rfl H)
def C69_0 := bodyOf f69
theorem C69_is : f69.body = some C69_0 := by kernel_rfl
def C69_1 := cl C69_0
def C69_2 := cl C69_1
def R69_0 := regOps C69_2
def C69_3 := cr C69_1
def C69_4 := cl C69_3
def C69_5 := cr C69_3
def C69_6 := cr C69_0
def C69_7 := cl C69_6
def C69_8 := cl C69_7
def R69_2 := regOps C69_8
def C69_9 := cr C69_7
def C69_10 := cl C69_9
def C69_11 := cr C69_9
def C69_12 := cr C69_6
def C69_13 := cl C69_12
def R69_4 := regOps C69_13
def C69_14 := cr C69_12
def R69_5 := regOps C69_14
theorem R69_0_N : dstsOk 31 R69_0 = true := by decide +kernel
theorem R69_2_N : dstsOk 31 R69_2 = true := by decide +kernel
theorem R69_4_N : dstsOk 31 R69_4 = true := by decide +kernel
theorem R69_5_N : dstsOk 31 R69_5 = true := by decide +kernel
def S69_0 (Q : Unit → AW → Prop) (E : List PanicEntry → AW → Prop)  (m_0 : Value) (s_1 : ByteArray) (aw : AW) : Prop :=
  cnd (decide (4096 < (s_1.size : Int))) (False) (CallP prog 53 [.int .u8 3, .int .i64 (s_1.size : Int)] aw sh53 (fun r2 aw3 =>
  CallP prog 67 [m_0, .int .i64 r2] aw3 sh67 (fun r4 aw5 =>
  cnd (!r4) (False) (nck m_0 (fldA m_0 0 fun p8 =>
  ldV aw5 p8 fun x16 =>
  CallP prog 68 [x16, .string s_1, (.slice none 0 0)] aw5 sh68 (fun r18 aw19 =>
  CallP prog 34 [m_0, .int .u64 r18.1] aw19 sh34 (fun r20 aw21 =>
  Q () aw21) E) E))) E) E)
theorem S69_0_ok (Q : Unit → AW → Prop) (E : List PanicEntry → AW → Prop)  (ρ : Env) (m_0 : Value) (s_1 : ByteArray) (aw : AW) (h0 : ρ 0 = m_0) (h1 : ρ 1 = .string s_1) (H : S69_0 Q E  m_0 s_1 aw) :
    AGo prog 31 [.code C69_0] ρ [] aw (RR prog f69 31 sh69 Q E) := by
  unfold S69_0 at H
  refine ago_seqE (rfl : C69_0 = .seq C69_1 C69_6) ?_
  refine ago_seqE (rfl : C69_1 = .seq C69_2 C69_3) ?_
  refine ago_regE (rfl : C69_2 = .region 0 R69_0 false) (l := [0, 1, 2]) rfl ?_
  refine lj 6 R69_0_N rfl rfl rfl (opv_move rfl rfl h1) ?_
  refine lj 7 R69_0_N rfl rfl rfl (opv_lenS rfl rfl rfl underlying9 rfl) ?_
  refine lj 8 R69_0_N rfl rfl rfl (opv_gt rfl rfl rfl rfl rfl) ?_
  refine aops_nil ?_
  refine ago_condE  (rfl : C69_3 = .cond (.tmp 8) C69_4 C69_5) rfl rfl (fun hb1 => ?_) (fun hb1 => ?_)
  · exact (cnd_t H hb1).elim
  replace H := cnd_f H hb1
  refine ago_skipE (rfl : C69_5 = .skip) ?_
  refine ago_seqE (rfl : C69_6 = .seq C69_7 C69_12) ?_
  refine ago_seqE (rfl : C69_7 = .seq C69_8 C69_9) ?_
  refine ago_regE (rfl : C69_8 = .region 2 R69_2 false) (l := [0, 1, 2, 3, 4, 5]) rfl ?_
  refine lj 11 R69_2_N rfl rfl rfl (opv_move rfl rfl h0) ?_
  refine lj 12 R69_2_N rfl rfl rfl (opv_move rfl rfl h1) ?_
  refine lj 13 R69_2_N rfl rfl rfl (opv_lenS rfl rfl rfl underlying9 rfl) ?_
  refine lc 14 R69_2_N rfl rfl rfl (opc_of rfl rfl is53 (ma_cons rfl (ma_cons rfl rfl))) H (fun _ _ h => ⟨rfl, h⟩) fun r2 aw3 H => ?_
  refine lc 15 R69_2_N rfl rfl rfl (opc_of rfl rfl is67 (ma_cons rfl (ma_cons rfl rfl))) H (fun _ _ h => ⟨rfl, h⟩) fun r4 aw5 H => ?_
  refine lj 16 R69_2_N rfl rfl rfl (opv_not rfl rfl rfl) ?_
  refine aops_nil ?_
  refine ago_condE  (rfl : C69_9 = .cond (.tmp 16) C69_10 C69_11) rfl rfl (fun hb6 => ?_) (fun hb6 => ?_)
  · exact (cnd_t H hb6).elim
  replace H := cnd_f H hb6
  refine ago_skipE (rfl : C69_11 = .skip) ?_
  refine ago_seqE (rfl : C69_12 = .seq C69_13 C69_14) ?_
  refine ago_regE (rfl : C69_13 = .region 4 R69_4 false) (l := [0, 1, 2, 3, 4, 5, 6, 7, 8, 9, 10]) rfl ?_
  refine lj 20 R69_4_N rfl rfl rfl (opv_move rfl rfl h0) ?_
  obtain ⟨hp7, H⟩ := H
  refine lj 21 R69_4_N rfl rfl rfl (ov_nck rfl rfl rfl hp7) ?_
  obtain ⟨b9, i10, p8, hp11, hv12, H⟩ := H
  refine lj 22 R69_4_N rfl rfl rfl (ov_fldA rfl rfl underlying77 rfl sz50 (by decide) rfl hp11 rfl hv12) ?_
  obtain ⟨b13, i14, x16, hp15, hg17, H⟩ := H
  refine lj 23 R69_4_N rfl rfl rfl (ov_ldV rfl underlying50 rfl rfl rfl hp15 hg17) ?_
  refine lj 24 R69_4_N rfl rfl rfl (opv_move rfl rfl h1) ?_
  refine lc 25 R69_4_N rfl rfl rfl (opc_of rfl rfl is68 (ma_cons rfl (ma_cons rfl (ma_cons rfl rfl)))) H (fun _ _ h => ⟨rfl, h⟩) fun r18 aw19 H => ?_
  refine lj 19 R69_4_N rfl rfl rfl (opv_move rfl rfl rfl) ?_
  refine lj 26 R69_4_N rfl rfl rfl (opv_extract rfl rfl rfl rfl) ?_
  refine lj 27 R69_4_N rfl rfl rfl (opv_extract rfl rfl rfl rfl) ?_
  refine lj 4 R69_4_N rfl rfl rfl (opv_assign rfl rfl rfl) ?_
  refine lj 5 R69_4_N rfl rfl rfl (opv_assign rfl rfl rfl) ?_
  refine aops_nil ?_
  refine ago_cut (fun ρ => ρ 0 = m_0 ∧ ρ 4 = .int .u64 r18.1 ∧ True) ⟨h0, rfl, trivial⟩ (fun ρ ⟨h0, h4, _⟩ => ?_)
  refine ago_regE (rfl : C69_14 = .region 5 R69_5 false) (l := [0, 1, 2]) rfl ?_
  refine lj 28 R69_5_N rfl rfl rfl (opv_move rfl rfl h0) ?_
  refine lj 29 R69_5_N rfl rfl rfl (opv_move rfl rfl h4) ?_
  refine lc 30 R69_5_N rfl rfl rfl (opc_of rfl rfl is34 (ma_cons rfl (ma_cons rfl rfl))) H (fun _ _ h => ⟨rfl, h⟩) fun r20 aw21 H => ?_
  refine aops_nil ?_
  exact ago_nilR (r := ()) (ares_0 rfl ) rfl H
theorem F69_ok {Q : Unit → AW → Prop} {E : List PanicEntry → AW → Prop} (m_0 : Value) (s_1 : ByteArray) (aw : AW) (H : S69_0 Q E m_0 s_1 aw) : CallP prog 69 [m_0, .string s_1] aw sh69 Q E :=
  callP_of func69 C69_is rfl (Nat.le_of_ble_eq_true rfl) (S69_0_ok Q E _ m_0 s_1 aw rfl rfl H)
def C70_0 := bodyOf f70
theorem C70_is : f70.body = some C70_0 := by kernel_rfl
def C70_1 := cl C70_0
def R70_0 := regOps C70_1
def C70_2 := cr C70_0
def C70_3 := cl C70_2
def R70_1 := regOps C70_3
def C70_4 := cr C70_2
def C70_5 := cl C70_4
def C70_6 := cl C70_5
def R70_2 := regOps C70_6
def C70_7 := cr C70_5
def C70_8 := cl C70_7
def R70_3 := regOps C70_8
def C70_9 := cr C70_7
def C70_10 := cr C70_4
def C70_11 := cl C70_10
def R70_4 := regOps C70_11
def C70_12 := cr C70_10
theorem R70_0_N : dstsOk 24 R70_0 = true := by decide +kernel
theorem R70_1_N : dstsOk 24 R70_1 = true := by decide +kernel
theorem R70_2_N : dstsOk 24 R70_2 = true := by decide +kernel
theorem R70_3_N : dstsOk 24 R70_3 = true := by decide +kernel
theorem R70_4_N : dstsOk 24 R70_4 = true := by decide +kernel
def S70_0 (Q : Int → AW → Prop) (E : List PanicEntry → AW → Prop)  (m_0 : Value) (w_1 : Int) (i_2 : Int) (aw : AW) : Prop :=
  nck m_0 (fldA m_0 0 fun p2 =>
  ldV aw p2 fun x10 =>
  CallP prog 80 [x10, .int .u64 w_1, .int .i64 i_2] aw sh80 (fun r12 aw13 =>
  cnd (!decide (r12.2 = 0)) (E [⟨(.iface 114 (.agg #[.int .i64 3])), false, false⟩] aw13) (Q r12.1 aw13)) E)
theorem S70_0_ok (Q : Int → AW → Prop) (E : List PanicEntry → AW → Prop)  (ρ : Env) (m_0 : Value) (w_1 : Int) (i_2 : Int) (aw : AW) (h0 : ρ 0 = m_0) (h1 : ρ 1 = .int .u64 w_1) (h2 : ρ 2 = .int .i64 i_2) (H : S70_0 Q E  m_0 w_1 i_2 aw) :
    AGo prog 24 [.code C70_0] ρ [] aw (RR prog f70 24 sh70 Q E) := by
  unfold S70_0 at H
  refine ago_seqE (rfl : C70_0 = .seq C70_1 C70_2) ?_
  refine ago_regE (rfl : C70_1 = .region 0 R70_0 false) (l := [0]) rfl ?_
  refine lj 6 R70_0_N rfl rfl rfl (opv_assign rfl rfl rfl) ?_
  refine aops_nil ?_
  refine ago_seqE (rfl : C70_2 = .seq C70_3 C70_4) ?_
  refine ago_regE (rfl : C70_3 = .region 1 R70_1 false) (l := [0, 1, 2, 3, 4, 5, 6, 7, 8, 9, 10, 11]) rfl ?_
  refine lj 10 R70_1_N rfl rfl rfl (opv_move rfl rfl h0) ?_
  obtain ⟨hp1, H⟩ := H
  refine lj 11 R70_1_N rfl rfl rfl (ov_nck rfl rfl rfl hp1) ?_
  obtain ⟨b3, i4, p2, hp5, hv6, H⟩ := H
  refine lj 12 R70_1_N rfl rfl rfl (ov_fldA rfl rfl underlying77 rfl sz50 (by decide) rfl hp5 rfl hv6) ?_
  obtain ⟨b7, i8, x10, hp9, hg11, H⟩ := H
  refine lj 13 R70_1_N rfl rfl rfl (ov_ldV rfl underlying50 rfl rfl rfl hp9 hg11) ?_
  refine lj 14 R70_1_N rfl rfl rfl (opv_move rfl rfl h1) ?_
  refine lj 15 R70_1_N rfl rfl rfl (opv_move rfl rfl h2) ?_
  refine lc 16 R70_1_N rfl rfl rfl (opc_of rfl rfl is80 (ma_cons rfl (ma_cons rfl (ma_cons rfl rfl)))) H (fun _ _ h => ⟨rfl, h⟩) fun r12 aw13 H => ?_
  refine lj 9 R70_1_N rfl rfl rfl (opv_move rfl rfl rfl) ?_
  refine lj 17 R70_1_N rfl rfl rfl (opv_extract rfl rfl rfl rfl) ?_
  refine lj 18 R70_1_N rfl rfl rfl (opv_extract rfl rfl rfl rfl) ?_
  refine lj 7 R70_1_N rfl rfl rfl (opv_assign rfl rfl rfl) ?_
  refine lj 8 R70_1_N rfl rfl rfl (opv_assign rfl rfl rfl) ?_
  refine aops_nil ?_
  refine ago_seqE (rfl : C70_4 = .seq C70_5 C70_10) ?_
  refine ago_seqE (rfl : C70_5 = .seq C70_6 C70_7) ?_
  refine ago_cut (fun ρ => ρ 7 = .int .u64 r12.1 ∧ ρ 8 = .int .i64 r12.2 ∧ True) ⟨rfl, rfl, trivial⟩ (fun ρ ⟨h7, h8, _⟩ => ?_)
  refine ago_regE (rfl : C70_6 = .region 2 R70_2 false) (l := [0, 1]) rfl ?_
  refine lj 19 R70_2_N rfl rfl rfl (opv_move rfl rfl h8) ?_
  refine lj 20 R70_2_N rfl rfl rfl (opv_neI rfl rfl rfl rfl rfl) ?_
  refine aops_nil ?_
  refine ago_condE  (rfl : C70_7 = .cond (.tmp 20) C70_8 C70_9) rfl rfl (fun hb14 => ?_) (fun hb14 => ?_)
  · replace H := cnd_t H hb14
    refine ago_regE (rfl : C70_8 = .region 3 R70_3 false) (l := [0, 1, 2]) rfl ?_
    refine lj 21 R70_3_N rfl rfl rfl (ov_bld (r := [.int .i64 3]) rfl rfl bo114 (mp_cons rfl rfl) (fillP rfl rfl rfl rfl (fillN rfl))) ?_
    refine lj 22 R70_3_N rfl rfl rfl (opv_mkIface rfl rfl underlying114 rfl rfl) ?_
    exact aops_panic R70_3_N rfl rfl (opp_panic rfl rfl rfl) ⟨rfl, H⟩
  replace H := cnd_f H hb14
  refine ago_skipE (rfl : C70_9 = .skip) ?_
  refine ago_seqE (rfl : C70_10 = .seq C70_11 C70_12) ?_
  refine ago_regE (rfl : C70_11 = .region 4 R70_4 false) (l := [0, 1]) rfl ?_
  refine lj 23 R70_4_N rfl rfl rfl (opv_move rfl rfl h7) ?_
  refine lj 6 R70_4_N rfl rfl rfl (opv_assign rfl rfl rfl) ?_
  refine aops_nil ?_
  exact ago_retE (rfl : C70_12 = .ret) (r := r12.1) (ares_1 rfl (oneT rfl)) rfl H
theorem F70_ok {Q : Int → AW → Prop} {E : List PanicEntry → AW → Prop} (m_0 : Value) (w_1 : Int) (i_2 : Int) (aw : AW) (H : S70_0 Q E m_0 w_1 i_2 aw) : CallP prog 70 [m_0, .int .u64 w_1, .int .i64 i_2] aw sh70 Q E :=
  callP_of func70 C70_is rfl (Nat.le_of_ble_eq_true rfl) (S70_0_ok Q E _ m_0 w_1 i_2 aw rfl rfl rfl H)
def C72_0 := bodyOf f72
theorem C72_is : f72.body = some C72_0 := by kernel_rfl
def C72_1 := cl C72_0
def R72_0 := regOps C72_1
def C72_2 := cr C72_0
def C72_3 := cl C72_2
def R72_1 := regOps C72_3
def C72_4 := cr C72_2
def C72_5 := cl C72_4
def R72_2 := regOps C72_5
def C72_6 := cr C72_4
def C72_7 := cl C72_6
def R72_3 := regOps C72_7
def C72_8 := cr C72_6
def C72_9 := cl C72_8
def C72_10 := cl C72_9
def R72_5 := regOps C72_10
def C72_11 := cr C72_9
def C72_12 := cl C72_11
def C72_21 := cr C72_11
def C72_22 := cl C72_21
def R72_10 := regOps C72_22
def C72_23 := cr C72_21
def C72_24 := cl C72_23
def C72_25 := cl C72_24
def R72_11 := regOps C72_25
def C72_26 := cr C72_24
def C72_27 := cl C72_26
def R72_12 := regOps C72_27
def C72_28 := cr C72_26
def C72_29 := cl C72_28
def R72_13 := regOps C72_29
def C72_30 := cr C72_28
def C72_31 := cl C72_30
def R72_14 := regOps C72_31
def C72_32 := cr C72_30
def C72_33 := cl C72_32
def R72_15 := regOps C72_33
def C72_34 := cr C72_32
def R72_16 := regOps C72_34
def C72_35 := cr C72_23
theorem R72_0_N : dstsOk 101 R72_0 = true := by decide +kernel
theorem R72_1_N : dstsOk 101 R72_1 = true := by decide +kernel
theorem R72_2_N : dstsOk 101 R72_2 = true := by decide +kernel
theorem R72_3_N : dstsOk 101 R72_3 = true := by decide +kernel
theorem R72_5_N : dstsOk 101 R72_5 = true := by decide +kernel
theorem R72_10_N : dstsOk 101 R72_10 = true := by decide +kernel
theorem R72_11_N : dstsOk 101 R72_11 = true := by decide +kernel
theorem R72_12_N : dstsOk 101 R72_12 = true := by decide +kernel
theorem R72_13_N : dstsOk 101 R72_13 = true := by decide +kernel
theorem R72_14_N : dstsOk 101 R72_14 = true := by decide +kernel
theorem R72_15_N : dstsOk 101 R72_15 = true := by decide +kernel
theorem R72_16_N : dstsOk 101 R72_16 = true := by decide +kernel
def S72_0 (Q : Unit → AW → Prop) (E : List PanicEntry → AW → Prop)  (m_0 : Value) (aw : AW) : Prop :=
  CallP prog 81 [m_0] aw sh81 (fun r1 aw2 =>
  nck m_0 (fldA m_0 3 fun p4 =>
  ldV aw2 p4 fun x12 =>
  slen x12 fun n14 =>
  nck m_0 (fldA m_0 3 fun p21 =>
  ldV aw2 p21 fun x29 =>
  ixS x29 (IntKind.i64.wrap (n14 - 2)) 1 fun p31 =>
  ldI .u64 aw2 p31 fun x43 =>
  nck m_0 (fldA m_0 0 fun p46 =>
  ldV aw2 p46 fun x54 =>
  CallP prog 38 [x54, .int .u64 x43] aw2 sh38 (fun r56 aw57 =>
  cnd (decide (r56 = 5)) (False) (cnd (decide (r56 = 6)) (CallP prog 70 [m_0, .int .u64 x43, .int .i64 0] aw57 sh70 (fun r60 aw61 =>
  CallP prog 73 [.int .u64 r60] aw61 sh73 (fun r62 aw63 =>
  nck m_0 (fldA m_0 3 fun p65 =>
  ldV aw63 p65 fun x73 =>
  ixS x73 (IntKind.i64.wrap (n14 - 1)) 1 fun p75 =>
  ldI .u64 aw63 p75 fun x87 =>
  CallP prog 82 [m_0, .int .i64 r62, .int .u64 x87] aw63 sh82 (fun r89 aw90 =>
  CallP prog 37 [m_0] aw90 sh37 (fun r91 aw92 =>
  nck m_0 (fldA m_0 3 fun p94 =>
  ldV aw92 p94 fun x102 =>
  ixS x102 (IntKind.i64.wrap (n14 - 2)) 1 fun p104 =>
  st aw92 p104 [.int .u64 r91] fun aw113 =>
  nck m_0 (fldA m_0 3 fun p121 =>
  ldV aw113 p121 fun x129 =>
  cutV aw113 1 x129 0 (IntKind.i64.wrap (n14 - 1)) fun v131 =>
  nck m_0 (fldA m_0 3 fun p134 =>
  st aw113 p134 [v131] fun aw139 =>
  Q () aw139)))) E) E)) E) E) (False))) E)))) E
theorem S72_0_ok (Q : Unit → AW → Prop) (E : List PanicEntry → AW → Prop)  (ρ : Env) (m_0 : Value) (aw : AW) (h0 : ρ 0 = m_0) (H : S72_0 Q E  m_0 aw) :
    AGo prog 101 [.code C72_0] ρ [] aw (RR prog f72 101 sh72 Q E) := by
  unfold S72_0 at H
  refine ago_seqE (rfl : C72_0 = .seq C72_1 C72_2) ?_
  refine ago_regE (rfl : C72_1 = .region 0 R72_0 false) (l := [0, 1]) rfl ?_
  refine lj 8 R72_0_N rfl rfl rfl (opv_move rfl rfl h0) ?_
  refine lc 9 R72_0_N rfl rfl rfl (opc_of rfl rfl is81 (ma_cons rfl rfl)) H (fun _ _ h => ⟨rfl, h⟩) fun r1 aw2 H => ?_
  refine aops_nil ?_
  refine ago_seqE (rfl : C72_2 = .seq C72_3 C72_4) ?_
  refine ago_regE (rfl : C72_3 = .region 1 R72_1 false) (l := [0, 1, 2, 3, 4, 5]) rfl ?_
  refine lj 10 R72_1_N rfl rfl rfl (opv_move rfl rfl h0) ?_
  obtain ⟨hp3, H⟩ := H
  refine lj 11 R72_1_N rfl rfl rfl (ov_nck rfl rfl rfl hp3) ?_
  obtain ⟨b5, i6, p4, hp7, hv8, H⟩ := H
  refine lj 12 R72_1_N rfl rfl rfl (ov_fldA rfl rfl underlying77 rfl sz62 (by decide) rfl hp7 rfl hv8) ?_
  obtain ⟨b9, i10, x12, hp11, hg13, H⟩ := H
  refine lj 13 R72_1_N rfl rfl rfl (ov_ldV rfl underlying62 rfl rfl rfl hp11 hg13) ?_
  obtain ⟨q15, l16, c17, n14, hv18, hn19, H⟩ := H
  refine lj 14 R72_1_N rfl rfl rfl (ov_len rfl rfl rfl underlying62 rfl hv18 hn19) ?_
  refine lj 2 R72_1_N rfl rfl rfl (opv_assign rfl rfl rfl) ?_
  refine aops_nil ?_
  refine ago_seqE (rfl : C72_4 = .seq C72_5 C72_6) ?_
  refine ago_regE (rfl : C72_5 = .region 2 R72_2 false) (l := [0, 1, 2, 3, 4, 5, 6, 7, 8]) rfl ?_
  refine lj 15 R72_2_N rfl rfl rfl (opv_move rfl rfl h0) ?_
  obtain ⟨hp20, H⟩ := H
  refine lj 16 R72_2_N rfl rfl rfl (ov_nck rfl rfl rfl hp20) ?_
  obtain ⟨b22, i23, p21, hp24, hv25, H⟩ := H
  refine lj 17 R72_2_N rfl rfl rfl (ov_fldA rfl rfl underlying77 rfl sz62 (by decide) rfl hp24 rfl hv25) ?_
  obtain ⟨b26, i27, x29, hp28, hg30, H⟩ := H
  refine lj 18 R72_2_N rfl rfl rfl (ov_ldV rfl underlying62 rfl rfl rfl hp28 hg30) ?_
  refine lj 19 R72_2_N rfl rfl rfl (opv_move rfl rfl rfl) ?_
  refine lj 20 R72_2_N rfl rfl rfl (opv_sub rfl rfl rfl rfl rfl) ?_
  obtain ⟨b32, i33, l34, c35, p31, hp36, h037, hj38, hv39, H⟩ := H
  refine lj 21 R72_2_N rfl rfl rfl (ov_ixS rfl rfl rfl underlying62 sz26 rfl rfl hp36 h037 hj38 hv39) ?_
  obtain ⟨b40, i41, x43, hp42, hg44, H⟩ := H
  refine lj 22 R72_2_N rfl rfl rfl (ov_ldI rfl underlying26 rfl rfl hp42 hg44) ?_
  refine lj 3 R72_2_N rfl rfl rfl (opv_assign rfl rfl rfl) ?_
  refine aops_nil ?_
  refine ago_seqE (rfl : C72_6 = .seq C72_7 C72_8) ?_
  refine ago_cut (fun ρ => ρ 0 = m_0 ∧ ρ 2 = .int .i64 n14 ∧ ρ 3 = .int .u64 x43 ∧ True) ⟨h0, rfl, rfl, trivial⟩ (fun ρ ⟨h0, h2, h3, _⟩ => ?_)
  refine ago_regE (rfl : C72_7 = .region 3 R72_3 false) (l := [0, 1, 2, 3, 4, 5]) rfl ?_
  refine lj 23 R72_3_N rfl rfl rfl (opv_move rfl rfl h0) ?_
  obtain ⟨hp45, H⟩ := H
  refine lj 24 R72_3_N rfl rfl rfl (ov_nck rfl rfl rfl hp45) ?_
  obtain ⟨b47, i48, p46, hp49, hv50, H⟩ := H
  refine lj 25 R72_3_N rfl rfl rfl (ov_fldA rfl rfl underlying77 rfl sz50 (by decide) rfl hp49 rfl hv50) ?_
  obtain ⟨b51, i52, x54, hp53, hg55, H⟩ := H
  refine lj 26 R72_3_N rfl rfl rfl (ov_ldV rfl underlying50 rfl rfl rfl hp53 hg55) ?_
  refine lj 27 R72_3_N rfl rfl rfl (opv_move rfl rfl h3) ?_
  refine lc 28 R72_3_N rfl rfl rfl (opc_of rfl rfl is38 (ma_cons rfl (ma_cons rfl rfl))) H (fun _ _ h => ⟨rfl, h⟩) fun r56 aw57 H => ?_
  refine aops_nil ?_
  refine ago_blockE (rfl : C72_8 = .block 0 C72_9) ?_
  refine ago_seqE (rfl : C72_9 = .seq C72_10 C72_11) ?_
  refine ago_regE (rfl : C72_10 = .region 5 R72_5 false) (l := [0, 1]) rfl ?_
  refine lj 32 R72_5_N rfl rfl rfl (opv_eqI rfl rfl rfl rfl rfl) ?_
  refine lj 31 R72_5_N rfl rfl rfl (opv_assign rfl rfl rfl) ?_
  refine aops_nil ?_
  refine ago_condE  (rfl : C72_11 = .cond (.tmp 31) C72_12 C72_21) rfl rfl (fun hb58 => ?_) (fun hb58 => ?_)
  · exact (cnd_t H hb58).elim
  replace H := cnd_f H hb58
  refine ago_seqE (rfl : C72_21 = .seq C72_22 C72_23) ?_
  refine ago_regE (rfl : C72_22 = .region 10 R72_10 false) (l := [0, 1]) rfl ?_
  refine lj 64 R72_10_N rfl rfl rfl (opv_eqI rfl rfl rfl rfl rfl) ?_
  refine lj 63 R72_10_N rfl rfl rfl (opv_assign rfl rfl rfl) ?_
  refine aops_nil ?_
  refine ago_condE  (rfl : C72_23 = .cond (.tmp 63) C72_24 C72_35) rfl rfl (fun hb59 => ?_) (fun hb59 => ?_)
  · replace H := cnd_t H hb59
    refine ago_seqE (rfl : C72_24 = .seq C72_25 C72_26) ?_
    refine ago_regE (rfl : C72_25 = .region 11 R72_11 false) (l := [0, 1, 2, 3, 4]) rfl ?_
    refine lj 65 R72_11_N rfl rfl rfl (opv_move rfl rfl h0) ?_
    refine lj 66 R72_11_N rfl rfl rfl (opv_move rfl rfl h3) ?_
    refine lc 67 R72_11_N rfl rfl rfl (opc_of rfl rfl is70 (ma_cons rfl (ma_cons rfl (ma_cons rfl rfl)))) H (fun _ _ h => ⟨rfl, h⟩) fun r60 aw61 H => ?_
    refine lc 68 R72_11_N rfl rfl rfl (opc_of rfl rfl is73 (ma_cons rfl rfl)) H (fun _ _ h => ⟨rfl, h⟩) fun r62 aw63 H => ?_
    refine lj 5 R72_11_N rfl rfl rfl (opv_assign rfl rfl rfl) ?_
    refine aops_nil ?_
    refine ago_seqE (rfl : C72_26 = .seq C72_27 C72_28) ?_
    refine ago_cut (fun ρ => ρ 0 = m_0 ∧ ρ 2 = .int .i64 n14 ∧ ρ 5 = .int .i64 r62 ∧ True) ⟨h0, h2, rfl, trivial⟩ (fun ρ ⟨h0, h2, h5, _⟩ => ?_)
    refine ago_regE (rfl : C72_27 = .region 12 R72_12 false) (l := [0, 1, 2, 3, 4, 5, 6, 7, 8]) rfl ?_
    refine lj 69 R72_12_N rfl rfl rfl (opv_move rfl rfl h0) ?_
    obtain ⟨hp64, H⟩ := H
    refine lj 70 R72_12_N rfl rfl rfl (ov_nck rfl rfl rfl hp64) ?_
    obtain ⟨b66, i67, p65, hp68, hv69, H⟩ := H
    refine lj 71 R72_12_N rfl rfl rfl (ov_fldA rfl rfl underlying77 rfl sz62 (by decide) rfl hp68 rfl hv69) ?_
    obtain ⟨b70, i71, x73, hp72, hg74, H⟩ := H
    refine lj 72 R72_12_N rfl rfl rfl (ov_ldV rfl underlying62 rfl rfl rfl hp72 hg74) ?_
    refine lj 73 R72_12_N rfl rfl rfl (opv_move rfl rfl h2) ?_
    refine lj 74 R72_12_N rfl rfl rfl (opv_sub rfl rfl rfl rfl rfl) ?_
    obtain ⟨b76, i77, l78, c79, p75, hp80, h081, hj82, hv83, H⟩ := H
    refine lj 75 R72_12_N rfl rfl rfl (ov_ixS rfl rfl rfl underlying62 sz26 rfl rfl hp80 h081 hj82 hv83) ?_
    obtain ⟨b84, i85, x87, hp86, hg88, H⟩ := H
    refine lj 76 R72_12_N rfl rfl rfl (ov_ldI rfl underlying26 rfl rfl hp86 hg88) ?_
    refine lj 6 R72_12_N rfl rfl rfl (opv_assign rfl rfl rfl) ?_
    refine aops_nil ?_
    refine ago_seqE (rfl : C72_28 = .seq C72_29 C72_30) ?_
    refine ago_regE (rfl : C72_29 = .region 13 R72_13 false) (l := [0, 1, 2, 3]) rfl ?_
    refine lj 77 R72_13_N rfl rfl rfl (opv_move rfl rfl h0) ?_
    refine lj 78 R72_13_N rfl rfl rfl (opv_move rfl rfl h5) ?_
    refine lj 79 R72_13_N rfl rfl rfl (opv_move rfl rfl rfl) ?_
    refine lc 80 R72_13_N rfl rfl rfl (opc_of rfl rfl is82 (ma_cons rfl (ma_cons rfl (ma_cons rfl rfl)))) H (fun _ _ h => ⟨rfl, h⟩) fun r89 aw90 H => ?_
    refine aops_nil ?_
    refine ago_seqE (rfl : C72_30 = .seq C72_31 C72_32) ?_
    refine ago_cut (fun ρ => ρ 0 = m_0 ∧ ρ 2 = .int .i64 n14 ∧ True) ⟨h0, h2, trivial⟩ (fun ρ ⟨h0, h2, _⟩ => ?_)
    refine ago_regE (rfl : C72_31 = .region 14 R72_14 false) (l := [0, 1, 2]) rfl ?_
    refine lj 81 R72_14_N rfl rfl rfl (opv_move rfl rfl h0) ?_
    refine lc 82 R72_14_N rfl rfl rfl (opc_of rfl rfl is37 (ma_cons rfl rfl)) H (fun _ _ h => ⟨rfl, h⟩) fun r91 aw92 H => ?_
    refine lj 7 R72_14_N rfl rfl rfl (opv_assign rfl rfl rfl) ?_
    refine aops_nil ?_
    refine ago_seqE (rfl : C72_32 = .seq C72_33 C72_34) ?_
    refine ago_regE (rfl : C72_33 = .region 15 R72_15 false) (l := [0, 1, 2, 3, 4, 5, 6, 7, 8]) rfl ?_
    refine lj 83 R72_15_N rfl rfl rfl (opv_move rfl rfl h0) ?_
    obtain ⟨hp93, H⟩ := H
    refine lj 84 R72_15_N rfl rfl rfl (ov_nck rfl rfl rfl hp93) ?_
    obtain ⟨b95, i96, p94, hp97, hv98, H⟩ := H
    refine lj 85 R72_15_N rfl rfl rfl (ov_fldA rfl rfl underlying77 rfl sz62 (by decide) rfl hp97 rfl hv98) ?_
    obtain ⟨b99, i100, x102, hp101, hg103, H⟩ := H
    refine lj 86 R72_15_N rfl rfl rfl (ov_ldV rfl underlying62 rfl rfl rfl hp101 hg103) ?_
    refine lj 87 R72_15_N rfl rfl rfl (opv_move rfl rfl h2) ?_
    refine lj 88 R72_15_N rfl rfl rfl (opv_sub rfl rfl rfl rfl rfl) ?_
    refine lj 89 R72_15_N rfl rfl rfl (opv_move rfl rfl rfl) ?_
    obtain ⟨b105, i106, l107, c108, p104, hp109, h0110, hj111, hv112, H⟩ := H
    refine lj 90 R72_15_N rfl rfl rfl (ov_ixS rfl rfl rfl underlying62 sz26 rfl rfl hp109 h0110 hj111 hv112) ?_
    obtain ⟨b114, i115, aw113, hp116, hw117, ho118, ha119, H⟩ := H
    refine lk (dt := none) R72_15_N rfl rfl rfl (ov_st rfl rfl rfl rfl rfl rfl sz26 hp116 hw117 ho118 ha119) ?_
    refine aops_nil ?_
    refine ago_cut (fun ρ => ρ 0 = m_0 ∧ ρ 2 = .int .i64 n14 ∧ True) ⟨h0, h2, trivial⟩ (fun ρ ⟨h0, h2, _⟩ => ?_)
    refine ago_regE (rfl : C72_34 = .region 16 R72_16 false) (l := [0, 1, 2, 3, 4, 5, 6, 7, 8, 9, 10]) rfl ?_
    refine lj 91 R72_16_N rfl rfl rfl (opv_move rfl rfl h0) ?_
    refine lj 92 R72_16_N rfl rfl rfl (opv_move rfl rfl h0) ?_
    obtain ⟨hp120, H⟩ := H
    refine lj 93 R72_16_N rfl rfl rfl (ov_nck rfl rfl rfl hp120) ?_
    obtain ⟨b122, i123, p121, hp124, hv125, H⟩ := H
    refine lj 94 R72_16_N rfl rfl rfl (ov_fldA rfl rfl underlying77 rfl sz62 (by decide) rfl hp124 rfl hv125) ?_
    obtain ⟨b126, i127, x129, hp128, hg130, H⟩ := H
    refine lj 95 R72_16_N rfl rfl rfl (ov_ldV rfl underlying62 rfl rfl rfl hp128 hg130) ?_
    refine lj 96 R72_16_N rfl rfl rfl (opv_move rfl rfl h2) ?_
    refine lj 97 R72_16_N rfl rfl rfl (opv_sub rfl rfl rfl rfl rfl) ?_
    obtain ⟨v131, hq132, H⟩ := H
    refine lj 98 R72_16_N rfl rfl rfl (ov_cutV rfl rfl underlying62 sz26 rfl (bndN _ _ _) (bndS rfl) hq132) ?_
    obtain ⟨hp133, H⟩ := H
    refine lj 99 R72_16_N rfl rfl rfl (ov_nck rfl rfl rfl hp133) ?_
    obtain ⟨b135, i136, p134, hp137, hv138, H⟩ := H
    refine lj 100 R72_16_N rfl rfl rfl (ov_fldA rfl rfl underlying77 rfl sz62 (by decide) rfl hp137 rfl hv138) ?_
    obtain ⟨b140, i141, aw139, hp142, hw143, ho144, ha145, H⟩ := H
    refine lk (dt := none) R72_16_N rfl rfl rfl (ov_st rfl rfl rfl rfl rfl (cells_all ho144) sz62 hp142 hw143 ho144 ha145) ?_
    refine aops_nil ?_
    refine ago_inBlock ?_
    exact ago_nilR (r := ()) (ares_0 rfl ) rfl H
  exact (cnd_f H hb59).elim
theorem F72_ok {Q : Unit → AW → Prop} {E : List PanicEntry → AW → Prop} (m_0 : Value) (aw : AW) (H : S72_0 Q E m_0 aw) : CallP prog 72 [m_0] aw sh72 Q E :=
  callP_of func72 C72_is rfl (Nat.le_of_ble_eq_true rfl) (S72_0_ok Q E _ m_0 aw rfl H)
def C81_0 := bodyOf f81
theorem C81_is : f81.body = some C81_0 := by kernel_rfl
def C81_1 := cl C81_0
def C81_2 := cl C81_1
def R81_0 := regOps C81_2
def C81_3 := cr C81_1
def C81_4 := cl C81_3
def R81_1 := regOps C81_4
def C81_5 := cr C81_3
def C81_6 := cr C81_0
def R81_2 := regOps C81_6
theorem R81_0_N : dstsOk 16 R81_0 = true := by decide +kernel
theorem R81_1_N : dstsOk 16 R81_1 = true := by decide +kernel
theorem R81_2_N : dstsOk 16 R81_2 = true := by decide +kernel
def S81_0 (Q : Unit → AW → Prop) (E : List PanicEntry → AW → Prop)  (m_0 : Value) (aw : AW) : Prop :=
  nck m_0 (fldA m_0 6 fun p2 =>
  ldI .i64 aw p2 fun x10 =>
  cnd (decide (x10 = 0)) (E [⟨(.iface 114 (.agg #[.int .i64 10])), false, false⟩] aw) (nck m_0 (fldA m_0 6 fun p14 =>
  ldI .i64 aw p14 fun x22 =>
  nck m_0 (fldA m_0 6 fun p25 =>
  st aw p25 [.int .i64 (IntKind.i64.wrap (x22 - 1))] fun aw30 =>
  Q () aw30))))
theorem S81_0_ok (Q : Unit → AW → Prop) (E : List PanicEntry → AW → Prop)  (ρ : Env) (m_0 : Value) (aw : AW) (h0 : ρ 0 = m_0) (H : S81_0 Q E  m_0 aw) :
    AGo prog 16 [.code C81_0] ρ [] aw (RR prog f81 16 sh81 Q E) := by
  unfold S81_0 at H
  refine ago_seqE (rfl : C81_0 = .seq C81_1 C81_6) ?_
  refine ago_seqE (rfl : C81_1 = .seq C81_2 C81_3) ?_
  refine ago_regE (rfl : C81_2 = .region 0 R81_0 false) (l := [0, 1, 2, 3, 4]) rfl ?_
  refine lj 2 R81_0_N rfl rfl rfl (opv_move rfl rfl h0) ?_
  obtain ⟨hp1, H⟩ := H
  refine lj 3 R81_0_N rfl rfl rfl (ov_nck rfl rfl rfl hp1) ?_
  obtain ⟨b3, i4, p2, hp5, hv6, H⟩ := H
  refine lj 4 R81_0_N rfl rfl rfl (ov_fldA rfl rfl underlying77 rfl sz3 (by decide) rfl hp5 rfl hv6) ?_
  obtain ⟨b7, i8, x10, hp9, hg11, H⟩ := H
  refine lj 5 R81_0_N rfl rfl rfl (ov_ldI rfl underlying3 rfl rfl hp9 hg11) ?_
  refine lj 6 R81_0_N rfl rfl rfl (opv_eqI rfl rfl rfl rfl rfl) ?_
  refine aops_nil ?_
  refine ago_condE  (rfl : C81_3 = .cond (.tmp 6) C81_4 C81_5) rfl rfl (fun hb12 => ?_) (fun hb12 => ?_)
  · replace H := cnd_t H hb12
    refine ago_regE (rfl : C81_4 = .region 1 R81_1 false) (l := [0, 1, 2]) rfl ?_
    refine lj 7 R81_1_N rfl rfl rfl (ov_bld (r := [.int .i64 10]) rfl rfl bo114 (mp_cons rfl rfl) (fillP rfl rfl rfl rfl (fillN rfl))) ?_
    refine lj 8 R81_1_N rfl rfl rfl (opv_mkIface rfl rfl underlying114 rfl rfl) ?_
    exact aops_panic R81_1_N rfl rfl (opp_panic rfl rfl rfl) ⟨rfl, H⟩
  replace H := cnd_f H hb12
  refine ago_skipE (rfl : C81_5 = .skip) ?_
  refine ago_regE (rfl : C81_6 = .region 2 R81_2 false) (l := [0, 1, 2, 3, 4, 5, 6, 7]) rfl ?_
  refine lj 9 R81_2_N rfl rfl rfl (opv_move rfl rfl h0) ?_
  obtain ⟨hp13, H⟩ := H
  refine lj 10 R81_2_N rfl rfl rfl (ov_nck rfl rfl rfl hp13) ?_
  obtain ⟨b15, i16, p14, hp17, hv18, H⟩ := H
  refine lj 11 R81_2_N rfl rfl rfl (ov_fldA rfl rfl underlying77 rfl sz3 (by decide) rfl hp17 rfl hv18) ?_
  obtain ⟨b19, i20, x22, hp21, hg23, H⟩ := H
  refine lj 12 R81_2_N rfl rfl rfl (ov_ldI rfl underlying3 rfl rfl hp21 hg23) ?_
  refine lj 13 R81_2_N rfl rfl rfl (opv_sub rfl rfl rfl rfl rfl) ?_
  obtain ⟨hp24, H⟩ := H
  refine lj 14 R81_2_N rfl rfl rfl (ov_nck rfl rfl rfl hp24) ?_
  obtain ⟨b26, i27, p25, hp28, hv29, H⟩ := H
  refine lj 15 R81_2_N rfl rfl rfl (ov_fldA rfl rfl underlying77 rfl sz3 (by decide) rfl hp28 rfl hv29) ?_
  obtain ⟨b31, i32, aw30, hp33, hw34, ho35, ha36, H⟩ := H
  refine lk (dt := none) R81_2_N rfl rfl rfl (ov_st rfl rfl rfl rfl rfl rfl sz3 hp33 hw34 ho35 ha36) ?_
  refine aops_nil ?_
  exact ago_nilR (r := ()) (ares_0 rfl ) rfl H
theorem F81_ok {Q : Unit → AW → Prop} {E : List PanicEntry → AW → Prop} (m_0 : Value) (aw : AW) (H : S81_0 Q E m_0 aw) : CallP prog 81 [m_0] aw sh81 Q E :=
  callP_of func81 C81_is rfl (Nat.le_of_ble_eq_true rfl) (S81_0_ok Q E _ m_0 aw rfl H)
def C82_0 := bodyOf f82
theorem C82_is : f82.body = some C82_0 := by kernel_rfl
def C82_1 := cl C82_0
def R82_0 := regOps C82_1
def C82_2 := cr C82_0
def C82_3 := cl C82_2
def C82_4 := cl C82_3
def R82_2 := regOps C82_4
def C82_5 := cr C82_3
def C82_6 := cl C82_5
def C82_7 := cr C82_5
def C82_8 := cl C82_7
def R82_4 := regOps C82_8
def C82_9 := cr C82_7
def C82_10 := cl C82_9
def C82_11 := cr C82_9
def C82_12 := cl C82_11
def C82_13 := cl C82_12
def R82_6 := regOps C82_13
def C82_14 := cr C82_12
def C82_15 := cl C82_14
def C82_16 := cr C82_14
def R82_7 := regOps C82_16
def C82_17 := cr C82_11
def C82_18 := cl C82_17
def C82_19 := cl C82_18
def C82_20 := cl C82_19
def R82_8 := regOps C82_20
def C82_21 := cr C82_19
def C82_22 := cl C82_21
def R82_9 := regOps C82_22
def C82_23 := cr C82_21
def C82_24 := cr C82_18
def C82_25 := cl C82_24
def R82_10 := regOps C82_25
def C82_26 := cr C82_24
def R82_11 := regOps C82_26
def C82_27 := cr C82_17
def C82_28 := cl C82_27
def R82_12 := regOps C82_28
def C82_29 := cr C82_27
def C82_30 := cl C82_29
def C82_31 := cr C82_29
def C82_32 := cl C82_31
def R82_14 := regOps C82_32
def C82_33 := cr C82_31
def C82_34 := cl C82_33
def C82_35 := cl C82_34
def R82_15 := regOps C82_35
def C82_36 := cr C82_34
def C82_37 := cl C82_36
def R82_16 := regOps C82_37
def C82_38 := cr C82_36
def R82_17 := regOps C82_38
def C82_39 := cr C82_33
theorem R82_0_N : dstsOk 114 R82_0 = true := by decide +kernel
theorem R82_2_N : dstsOk 114 R82_2 = true := by decide +kernel
theorem R82_4_N : dstsOk 114 R82_4 = true := by decide +kernel
theorem R82_6_N : dstsOk 114 R82_6 = true := by decide +kernel
theorem R82_7_N : dstsOk 114 R82_7 = true := by decide +kernel
theorem R82_8_N : dstsOk 114 R82_8 = true := by decide +kernel
theorem R82_8_O : linOk R82_8 [0, 1, 2, 3, 4, 5, 6, 7, 8, 9] [] = true := by decide +kernel
theorem R82_9_N : dstsOk 114 R82_9 = true := by decide +kernel
theorem R82_10_N : dstsOk 114 R82_10 = true := by decide +kernel
theorem R82_10_O : linOk R82_10 [0, 1, 2, 3, 4, 5, 6, 7] [(8, [0, 1, 2, 3, 4, 5, 6], [9]), (10, [0, 1, 2, 3, 4], []), (11, [0], [12, 13]), (14, [], [])] = true := by decide +kernel
theorem R82_11_N : dstsOk 114 R82_11 = true := by decide +kernel
theorem R82_12_N : dstsOk 114 R82_12 = true := by decide +kernel
theorem R82_14_N : dstsOk 114 R82_14 = true := by decide +kernel
theorem R82_15_N : dstsOk 114 R82_15 = true := by decide +kernel
theorem R82_16_N : dstsOk 114 R82_16 = true := by decide +kernel
theorem R82_16_O : linOk R82_16 [0, 1, 2, 3, 4, 5, 6, 7, 8, 9, 10, 11, 12] [(13, [0, 1, 2, 3, 4, 5, 6, 7, 8, 9], [14, 15, 16]), (17, [], [])] = true := by decide +kernel
theorem R82_17_N : dstsOk 114 R82_17 = true := by decide +kernel
def S82_1 (Q : Unit → AW → Prop) (E : List PanicEntry → AW → Prop)  (m_0 : Value) (k_1 : Int) (x_2 : Int) (t_7 : Int) (t_27 : Bool) (aw : AW) : Prop :=
  cnd t_27 (nck m_0 (fldA m_0 11 fun p3 =>
  ldV aw p3 fun x11 =>
  slen x11 fun n13 =>
  nck m_0 (fldA m_0 8 fun p20 =>
  ldI .i64 aw p20 fun x28 =>
  cnd (decide (x28 ≤ n13)) (E [⟨(.iface 116 (.agg #[.string (⟨#[109, 111, 118, 101, 115]⟩ : ByteArray)])), false, false⟩] aw) (nck m_0 (fldA m_0 11 fun p32 =>
  ldV aw p32 fun x40 =>
  CallP prog 73 [.int .u64 x_2] aw sh73 (fun r42 aw43 =>
  again1 aw43 p32 (x40) ∧ alcS aw43 [.bool (decide (k_1 = 7)), .int .i64 r42] 48 2 1 fun p44 aw45 =>
  again1 aw45 p32 (x40) ∧ app aw45 48 2 16 x40 p44 fun v48 aw49 =>
  nck m_0 (fldA m_0 11 fun p52 =>
  st aw49 p52 [v48] fun aw57 =>
  CallP prog 14 [.int .i64 0] aw57 sh14 (fun r64 aw65 =>
  CallP prog 34 [m_0, .int .u64 r64] aw65 sh34 (fun r66 aw67 =>
  Q () aw67) E) E)) E))))) (cnd (decide (t_7 = 3)) (False) (cnd (decide (t_7 = 4)) (nck m_0 (fldA m_0 0 fun p71 =>
  ldV aw p71 fun x79 =>
  CallP prog 19 [x79, .int .u64 x_2] aw sh19 (fun r81 aw82 =>
  nck m_0 (fldA m_0 9 fun p84 =>
  nck m_0 (fldA m_0 7 fun p90 =>
  ldI .i64 aw82 p90 fun x98 =>
  nck m_0 (fldA m_0 9 fun p101 =>
  CallP prog 89 [p101] aw82 sh89 (fun r106 aw107 =>
  again1 aw107 p90 (.int .i64 x98) ∧ cutS r81 0 (min (r81.size : Int) (IntKind.i64.wrap (x98 - r106))) fun s108 =>
  CallP prog 88 [p84, .string s108] aw107 sh88 (fun r113 aw114 =>
  CallP prog 14 [.int .i64 0] aw114 sh14 (fun r115 aw116 =>
  CallP prog 34 [m_0, .int .u64 r115] aw116 sh34 (fun r117 aw118 =>
  Q () aw118) E) E) E) E)))) E)) (False)))
def S82_0 (Q : Unit → AW → Prop) (E : List PanicEntry → AW → Prop)  (m_0 : Value) (k_1 : Int) (x_2 : Int) (aw : AW) : Prop :=
  cnd (decide (k_1 = 0)) (False) (cnd (decide (k_1 = 1)) (False) (cnd (decide (k_1 = 2)) (S82_1 Q E  m_0 k_1 x_2 k_1 (decide (k_1 = 2)) aw) (S82_1 Q E  m_0 k_1 x_2 k_1 (decide (k_1 = 7)) aw)))
theorem S82_1_ok (Q : Unit → AW → Prop) (E : List PanicEntry → AW → Prop)  (ρ : Env) (m_0 : Value) (k_1 : Int) (x_2 : Int) (t_7 : Int) (t_27 : Bool) (aw : AW) (h0 : ρ 0 = m_0) (h1 : ρ 1 = .int .i64 k_1) (h2 : ρ 2 = .int .u64 x_2) (h7 : ρ 7 = .int .i64 t_7) (h27 : ρ 27 = .bool t_27) (H : S82_1 Q E  m_0 k_1 x_2 t_7 t_27 aw) :
    AGo prog 114 [.code C82_17, .inBlock 0] ρ [] aw (RR prog f82 114 sh82 Q E) := by
  unfold S82_1 at H
  refine ago_condE  (rfl : C82_17 = .cond (.tmp 27) C82_18 C82_27) rfl h27 (fun hb1 => ?_) (fun hb1 => ?_)
  · replace H := cnd_t H hb1
    refine ago_seqE (rfl : C82_18 = .seq C82_19 C82_24) ?_
    refine ago_seqE (rfl : C82_19 = .seq C82_20 C82_21) ?_
    obtain ⟨hp2, H⟩ := H
    obtain ⟨b4, i5, p3, hp6, hv7, H⟩ := H
    obtain ⟨b8, i9, x11, hp10, hg12, H⟩ := H
    obtain ⟨q14, l15, c16, n13, hv17, hn18, H⟩ := H
    obtain ⟨hp19, H⟩ := H
    obtain ⟨b21, i22, p20, hp23, hv24, H⟩ := H
    obtain ⟨b25, i26, x28, hp27, hg29, H⟩ := H
    refine ago_drawH (p := [0, 1, 2, 3, 4, 5, 6, 7, 8, 9]) (tl := []) (hv := [(0, m_0), (1, m_0), (2, p3), (3, x11), (4, Value.int .i64 n13), (5, m_0), (6, m_0), (7, p20), (8, Value.int .i64 x28), (9, Value.bool (decide (x28 ≤ n13)))]) (rfl : C82_20 = .region 8 R82_8 true) mixed R82_8_N R82_8_O rfl (pv_cons rfl (pv_cons rfl (pv_cons rfl (pv_cons rfl (pv_cons rfl (pv_cons rfl (pv_cons rfl (pv_cons rfl (pv_cons rfl (pv_cons rfl (pv_nil _)))))))))))
      (fc 30 m_0 (hd_v rfl fun ρ hρ => ⟨rfl, opv_move rfl rfl ((hρ 0 (lmem rfl)).trans h0)⟩) rfl rfl
      (fc 31 m_0 (hd_v rfl fun ρ hρ => ⟨rfl, ov_nck rfl rfl ((hρ 30 (lmem rfl)).trans rfl) hp2⟩) rfl rfl
      (fc 32 p3 (hd_v rfl fun ρ hρ => ⟨rfl, ov_fldA rfl rfl underlying77 rfl sz27 (by decide) ((hρ 31 (lmem rfl)).trans rfl) hp6 rfl hv7⟩) rfl rfl
      (fc 33 x11 (hd_v rfl fun ρ hρ => ⟨rfl, ov_ldV rfl underlying27 rfl rfl ((hρ 32 (lmem rfl)).trans rfl) hp10 hg12⟩) rfl rfl
      (fc 34 (.int .i64 n13) (hd_v rfl fun ρ hρ => ⟨rfl, ov_len rfl rfl rfl underlying27 ((hρ 33 (lmem rfl)).trans rfl) hv17 hn18⟩) rfl rfl
      (fc 35 m_0 (hd_v rfl fun ρ hρ => ⟨rfl, opv_move rfl rfl ((hρ 0 (lmem rfl)).trans h0)⟩) rfl rfl
      (fc 36 m_0 (hd_v rfl fun ρ hρ => ⟨rfl, ov_nck rfl rfl ((hρ 35 (lmem rfl)).trans rfl) hp19⟩) rfl rfl
      (fc 37 p20 (hd_v rfl fun ρ hρ => ⟨rfl, ov_fldA rfl rfl underlying77 rfl sz3 (by decide) ((hρ 36 (lmem rfl)).trans rfl) hp23 rfl hv24⟩) rfl rfl
      (fc 38 (.int .i64 x28) (hd_v rfl fun ρ hρ => ⟨rfl, ov_ldI rfl underlying3 rfl ((hρ 37 (lmem rfl)).trans rfl) hp27 hg29⟩) rfl rfl
      (fc 39 (.bool (decide (x28 ≤ n13))) (hd_v rfl fun ρ hρ => ⟨rfl, opv_ge rfl rfl rfl ((hρ 34 (lmem rfl)).trans rfl) ((hρ 38 (lmem rfl)).trans rfl)⟩) rfl rfl
      ffn)))))))))) ?_
    refine lt_end ?_
    refine ago_condE  (rfl : C82_21 = .cond (.tmp 39) C82_22 C82_23) rfl rfl (fun hb30 => ?_) (fun hb30 => ?_)
    · replace H := cnd_t H hb30
      refine ago_regE (rfl : C82_22 = .region 9 R82_9 false) (l := [0, 1, 2]) rfl ?_
      refine lj 40 R82_9_N rfl rfl rfl (ov_bld (r := [.string (⟨#[109, 111, 118, 101, 115]⟩ : ByteArray)]) rfl rfl bo116 (mp_cons rfl rfl) (fillP rfl rfl rfl rfl (fillN rfl))) ?_
      refine lj 41 R82_9_N rfl rfl rfl (opv_mkIface rfl rfl underlying116 rfl rfl) ?_
      exact aops_panic R82_9_N rfl rfl (opp_panic rfl rfl rfl) ⟨rfl, H⟩
    replace H := cnd_f H hb30
    refine ago_skipE (rfl : C82_23 = .skip) ?_
    refine ago_seqE (rfl : C82_24 = .seq C82_25 C82_26) ?_
    obtain ⟨hp31, H⟩ := H
    obtain ⟨b33, i34, p32, hp35, hv36, H⟩ := H
    obtain ⟨b37, i38, x40, hp39, hg41, H⟩ := H
    refine ago_drawH (p := [0, 1, 2, 3, 4, 5, 6, 7]) (tl := [(8, [0, 1, 2, 3, 4, 5, 6], [9]), (10, [0, 1, 2, 3, 4], []), (11, [0], [12, 13]), (14, [], [])]) (hv := [(0, m_0), (1, m_0), (2, m_0), (3, p32), (4, x40), (5, Value.int .i64 k_1), (6, Value.bool (decide (k_1 = 7))), (7, Value.int .u64 x_2)]) (rfl : C82_25 = .region 10 R82_10 true) mixed R82_10_N R82_10_O rfl (pv_cons rfl (pv_cons rfl (pv_cons rfl (pv_cons rfl (pv_cons rfl (pv_cons rfl (pv_cons rfl (pv_cons rfl (pv_nil _)))))))))
      (fc 42 m_0 (hd_v rfl fun ρ hρ => ⟨rfl, opv_move rfl rfl ((hρ 0 (lmem rfl)).trans h0)⟩) rfl rfl
      (fc 43 m_0 (hd_v rfl fun ρ hρ => ⟨rfl, opv_move rfl rfl ((hρ 0 (lmem rfl)).trans h0)⟩) rfl rfl
      (fc 44 m_0 (hd_v rfl fun ρ hρ => ⟨rfl, ov_nck rfl rfl ((hρ 43 (lmem rfl)).trans rfl) hp31⟩) rfl rfl
      (fc 45 p32 (hd_v rfl fun ρ hρ => ⟨rfl, ov_fldA rfl rfl underlying77 rfl sz27 (by decide) ((hρ 44 (lmem rfl)).trans rfl) hp35 rfl hv36⟩) rfl rfl
      (fc 46 x40 (hd_v rfl fun ρ hρ => ⟨rfl, ov_ldV rfl underlying27 rfl rfl ((hρ 45 (lmem rfl)).trans rfl) hp39 hg41⟩) rfl rfl
      (fc 47 (.int .i64 k_1) (hd_v rfl fun ρ hρ => ⟨rfl, opv_move rfl rfl ((hρ 1 (lmem rfl)).trans h1)⟩) rfl rfl
      (fc 48 (.bool (decide (k_1 = 7))) (hd_v rfl fun ρ hρ => ⟨rfl, opv_eqI rfl rfl rfl ((hρ 47 (lmem rfl)).trans rfl) rfl⟩) rfl rfl
      (fc 49 (.int .u64 x_2) (hd_v rfl fun ρ hρ => ⟨rfl, opv_move rfl rfl ((hρ 2 (lmem rfl)).trans h2)⟩) rfl rfl
      ffn)))))))) ?_
    refine lt_call (dt := some 50) rfl rfl (fun ρ hρ => ⟨rfl, opc_of rfl rfl is73 (ma_cons ((hρ 49 (lmem rfl)).trans rfl) rfl)⟩) H (fun _ _ h _ => ⟨rfl, h⟩) fun r42 aw43 H => ?_
    obtain ⟨hg41, H⟩ := H
    replace hg41 := hg41 _ _ hp39
    refine lt_next (l := [0, 1, 2, 3, 4, 5, 6, 9]) (hv := [(9, Value.agg #[.bool (decide (k_1 = 7)), .int .i64 r42])]) rfl rfl (pv_cons rfl (pv_nil _))
      (fc 42 m_0 (hd_v rfl fun ρ hρ => ⟨rfl, opv_move rfl rfl ((hρ 0 (lmem rfl)).trans h0)⟩) rfl rfl
      (fc 43 m_0 (hd_v rfl fun ρ hρ => ⟨rfl, opv_move rfl rfl ((hρ 0 (lmem rfl)).trans h0)⟩) rfl rfl
      (fc 44 m_0 (hd_v rfl fun ρ hρ => ⟨rfl, ov_nck rfl rfl ((hρ 43 (lmem rfl)).trans rfl) hp31⟩) rfl rfl
      (fc 45 p32 (hd_v rfl fun ρ hρ => ⟨rfl, ov_fldA rfl rfl underlying77 rfl sz27 (by decide) ((hρ 44 (lmem rfl)).trans rfl) hp35 rfl hv36⟩) rfl rfl
      (fc 46 x40 (hd_v rfl fun ρ hρ => ⟨rfl, ov_ldV rfl underlying27 rfl rfl ((hρ 45 (lmem rfl)).trans rfl) hp39 hg41⟩) rfl rfl
      (fc 47 (.int .i64 k_1) (hd_v rfl fun ρ hρ => ⟨rfl, opv_move rfl rfl ((hρ 1 (lmem rfl)).trans h1)⟩) rfl rfl
      (fc 48 (.bool (decide (k_1 = 7))) (hd_v rfl fun ρ hρ => ⟨rfl, opv_eqI rfl rfl rfl ((hρ 47 (lmem rfl)).trans rfl) rfl⟩) rfl rfl
      (fc 51 (.agg #[.bool (decide (k_1 = 7)), .int .i64 r42]) (hd_v rfl fun ρ hρ => ⟨rfl, ov_bld (r := [.bool (decide (k_1 = 7)), .int .i64 r42]) rfl rfl bo48 (mp_cons ((hρ 48 (lmem rfl)).trans rfl) (mp_cons ((hρ 50 (lmem rfl)).trans rfl) rfl)) (fillP rfl rfl rfl rfl (fillP rfl rfl rfl rfl (fillN rfl)))⟩) rfl rfl
      ffn)))))))) ?_
    obtain ⟨p44, aw45, hp46, ha47, H⟩ := H
    refine lt_val (dt := some 52) (v := p44) rfl rfl (fun ρ hρ => ⟨rfl, ov_bsA (r := [.bool (decide (k_1 = 7)), .int .i64 r42]) (vs := [.agg #[.bool (decide (k_1 = 7)), .int .i64 r42]]) rfl rfl underlying27 sz48 z48 rfl rfl rfl rfl rfl (mp_cons ((hρ 51 (lmem rfl)).trans rfl) rfl) (.cons (v := .agg #[.bool (decide (k_1 = 7)), .int .i64 r42]) (xs := [.bool (decide (k_1 = 7)), .int .i64 r42]) (r := []) rfl rfl .nil) hp46 ha47⟩) ?_
    obtain ⟨hg41, H⟩ := H
    replace hg41 := hg41 _ _ hp39
    refine lt_next (l := [0, 1, 2, 3, 4]) (hv := []) rfl rfl (pv_nil _)
      (fc 42 m_0 (hd_v rfl fun ρ hρ => ⟨rfl, opv_move rfl rfl ((hρ 0 (lmem rfl)).trans h0)⟩) rfl rfl
      (fc 43 m_0 (hd_v rfl fun ρ hρ => ⟨rfl, opv_move rfl rfl ((hρ 0 (lmem rfl)).trans h0)⟩) rfl rfl
      (fc 44 m_0 (hd_v rfl fun ρ hρ => ⟨rfl, ov_nck rfl rfl ((hρ 43 (lmem rfl)).trans rfl) hp31⟩) rfl rfl
      (fc 45 p32 (hd_v rfl fun ρ hρ => ⟨rfl, ov_fldA rfl rfl underlying77 rfl sz27 (by decide) ((hρ 44 (lmem rfl)).trans rfl) hp35 rfl hv36⟩) rfl rfl
      (fc 46 x40 (hd_v rfl fun ρ hρ => ⟨rfl, ov_ldV rfl underlying27 rfl rfl ((hρ 45 (lmem rfl)).trans rfl) hp39 hg41⟩) rfl rfl
      ffn))))) ?_
    obtain ⟨v48, aw49, hq50, H⟩ := H
    refine lt_val (dt := some 53) (v := v48) rfl rfl (fun ρ hρ => ⟨rfl, ov_app rfl rfl rfl rfl underlying27 sz48 by48 underlying27 rfl z48 rfl (by decide) (by decide) ((hρ 46 (lmem rfl)).trans rfl) ((hρ 52 (lmem rfl)).trans rfl) hq50⟩) ?_
    obtain ⟨hp51, H⟩ := H
    obtain ⟨b53, i54, p52, hp55, hv56, H⟩ := H
    refine lt_next (l := [0, 12, 13]) (hv := [(12, m_0), (13, p52)]) rfl rfl (pv_cons rfl (pv_cons rfl (pv_nil _)))
      (fc 42 m_0 (hd_v rfl fun ρ hρ => ⟨rfl, opv_move rfl rfl ((hρ 0 (lmem rfl)).trans h0)⟩) rfl rfl
      (fc 54 m_0 (hd_v rfl fun ρ hρ => ⟨rfl, ov_nck rfl rfl ((hρ 42 (lmem rfl)).trans rfl) hp51⟩) rfl rfl
      (fc 55 p52 (hd_v rfl fun ρ hρ => ⟨rfl, ov_fldA rfl rfl underlying77 rfl sz27 (by decide) ((hρ 54 (lmem rfl)).trans rfl) hp55 rfl hv56⟩) rfl rfl
      ffn))) ?_
    obtain ⟨b58, i59, aw57, hp60, hw61, ho62, ha63, H⟩ := H
    refine lt_val (dt := none) (v := undef) rfl rfl (fun ρ hρ => ⟨rfl, ov_st rfl rfl rfl ((hρ 55 (lmem rfl)).trans rfl) ((hρ 53 (lmem rfl)).trans rfl) (cells_all ho62) sz27 hp60 hw61 ho62 ha63⟩) ?_
    refine lt_next (l := []) (hv := []) rfl rfl (pv_nil _)
      ffn ?_
    refine lt_end ?_
    refine ago_cut (fun ρ => ρ 0 = m_0 ∧ True) ⟨h0, trivial⟩ (fun ρ ⟨h0, _⟩ => ?_)
    refine ago_regE (rfl : C82_26 = .region 11 R82_11 false) (l := [0, 1, 2]) rfl ?_
    refine lj 56 R82_11_N rfl rfl rfl (opv_move rfl rfl h0) ?_
    refine lc 57 R82_11_N rfl rfl rfl (opc_of rfl rfl is14 (ma_cons rfl rfl)) H (fun _ _ h => ⟨rfl, h⟩) fun r64 aw65 H => ?_
    refine lc 58 R82_11_N rfl rfl rfl (opc_of rfl rfl is34 (ma_cons rfl (ma_cons rfl rfl))) H (fun _ _ h => ⟨rfl, h⟩) fun r66 aw67 H => ?_
    refine aops_nil ?_
    refine ago_inBlock ?_
    exact ago_nilR (r := ()) (ares_0 rfl ) rfl H
  replace H := cnd_f H hb1
  refine ago_seqE (rfl : C82_27 = .seq C82_28 C82_29) ?_
  refine ago_regE (rfl : C82_28 = .region 12 R82_12 false) (l := [0, 1]) rfl ?_
  refine lj 60 R82_12_N rfl rfl rfl (opv_eqI rfl rfl rfl h7 rfl) ?_
  refine lj 59 R82_12_N rfl rfl rfl (opv_assign rfl rfl rfl) ?_
  refine aops_nil ?_
  refine ago_condE  (rfl : C82_29 = .cond (.tmp 59) C82_30 C82_31) rfl rfl (fun hb68 => ?_) (fun hb68 => ?_)
  · exact (cnd_t H hb68).elim
  replace H := cnd_f H hb68
  refine ago_seqE (rfl : C82_31 = .seq C82_32 C82_33) ?_
  refine ago_regE (rfl : C82_32 = .region 14 R82_14 false) (l := [0, 1]) rfl ?_
  refine lj 68 R82_14_N rfl rfl rfl (opv_eqI rfl rfl rfl h7 rfl) ?_
  refine lj 67 R82_14_N rfl rfl rfl (opv_assign rfl rfl rfl) ?_
  refine aops_nil ?_
  refine ago_condE  (rfl : C82_33 = .cond (.tmp 67) C82_34 C82_39) rfl rfl (fun hb69 => ?_) (fun hb69 => ?_)
  · replace H := cnd_t H hb69
    refine ago_seqE (rfl : C82_34 = .seq C82_35 C82_36) ?_
    refine ago_regE (rfl : C82_35 = .region 15 R82_15 false) (l := [0, 1, 2, 3, 4, 5, 6]) rfl ?_
    refine lj 69 R82_15_N rfl rfl rfl (opv_move rfl rfl h0) ?_
    obtain ⟨hp70, H⟩ := H
    refine lj 70 R82_15_N rfl rfl rfl (ov_nck rfl rfl rfl hp70) ?_
    obtain ⟨b72, i73, p71, hp74, hv75, H⟩ := H
    refine lj 71 R82_15_N rfl rfl rfl (ov_fldA rfl rfl underlying77 rfl sz50 (by decide) rfl hp74 rfl hv75) ?_
    obtain ⟨b76, i77, x79, hp78, hg80, H⟩ := H
    refine lj 72 R82_15_N rfl rfl rfl (ov_ldV rfl underlying50 rfl rfl rfl hp78 hg80) ?_
    refine lj 73 R82_15_N rfl rfl rfl (opv_move rfl rfl h2) ?_
    refine lc 74 R82_15_N rfl rfl rfl (opc_of rfl rfl is19 (ma_cons rfl (ma_cons rfl rfl))) H (fun _ _ h => ⟨rfl, h⟩) fun r81 aw82 H => ?_
    refine lj 6 R82_15_N rfl rfl rfl (opv_assign rfl rfl rfl) ?_
    refine aops_nil ?_
    refine ago_seqE (rfl : C82_36 = .seq C82_37 C82_38) ?_
    obtain ⟨hp83, H⟩ := H
    obtain ⟨b85, i86, p84, hp87, hv88, H⟩ := H
    obtain ⟨hp89, H⟩ := H
    obtain ⟨b91, i92, p90, hp93, hv94, H⟩ := H
    obtain ⟨b95, i96, x98, hp97, hg99, H⟩ := H
    obtain ⟨hp100, H⟩ := H
    obtain ⟨b102, i103, p101, hp104, hv105, H⟩ := H
    refine ago_drawH (p := [0, 1, 2, 3, 4, 5, 6, 7, 8, 9, 10, 11, 12]) (tl := [(13, [0, 1, 2, 3, 4, 5, 6, 7, 8, 9], [14, 15, 16]), (17, [], [])]) (hv := [(0, m_0), (1, m_0), (2, p84), (3, Value.string r81), (4, Value.string r81), (5, Value.int .i64 (r81.size : Int)), (6, m_0), (7, m_0), (8, p90), (9, Value.int .i64 x98), (10, m_0), (11, m_0), (12, p101)]) (rfl : C82_37 = .region 16 R82_16 true) mixed R82_16_N R82_16_O rfl (pv_cons rfl (pv_cons rfl (pv_cons rfl (pv_cons rfl (pv_cons rfl (pv_cons rfl (pv_cons rfl (pv_cons rfl (pv_cons rfl (pv_cons rfl (pv_cons rfl (pv_cons rfl (pv_cons rfl (pv_nil _))))))))))))))
      (fc 75 m_0 (hd_v rfl fun ρ hρ => ⟨rfl, opv_move rfl rfl ((hρ 0 (lmem rfl)).trans h0)⟩) rfl rfl
      (fc 76 m_0 (hd_v rfl fun ρ hρ => ⟨rfl, ov_nck rfl rfl ((hρ 75 (lmem rfl)).trans rfl) hp83⟩) rfl rfl
      (fc 77 p84 (hd_v rfl fun ρ hρ => ⟨rfl, ov_fldA rfl rfl underlying77 rfl sz75 (by decide) ((hρ 76 (lmem rfl)).trans rfl) hp87 rfl hv88⟩) rfl rfl
      (fc 78 (.string r81) (hd_v rfl fun ρ hρ => ⟨rfl, opv_move rfl rfl ((hρ 6 (lmem rfl)).trans rfl)⟩) rfl rfl
      (fc 79 (.string r81) (hd_v rfl fun ρ hρ => ⟨rfl, opv_move rfl rfl ((hρ 6 (lmem rfl)).trans rfl)⟩) rfl rfl
      (fc 80 (.int .i64 (r81.size : Int)) (hd_v rfl fun ρ hρ => ⟨rfl, opv_lenS rfl rfl rfl underlying9 ((hρ 79 (lmem rfl)).trans rfl)⟩) rfl rfl
      (fc 81 m_0 (hd_v rfl fun ρ hρ => ⟨rfl, opv_move rfl rfl ((hρ 0 (lmem rfl)).trans h0)⟩) rfl rfl
      (fc 82 m_0 (hd_v rfl fun ρ hρ => ⟨rfl, ov_nck rfl rfl ((hρ 81 (lmem rfl)).trans rfl) hp89⟩) rfl rfl
      (fc 83 p90 (hd_v rfl fun ρ hρ => ⟨rfl, ov_fldA rfl rfl underlying77 rfl sz3 (by decide) ((hρ 82 (lmem rfl)).trans rfl) hp93 rfl hv94⟩) rfl rfl
      (fc 84 (.int .i64 x98) (hd_v rfl fun ρ hρ => ⟨rfl, ov_ldI rfl underlying3 rfl ((hρ 83 (lmem rfl)).trans rfl) hp97 hg99⟩) rfl rfl
      (fc 85 m_0 (hd_v rfl fun ρ hρ => ⟨rfl, opv_move rfl rfl ((hρ 0 (lmem rfl)).trans h0)⟩) rfl rfl
      (fc 86 m_0 (hd_v rfl fun ρ hρ => ⟨rfl, ov_nck rfl rfl ((hρ 85 (lmem rfl)).trans rfl) hp100⟩) rfl rfl
      (fc 87 p101 (hd_v rfl fun ρ hρ => ⟨rfl, ov_fldA rfl rfl underlying77 rfl sz75 (by decide) ((hρ 86 (lmem rfl)).trans rfl) hp104 rfl hv105⟩) rfl rfl
      ffn))))))))))))) ?_
    refine lt_call (dt := some 88) rfl rfl (fun ρ hρ => ⟨rfl, opc_of rfl rfl is89 (ma_cons ((hρ 87 (lmem rfl)).trans rfl) rfl)⟩) H (fun _ _ h _ => ⟨rfl, h⟩) fun r106 aw107 H => ?_
    obtain ⟨hg99, H⟩ := H
    replace hg99 := hg99 _ _ hp97
    obtain ⟨s108, hq109, hq110, hq111, hq112, H⟩ := H
    refine lt_next (l := [0, 1, 2, 3, 4, 5, 6, 7, 8, 9, 14, 15, 16]) (hv := [(14, Value.int .i64 (IntKind.i64.wrap (x98 - r106))), (15, Value.int .i64 (min (r81.size : Int) (IntKind.i64.wrap (x98 - r106)))), (16, Value.string s108)]) rfl rfl (pv_cons rfl (pv_cons rfl (pv_cons rfl (pv_nil _))))
      (fc 75 m_0 (hd_v rfl fun ρ hρ => ⟨rfl, opv_move rfl rfl ((hρ 0 (lmem rfl)).trans h0)⟩) rfl rfl
      (fc 76 m_0 (hd_v rfl fun ρ hρ => ⟨rfl, ov_nck rfl rfl ((hρ 75 (lmem rfl)).trans rfl) hp83⟩) rfl rfl
      (fc 77 p84 (hd_v rfl fun ρ hρ => ⟨rfl, ov_fldA rfl rfl underlying77 rfl sz75 (by decide) ((hρ 76 (lmem rfl)).trans rfl) hp87 rfl hv88⟩) rfl rfl
      (fc 78 (.string r81) (hd_v rfl fun ρ hρ => ⟨rfl, opv_move rfl rfl ((hρ 6 (lmem rfl)).trans rfl)⟩) rfl rfl
      (fc 79 (.string r81) (hd_v rfl fun ρ hρ => ⟨rfl, opv_move rfl rfl ((hρ 6 (lmem rfl)).trans rfl)⟩) rfl rfl
      (fc 80 (.int .i64 (r81.size : Int)) (hd_v rfl fun ρ hρ => ⟨rfl, opv_lenS rfl rfl rfl underlying9 ((hρ 79 (lmem rfl)).trans rfl)⟩) rfl rfl
      (fc 81 m_0 (hd_v rfl fun ρ hρ => ⟨rfl, opv_move rfl rfl ((hρ 0 (lmem rfl)).trans h0)⟩) rfl rfl
      (fc 82 m_0 (hd_v rfl fun ρ hρ => ⟨rfl, ov_nck rfl rfl ((hρ 81 (lmem rfl)).trans rfl) hp89⟩) rfl rfl
      (fc 83 p90 (hd_v rfl fun ρ hρ => ⟨rfl, ov_fldA rfl rfl underlying77 rfl sz3 (by decide) ((hρ 82 (lmem rfl)).trans rfl) hp93 rfl hv94⟩) rfl rfl
      (fc 84 (.int .i64 x98) (hd_v rfl fun ρ hρ => ⟨rfl, ov_ldI rfl underlying3 rfl ((hρ 83 (lmem rfl)).trans rfl) hp97 hg99⟩) rfl rfl
      (fc 89 (.int .i64 (IntKind.i64.wrap (x98 - r106))) (hd_v rfl fun ρ hρ => ⟨rfl, opv_sub rfl rfl rfl ((hρ 84 (lmem rfl)).trans rfl) ((hρ 88 (lmem rfl)).trans rfl)⟩) rfl rfl
      (fc 90 (.int .i64 (min (r81.size : Int) (IntKind.i64.wrap (x98 - r106)))) (hd_v rfl fun ρ hρ => ⟨rfl, opv_min rfl rfl rfl ((hρ 80 (lmem rfl)).trans rfl) ((hρ 89 (lmem rfl)).trans rfl)⟩) rfl rfl
      (fc 91 (.string s108) (hd_v rfl fun ρ hρ => ⟨rfl, ov_cutS rfl rfl underlying9 ((hρ 78 (lmem rfl)).trans rfl) (bndN _ _ _) (bndS ((hρ 90 (lmem rfl)).trans rfl)) hq109 hq110 hq111 hq112⟩) rfl rfl
      ffn))))))))))))) ?_
    refine lt_call (dt := some 92) rfl rfl (fun ρ hρ => ⟨rfl, opc_of rfl rfl is88 (ma_cons ((hρ 77 (lmem rfl)).trans rfl) (ma_cons ((hρ 91 (lmem rfl)).trans rfl) rfl))⟩) H (fun _ _ h _ => ⟨rfl, h⟩) fun r113 aw114 H => ?_
    refine lt_next (l := []) (hv := []) rfl rfl (pv_nil _)
      ffn ?_
    refine lt_end ?_
    refine ago_cut (fun ρ => ρ 0 = m_0 ∧ True) ⟨h0, trivial⟩ (fun ρ ⟨h0, _⟩ => ?_)
    refine ago_regE (rfl : C82_38 = .region 17 R82_17 false) (l := [0, 1, 2]) rfl ?_
    refine lj 93 R82_17_N rfl rfl rfl (opv_move rfl rfl h0) ?_
    refine lc 94 R82_17_N rfl rfl rfl (opc_of rfl rfl is14 (ma_cons rfl rfl)) H (fun _ _ h => ⟨rfl, h⟩) fun r115 aw116 H => ?_
    refine lc 95 R82_17_N rfl rfl rfl (opc_of rfl rfl is34 (ma_cons rfl (ma_cons rfl rfl))) H (fun _ _ h => ⟨rfl, h⟩) fun r117 aw118 H => ?_
    refine aops_nil ?_
    refine ago_inBlock ?_
    exact ago_nilR (r := ()) (ares_0 rfl ) rfl H
  exact (cnd_f H hb69).elim
theorem S82_0_ok (Q : Unit → AW → Prop) (E : List PanicEntry → AW → Prop)  (ρ : Env) (m_0 : Value) (k_1 : Int) (x_2 : Int) (aw : AW) (h0 : ρ 0 = m_0) (h1 : ρ 1 = .int .i64 k_1) (h2 : ρ 2 = .int .u64 x_2) (H : S82_0 Q E  m_0 k_1 x_2 aw) :
    AGo prog 114 [.code C82_0] ρ [] aw (RR prog f82 114 sh82 Q E) := by
  unfold S82_0 at H
  refine ago_seqE (rfl : C82_0 = .seq C82_1 C82_2) ?_
  refine ago_regE (rfl : C82_1 = .region 0 R82_0 false) (l := [0]) rfl ?_
  refine lj 7 R82_0_N rfl rfl rfl (opv_move rfl rfl h1) ?_
  refine aops_nil ?_
  refine ago_blockE (rfl : C82_2 = .block 0 C82_3) ?_
  refine ago_seqE (rfl : C82_3 = .seq C82_4 C82_5) ?_
  refine ago_regE (rfl : C82_4 = .region 2 R82_2 false) (l := [0, 1]) rfl ?_
  refine lj 11 R82_2_N rfl rfl rfl (opv_eqI rfl rfl rfl rfl rfl) ?_
  refine lj 10 R82_2_N rfl rfl rfl (opv_assign rfl rfl rfl) ?_
  refine aops_nil ?_
  refine ago_condE  (rfl : C82_5 = .cond (.tmp 10) C82_6 C82_7) rfl rfl (fun hb119 => ?_) (fun hb119 => ?_)
  · exact (cnd_t H hb119).elim
  replace H := cnd_f H hb119
  refine ago_seqE (rfl : C82_7 = .seq C82_8 C82_9) ?_
  refine ago_regE (rfl : C82_8 = .region 4 R82_4 false) (l := [0, 1]) rfl ?_
  refine lj 21 R82_4_N rfl rfl rfl (opv_eqI rfl rfl rfl rfl rfl) ?_
  refine lj 20 R82_4_N rfl rfl rfl (opv_assign rfl rfl rfl) ?_
  refine aops_nil ?_
  refine ago_condE  (rfl : C82_9 = .cond (.tmp 20) C82_10 C82_11) rfl rfl (fun hb120 => ?_) (fun hb120 => ?_)
  · exact (cnd_t H hb120).elim
  replace H := cnd_f H hb120
  refine ago_seqE (rfl : C82_11 = .seq C82_12 C82_17) ?_
  refine ago_seqE (rfl : C82_12 = .seq C82_13 C82_14) ?_
  refine ago_regE (rfl : C82_13 = .region 6 R82_6 false) (l := [0, 1]) rfl ?_
  refine lj 28 R82_6_N rfl rfl rfl (opv_eqI rfl rfl rfl rfl rfl) ?_
  refine lj 27 R82_6_N rfl rfl rfl (opv_assign rfl rfl rfl) ?_
  refine aops_nil ?_
  refine ago_condE  (rfl : C82_14 = .cond (.tmp 27) C82_15 C82_16) rfl rfl (fun hb121 => ?_) (fun hb121 => ?_)
  · replace H := cnd_t H hb121
    refine ago_skipE (rfl : C82_15 = .skip) ?_
    exact S82_1_ok Q E  _ m_0 k_1 x_2 k_1 (decide (k_1 = 2)) aw h0 h1 h2 rfl rfl H
  replace H := cnd_f H hb121
  refine ago_regE (rfl : C82_16 = .region 7 R82_7 false) (l := [0, 1]) rfl ?_
  refine lj 29 R82_7_N rfl rfl rfl (opv_eqI rfl rfl rfl rfl rfl) ?_
  refine lj 27 R82_7_N rfl rfl rfl (opv_assign rfl rfl rfl) ?_
  refine aops_nil ?_
  exact S82_1_ok Q E  _ m_0 k_1 x_2 k_1 (decide (k_1 = 7)) aw h0 h1 h2 rfl rfl H
theorem F82_ok {Q : Unit → AW → Prop} {E : List PanicEntry → AW → Prop} (m_0 : Value) (k_1 : Int) (x_2 : Int) (aw : AW) (H : S82_0 Q E m_0 k_1 x_2 aw) : CallP prog 82 [m_0, .int .i64 k_1, .int .u64 x_2] aw sh82 Q E :=
  callP_of func82 C82_is rfl (Nat.le_of_ble_eq_true rfl) (S82_0_ok Q E _ m_0 k_1 x_2 aw rfl rfl rfl H)
end
end Go.Proofs.Tryd
