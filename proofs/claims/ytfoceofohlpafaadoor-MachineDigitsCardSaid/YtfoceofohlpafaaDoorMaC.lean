/- Printed by a program of the prover: what the Go functions of this seat do, in steps. -/
import Derived.Test.YtfoceofohlpafaaDoorMaF
set_option linter.unusedSectionVars false
set_option linter.unusedSimpArgs false
set_option linter.unusedVariables false
namespace Go.Proofs.Tryd
open Go Go.Am Go.RowKit
set_option maxHeartbeats 4000000
set_option maxRecDepth 100000
noncomputable section
variable [SymE]
def C58_0 := bodyOf f58
theorem C58_is : f58.body = some C58_0 := by kernel_rfl
def C58_1 := cl C58_0
def R58_0 := regOps C58_1
def C58_2 := cr C58_0
def C58_3 := cl C58_2
def R58_1 := regOps C58_3
def C58_4 := cr C58_2
def C58_5 := cl C58_4
def R58_2 := regOps C58_5
def C58_6 := cr C58_4
def C58_7 := cl C58_6
def R58_3 := regOps C58_7
def C58_8 := cr C58_6
def C58_9 := cl C58_8
def C58_10 := cl C58_9
def R58_5 := regOps C58_10
def C58_11 := cr C58_9
def C58_12 := cl C58_11
def R58_6 := regOps C58_12
def C58_13 := cr C58_11
def C58_14 := cl C58_13
def R58_7 := regOps C58_14
def C58_15 := cr C58_13
def C58_16 := cl C58_15
def C58_17 := cr C58_15
def C58_18 := cl C58_17
def R58_9 := regOps C58_18
def C58_19 := cr C58_17
def C58_20 := cl C58_19
def C58_21 := cr C58_19
def C58_22 := cl C58_21
def R58_11 := regOps C58_22
def C58_23 := cr C58_21
def C58_24 := cl C58_23
def C58_25 := cr C58_23
def C58_26 := cl C58_25
def R58_13 := regOps C58_26
def C58_27 := cr C58_25
def C58_28 := cl C58_27
def C58_29 := cr C58_27
def C58_30 := cl C58_29
def R58_15 := regOps C58_30
def C58_31 := cr C58_29
def C58_32 := cl C58_31
def R58_16 := regOps C58_32
def C58_33 := cr C58_31
def C58_34 := cl C58_33
def R58_17 := regOps C58_34
def C58_35 := cr C58_33
def C58_36 := cl C58_35
def C58_37 := cr C58_35
def C58_38 := cl C58_37
def R58_19 := regOps C58_38
def C58_39 := cr C58_37
def C58_40 := cl C58_39
def R58_20 := regOps C58_40
def C58_41 := cr C58_39
def C58_42 := cl C58_41
def R58_21 := regOps C58_42
def C58_43 := cr C58_41
def C58_44 := cl C58_43
def C58_45 := cl C58_44
def R58_22 := regOps C58_45
def C58_46 := cr C58_44
def C58_47 := cl C58_46
def R58_23 := regOps C58_47
def C58_48 := cr C58_46
def R58_24 := regOps C58_48
def C58_49 := cr C58_43
def C58_50 := cl C58_49
def R58_25 := regOps C58_50
def C58_51 := cr C58_49
def C58_52 := cl C58_51
def C58_53 := cr C58_51
def C58_54 := cl C58_53
def R58_27 := regOps C58_54
def C58_55 := cr C58_53
def C58_56 := cl C58_55
def C58_57 := cr C58_55
def C58_58 := cl C58_57
def R58_29 := regOps C58_58
def C58_59 := cr C58_57
def C58_60 := cl C58_59
def C58_61 := cr C58_59
def C58_62 := cl C58_61
def R58_31 := regOps C58_62
def C58_63 := cr C58_61
def C58_64 := cl C58_63
def C58_69 := cr C58_63
def C58_70 := cl C58_69
def R58_34 := regOps C58_70
def C58_71 := cr C58_69
def C58_72 := cl C58_71
def C58_75 := cr C58_71
def C58_76 := cl C58_75
def R58_37 := regOps C58_76
def C58_77 := cr C58_75
def C58_78 := cl C58_77
def C58_79 := cr C58_77
def C58_80 := cl C58_79
def R58_39 := regOps C58_80
def C58_81 := cr C58_79
def C58_82 := cl C58_81
def C58_83 := cr C58_81
def C58_84 := cl C58_83
def R58_41 := regOps C58_84
def C58_85 := cr C58_83
def C58_86 := cl C58_85
def C58_87 := cr C58_85
def C58_88 := cl C58_87
def R58_43 := regOps C58_88
def C58_89 := cr C58_87
def C58_90 := cl C58_89
def C58_91 := cr C58_89
def C58_92 := cl C58_91
def R58_45 := regOps C58_92
def C58_93 := cr C58_91
def C58_94 := cl C58_93
def C58_95 := cr C58_93
def C58_96 := cl C58_95
def R58_47 := regOps C58_96
def C58_97 := cr C58_95
def C58_98 := cl C58_97
def C58_99 := cr C58_97
def C58_100 := cl C58_99
def R58_49 := regOps C58_100
def C58_101 := cr C58_99
def C58_102 := cl C58_101
def C58_103 := cr C58_101
def C58_104 := cl C58_103
def R58_51 := regOps C58_104
def C58_105 := cr C58_103
def C58_106 := cl C58_105
def C58_107 := cr C58_105
def R58_4 := regOps C58_107
theorem R58_0_N : dstsOk 303 R58_0 = true := by decide +kernel
theorem R58_0_O : linOk R58_0 [0, 1, 2, 3, 4, 5, 6, 7, 8, 9, 10, 11] [] = true := by decide +kernel
theorem R58_1_N : dstsOk 303 R58_1 = true := by decide +kernel
theorem R58_1_O : linOk R58_1 [0, 1, 2, 3, 4, 5, 6, 7, 8, 9, 10, 11, 12, 13, 14, 15, 16] [(17, [0, 1, 2, 3, 4, 5, 6, 7, 8, 9, 10, 11, 12, 13, 14, 15, 16], []), (18, [], [])] = true := by decide +kernel
theorem R58_2_N : dstsOk 303 R58_2 = true := by decide +kernel
theorem R58_3_N : dstsOk 303 R58_3 = true := by decide +kernel
theorem R58_5_N : dstsOk 303 R58_5 = true := by decide +kernel
theorem R58_6_N : dstsOk 303 R58_6 = true := by decide +kernel
theorem R58_7_N : dstsOk 303 R58_7 = true := by decide +kernel
theorem R58_9_N : dstsOk 303 R58_9 = true := by decide +kernel
theorem R58_11_N : dstsOk 303 R58_11 = true := by decide +kernel
theorem R58_13_N : dstsOk 303 R58_13 = true := by decide +kernel
theorem R58_15_N : dstsOk 303 R58_15 = true := by decide +kernel
theorem R58_16_N : dstsOk 303 R58_16 = true := by decide +kernel
theorem R58_16_O : linOk R58_16 [0, 1, 2, 3, 4, 5, 6, 7, 8] [(9, [], [])] = true := by decide +kernel
theorem R58_17_N : dstsOk 303 R58_17 = true := by decide +kernel
theorem R58_19_N : dstsOk 303 R58_19 = true := by decide +kernel
theorem R58_20_N : dstsOk 303 R58_20 = true := by decide +kernel
theorem R58_21_N : dstsOk 303 R58_21 = true := by decide +kernel
theorem R58_22_N : dstsOk 303 R58_22 = true := by decide +kernel
theorem R58_23_N : dstsOk 303 R58_23 = true := by decide +kernel
theorem R58_23_O : linOk R58_23 [0, 1, 2, 3, 4, 5, 6, 7, 8, 9, 10, 11] [(12, [0, 1, 2, 3, 4, 5, 6, 7, 8, 9, 10], []), (13, [0], [14, 15]), (16, [], [])] = true := by decide +kernel
theorem R58_24_N : dstsOk 303 R58_24 = true := by decide +kernel
theorem R58_24_O : linOk R58_24 [0, 1, 2, 3, 4, 5, 6, 7, 8, 9, 10, 11, 12, 13] [(14, [], [])] = true := by decide +kernel
theorem R58_25_N : dstsOk 303 R58_25 = true := by decide +kernel
theorem R58_27_N : dstsOk 303 R58_27 = true := by decide +kernel
theorem R58_29_N : dstsOk 303 R58_29 = true := by decide +kernel
theorem R58_31_N : dstsOk 303 R58_31 = true := by decide +kernel
theorem R58_34_N : dstsOk 303 R58_34 = true := by decide +kernel
theorem R58_37_N : dstsOk 303 R58_37 = true := by decide +kernel
theorem R58_39_N : dstsOk 303 R58_39 = true := by decide +kernel
theorem R58_41_N : dstsOk 303 R58_41 = true := by decide +kernel
theorem R58_43_N : dstsOk 303 R58_43 = true := by decide +kernel
theorem R58_45_N : dstsOk 303 R58_45 = true := by decide +kernel
theorem R58_47_N : dstsOk 303 R58_47 = true := by decide +kernel
theorem R58_49_N : dstsOk 303 R58_49 = true := by decide +kernel
theorem R58_51_N : dstsOk 303 R58_51 = true := by decide +kernel
theorem R58_4_N : dstsOk 303 R58_4 = true := by decide +kernel
def S58_1 (Q : Unit → AW → Prop) (E : List PanicEntry → AW → Prop)  (m_0 : Value) (f_2 : Value) (i_3 : Value) (t_42 : Int) (aw : AW) : Prop :=
  cnd (decide (t_42 = 0)) (fldA i_3 1 fun p2 =>
  ldI .i64 aw p2 fun x10 =>
  CallP prog 14 [.int .i64 x10] aw sh14 (fun r12 aw13 =>
  CallP prog 34 [m_0, .int .u64 r12] aw13 sh34 (fun r14 aw15 =>
  Q () aw15) E) E) (cnd (decide (t_42 = 1)) (False) (cnd (decide (t_42 = 2)) (False) (cnd (decide (t_42 = 3)) (False) (cnd (decide (t_42 = 4)) (False) (cnd (decide (t_42 = 5)) (nck m_0 (fldA m_0 2 fun p22 =>
  ldV aw p22 fun x30 =>
  fldA i_3 1 fun p32 =>
  ldI .i64 aw p32 fun x40 =>
  ixS x30 x40 1 fun p42 =>
  ldI .u64 aw p42 fun x54 =>
  CallP prog 34 [m_0, .int .u64 x54] aw sh34 (fun r56 aw57 =>
  Q () aw57) E)) (cnd (decide (t_42 = 6)) (False) (cnd (decide (t_42 = 7)) (CallP prog 72 [m_0] aw sh72 (fun r60 aw61 =>
  Q () aw61) E) (cnd (decide (t_42 = 8)) (CallP prog 37 [m_0] aw sh37 (fun r63 aw64 =>
  nck m_0 (fldA m_0 3 fun p66 =>
  ldV aw64 p66 fun x74 =>
  nck f_2 (fldA f_2 2 fun p77 =>
  ldI .i64 aw64 p77 fun x85 =>
  cutV aw64 1 x74 0 (IntKind.i64.wrap (x85 - 1)) fun v87 =>
  alcS aw64 [.int .u64 r63] 26 1 1 fun p89 aw90 =>
  again1 aw90 p66 (x74) ∧ again1 aw90 p77 (.int .i64 x85) ∧ Cut aw90 1 x74 0 (IntKind.i64.wrap (x85 - 1)) v87 ∧ app aw90 26 1 8 v87 p89 fun v93 aw94 =>
  nck m_0 (fldA m_0 3 fun p97 =>
  st aw94 p97 [v93] fun aw102 =>
  nck m_0 (fldA m_0 4 fun p110 =>
  ldV aw102 p110 fun x118 =>
  nck m_0 (fldA m_0 4 fun p121 =>
  ldV aw102 p121 fun x129 =>
  slen x129 fun n131 =>
  cutV aw102 3 x118 0 (IntKind.i64.wrap (n131 - 1)) fun v137 =>
  nck m_0 (fldA m_0 4 fun p140 =>
  st aw102 p140 [v137] fun aw145 =>
  Q () aw145))))))) E) (cnd (decide (t_42 = 9)) (False) (cnd (decide (t_42 = 10)) (False) (cnd (decide (t_42 = 12)) (False) (cnd (decide (t_42 = 13)) (False) (cnd (decide (t_42 = 18)) (False) (cnd (decide (t_42 = 19)) (False) (cnd (decide (t_42 = 20)) (False) (cnd (decide (t_42 = 21)) (False) (cnd (decide (t_42 = 22)) (False) (cnd (decide (t_42 = 23)) (False) (cnd (decide (t_42 = 24)) (False) (cnd (decide (t_42 = 25)) (False) (cnd (decide (t_42 = 26)) (False) (ptr i_3 fun b165 i166 =>
  gI .u8 aw b165 i166 fun c168 =>
  gI .i64 aw b165 (i166 + 1) fun c169 =>
  gI .i64 aw b165 (i166 + 2) fun c170 =>
  gS aw b165 (i166 + 3) fun c171 =>
  CallP prog 75 [m_0, .agg #[.int .u8 c168, .int .i64 c169, .int .i64 c170, .string c171]] aw sh75 (fun r176 aw177 =>
  Q () aw177) E))))))))))))))))))))))
def S58_0 (Q : Unit → AW → Prop) (E : List PanicEntry → AW → Prop)  (m_0 : Value) (aw : AW) : Prop :=
  nck m_0 (fldA m_0 4 fun p179 =>
  ldV aw p179 fun x187 =>
  nck m_0 (fldA m_0 4 fun p190 =>
  ldV aw p190 fun x198 =>
  slen x198 fun n200 =>
  ixS x187 (IntKind.i64.wrap (n200 - 1)) 3 fun p206 =>
  nck m_0 (fldA m_0 1 fun p216 =>
  ldV aw p216 fun x224 =>
  nck p206 (fldA p206 0 fun p227 =>
  ldI .i64 aw p227 fun x235 =>
  ixS x224 x235 2 fun p237 =>
  fldA p237 1 fun p246 =>
  ldV aw p246 fun x254 =>
  nck p206 (fldA p206 1 fun p257 =>
  ldI .i64 aw p257 fun x265 =>
  ixS x254 x265 4 fun p267 =>
  ptr p267 fun b276 i277 =>
  gI .u8 aw b276 i277 fun c279 =>
  gI .i64 aw b276 (i277 + 1) fun c280 =>
  gI .i64 aw b276 (i277 + 2) fun c281 =>
  gS aw b276 (i277 + 3) fun c282 =>
  alc aw [.int .u8 0, .int .i64 0, .int .i64 0, .string (⟨#[]⟩ : ByteArray)] 34 0 fun p287 aw288 =>
  again1 aw288 p216 (x224) ∧ again1 aw288 p227 (.int .i64 x235) ∧ again1 aw288 p246 (x254) ∧ again1 aw288 p257 (.int .i64 x265) ∧ aw288.get b276 i277 = some (.int .u8 c279) ∧ aw288.get b276 (i277 + 1) = some (.int .i64 c280) ∧ aw288.get b276 (i277 + 2) = some (.int .i64 c281) ∧ aw288.get b276 (i277 + 3) = some (.string c282) ∧ st aw288 p287 [.int .u8 c279, .int .i64 c280, .int .i64 c281, .string c282] fun aw291 =>
  nck p206 (fldA p206 1 fun p299 =>
  ldI .i64 aw291 p299 fun x307 =>
  nck p206 (fldA p206 1 fun p310 =>
  st aw291 p310 [.int .i64 (IntKind.i64.wrap (x307 + 1))] fun aw315 =>
  fldA p287 0 fun p322 =>
  ldI .u8 aw315 p322 fun x330 =>
  S58_1 Q E  m_0 p206 p287 x330 aw315)))))))
theorem S58_1_ok (Q : Unit → AW → Prop) (E : List PanicEntry → AW → Prop)  (ρ : Env) (m_0 : Value) (f_2 : Value) (i_3 : Value) (t_42 : Int) (aw : AW) (h0 : ρ 0 = m_0) (h2 : ρ 2 = f_2) (h3 : ρ 3 = i_3) (h42 : ρ 42 = .int .u8 t_42) (H : S58_1 Q E  m_0 f_2 i_3 t_42 aw) :
    AGo prog 303 [.code C58_8] ρ [] aw (RR prog f58 303 sh58 Q E) := by
  unfold S58_1 at H
  refine ago_blockE (rfl : C58_8 = .block 0 C58_9) ?_
  refine ago_seqE (rfl : C58_9 = .seq C58_10 C58_11) ?_
  refine ago_regE (rfl : C58_10 = .region 5 R58_5 false) (l := [0, 1]) rfl ?_
  refine lj 47 R58_5_N rfl rfl rfl (opv_eqI rfl rfl rfl h42 rfl) ?_
  refine lj 46 R58_5_N rfl rfl rfl (opv_assign rfl rfl rfl) ?_
  refine aops_nil ?_
  refine ago_condE  (rfl : C58_11 = .cond (.tmp 46) C58_12 C58_13) rfl rfl (fun hb1 => ?_) (fun hb1 => ?_)
  · replace H := cnd_t H hb1
    refine ago_regE (rfl : C58_12 = .region 6 R58_6 false) (l := [0, 1, 2, 3, 4]) rfl ?_
    refine lj 48 R58_6_N rfl rfl rfl (opv_move rfl rfl h0) ?_
    obtain ⟨b3, i4, p2, hp5, hv6, H⟩ := H
    refine lj 49 R58_6_N rfl rfl rfl (ov_fldA rfl rfl underlying34 rfl sz2 (by decide) h3 hp5 rfl hv6) ?_
    obtain ⟨b7, i8, x10, hp9, hg11, H⟩ := H
    refine lj 50 R58_6_N rfl rfl rfl (ov_ldI rfl underlying2 rfl rfl hp9 hg11) ?_
    refine lc 51 R58_6_N rfl rfl rfl (opc_of rfl rfl is14 (ma_cons rfl rfl)) H (fun _ _ h => ⟨rfl, h⟩) fun r12 aw13 H => ?_
    refine lc 52 R58_6_N rfl rfl rfl (opc_of rfl rfl is34 (ma_cons rfl (ma_cons rfl rfl))) H (fun _ _ h => ⟨rfl, h⟩) fun r14 aw15 H => ?_
    refine aops_nil ?_
    refine ago_inBlock ?_
    exact ago_nilR (r := ()) (ares_0 rfl ) rfl H
  replace H := cnd_f H hb1
  refine ago_seqE (rfl : C58_13 = .seq C58_14 C58_15) ?_
  refine ago_regE (rfl : C58_14 = .region 7 R58_7 false) (l := [0, 1]) rfl ?_
  refine lj 54 R58_7_N rfl rfl rfl (opv_eqI rfl rfl rfl h42 rfl) ?_
  refine lj 53 R58_7_N rfl rfl rfl (opv_assign rfl rfl rfl) ?_
  refine aops_nil ?_
  refine ago_condE  (rfl : C58_15 = .cond (.tmp 53) C58_16 C58_17) rfl rfl (fun hb16 => ?_) (fun hb16 => ?_)
  · exact (cnd_t H hb16).elim
  replace H := cnd_f H hb16
  refine ago_seqE (rfl : C58_17 = .seq C58_18 C58_19) ?_
  refine ago_regE (rfl : C58_18 = .region 9 R58_9 false) (l := [0, 1]) rfl ?_
  refine lj 60 R58_9_N rfl rfl rfl (opv_eqI rfl rfl rfl h42 rfl) ?_
  refine lj 59 R58_9_N rfl rfl rfl (opv_assign rfl rfl rfl) ?_
  refine aops_nil ?_
  refine ago_condE  (rfl : C58_19 = .cond (.tmp 59) C58_20 C58_21) rfl rfl (fun hb17 => ?_) (fun hb17 => ?_)
  · exact (cnd_t H hb17).elim
  replace H := cnd_f H hb17
  refine ago_seqE (rfl : C58_21 = .seq C58_22 C58_23) ?_
  refine ago_regE (rfl : C58_22 = .region 11 R58_11 false) (l := [0, 1]) rfl ?_
  refine lj 77 R58_11_N rfl rfl rfl (opv_eqI rfl rfl rfl h42 rfl) ?_
  refine lj 76 R58_11_N rfl rfl rfl (opv_assign rfl rfl rfl) ?_
  refine aops_nil ?_
  refine ago_condE  (rfl : C58_23 = .cond (.tmp 76) C58_24 C58_25) rfl rfl (fun hb18 => ?_) (fun hb18 => ?_)
  · exact (cnd_t H hb18).elim
  replace H := cnd_f H hb18
  refine ago_seqE (rfl : C58_25 = .seq C58_26 C58_27) ?_
  refine ago_regE (rfl : C58_26 = .region 13 R58_13 false) (l := [0, 1]) rfl ?_
  refine lj 97 R58_13_N rfl rfl rfl (opv_eqI rfl rfl rfl h42 rfl) ?_
  refine lj 96 R58_13_N rfl rfl rfl (opv_assign rfl rfl rfl) ?_
  refine aops_nil ?_
  refine ago_condE  (rfl : C58_27 = .cond (.tmp 96) C58_28 C58_29) rfl rfl (fun hb19 => ?_) (fun hb19 => ?_)
  · exact (cnd_t H hb19).elim
  replace H := cnd_f H hb19
  refine ago_seqE (rfl : C58_29 = .seq C58_30 C58_31) ?_
  refine ago_regE (rfl : C58_30 = .region 15 R58_15 false) (l := [0, 1]) rfl ?_
  refine lj 112 R58_15_N rfl rfl rfl (opv_eqI rfl rfl rfl h42 rfl) ?_
  refine lj 111 R58_15_N rfl rfl rfl (opv_assign rfl rfl rfl) ?_
  refine aops_nil ?_
  refine ago_condE  (rfl : C58_31 = .cond (.tmp 111) C58_32 C58_33) rfl rfl (fun hb20 => ?_) (fun hb20 => ?_)
  · replace H := cnd_t H hb20
    refine ago_cut (fun ρ => ρ 0 = m_0 ∧ ρ 3 = i_3 ∧ True) ⟨h0, h3, trivial⟩ (fun ρ ⟨h0, h3, _⟩ => ?_)
    obtain ⟨hp21, H⟩ := H
    obtain ⟨b23, i24, p22, hp25, hv26, H⟩ := H
    obtain ⟨b27, i28, x30, hp29, hg31, H⟩ := H
    obtain ⟨b33, i34, p32, hp35, hv36, H⟩ := H
    obtain ⟨b37, i38, x40, hp39, hg41, H⟩ := H
    obtain ⟨b43, i44, l45, c46, p42, hp47, h048, hj49, hv50, H⟩ := H
    obtain ⟨b51, i52, x54, hp53, hg55, H⟩ := H
    refine ago_drawH (p := [0, 1, 2, 3, 4, 5, 6, 7, 8]) (tl := [(9, [], [])]) (hv := [(0, m_0), (1, m_0), (2, m_0), (3, p22), (4, x30), (5, p32), (6, Value.int .i64 x40), (7, p42), (8, Value.int .u64 x54)]) (rfl : C58_32 = .region 16 R58_16 true) mixed R58_16_N R58_16_O rfl (pv_cons rfl (pv_cons rfl (pv_cons rfl (pv_cons rfl (pv_cons rfl (pv_cons rfl (pv_cons rfl (pv_cons rfl (pv_cons rfl (pv_nil _))))))))))
      (fc 113 m_0 (hd_v rfl fun ρ hρ => ⟨rfl, opv_move rfl rfl ((hρ 0 (lmem rfl)).trans h0)⟩) rfl rfl
      (fc 114 m_0 (hd_v rfl fun ρ hρ => ⟨rfl, opv_move rfl rfl ((hρ 0 (lmem rfl)).trans h0)⟩) rfl rfl
      (fc 115 m_0 (hd_v rfl fun ρ hρ => ⟨rfl, ov_nck rfl rfl ((hρ 114 (lmem rfl)).trans rfl) hp21⟩) rfl rfl
      (fc 116 p22 (hd_v rfl fun ρ hρ => ⟨rfl, ov_fldA rfl rfl underlying77 rfl sz62 (by decide) ((hρ 115 (lmem rfl)).trans rfl) hp25 rfl hv26⟩) rfl rfl
      (fc 117 x30 (hd_v rfl fun ρ hρ => ⟨rfl, ov_ldV rfl underlying62 rfl rfl ((hρ 116 (lmem rfl)).trans rfl) hp29 hg31⟩) rfl rfl
      (fc 118 p32 (hd_v rfl fun ρ hρ => ⟨rfl, ov_fldA rfl rfl underlying34 rfl sz2 (by decide) ((hρ 3 (lmem rfl)).trans h3) hp35 rfl hv36⟩) rfl rfl
      (fc 119 (.int .i64 x40) (hd_v rfl fun ρ hρ => ⟨rfl, ov_ldI rfl underlying2 rfl ((hρ 118 (lmem rfl)).trans rfl) hp39 hg41⟩) rfl rfl
      (fc 120 p42 (hd_v rfl fun ρ hρ => ⟨rfl, ov_ixS rfl rfl rfl underlying62 sz26 ((hρ 117 (lmem rfl)).trans rfl) ((hρ 119 (lmem rfl)).trans rfl) hp47 h048 hj49 hv50⟩) rfl rfl
      (fc 121 (.int .u64 x54) (hd_v rfl fun ρ hρ => ⟨rfl, ov_ldI rfl underlying26 rfl ((hρ 120 (lmem rfl)).trans rfl) hp53 hg55⟩) rfl rfl
      ffn))))))))) ?_
    refine lt_call (dt := some 122) rfl rfl (fun ρ hρ => ⟨rfl, opc_of rfl rfl is34 (ma_cons ((hρ 113 (lmem rfl)).trans rfl) (ma_cons ((hρ 121 (lmem rfl)).trans rfl) rfl))⟩) H (fun _ _ h _ => ⟨rfl, h⟩) fun r56 aw57 H => ?_
    refine lt_next (l := []) (hv := []) rfl rfl (pv_nil _)
      ffn ?_
    refine lt_end ?_
    refine ago_inBlock ?_
    exact ago_nilR (r := ()) (ares_0 rfl ) rfl H
  replace H := cnd_f H hb20
  refine ago_seqE (rfl : C58_33 = .seq C58_34 C58_35) ?_
  refine ago_cut (fun ρ => ρ 0 = m_0 ∧ ρ 2 = f_2 ∧ ρ 3 = i_3 ∧ ρ 42 = .int .u8 t_42 ∧ True) ⟨h0, h2, h3, h42, trivial⟩ (fun ρ ⟨h0, h2, h3, h42, _⟩ => ?_)
  refine ago_regE (rfl : C58_34 = .region 17 R58_17 false) (l := [0, 1]) rfl ?_
  refine lj 124 R58_17_N rfl rfl rfl (opv_eqI rfl rfl rfl h42 rfl) ?_
  refine lj 123 R58_17_N rfl rfl rfl (opv_assign rfl rfl rfl) ?_
  refine aops_nil ?_
  refine ago_condE  (rfl : C58_35 = .cond (.tmp 123) C58_36 C58_37) rfl rfl (fun hb58 => ?_) (fun hb58 => ?_)
  · exact (cnd_t H hb58).elim
  replace H := cnd_f H hb58
  refine ago_seqE (rfl : C58_37 = .seq C58_38 C58_39) ?_
  refine ago_regE (rfl : C58_38 = .region 19 R58_19 false) (l := [0, 1]) rfl ?_
  refine lj 134 R58_19_N rfl rfl rfl (opv_eqI rfl rfl rfl h42 rfl) ?_
  refine lj 133 R58_19_N rfl rfl rfl (opv_assign rfl rfl rfl) ?_
  refine aops_nil ?_
  refine ago_condE  (rfl : C58_39 = .cond (.tmp 133) C58_40 C58_41) rfl rfl (fun hb59 => ?_) (fun hb59 => ?_)
  · replace H := cnd_t H hb59
    refine ago_regE (rfl : C58_40 = .region 20 R58_20 false) (l := [0, 1]) rfl ?_
    refine lj 135 R58_20_N rfl rfl rfl (opv_move rfl rfl h0) ?_
    refine lc 136 R58_20_N rfl rfl rfl (opc_of rfl rfl is72 (ma_cons rfl rfl)) H (fun _ _ h => ⟨rfl, h⟩) fun r60 aw61 H => ?_
    refine aops_nil ?_
    refine ago_inBlock ?_
    exact ago_nilR (r := ()) (ares_0 rfl ) rfl H
  replace H := cnd_f H hb59
  refine ago_seqE (rfl : C58_41 = .seq C58_42 C58_43) ?_
  refine ago_regE (rfl : C58_42 = .region 21 R58_21 false) (l := [0, 1]) rfl ?_
  refine lj 138 R58_21_N rfl rfl rfl (opv_eqI rfl rfl rfl h42 rfl) ?_
  refine lj 137 R58_21_N rfl rfl rfl (opv_assign rfl rfl rfl) ?_
  refine aops_nil ?_
  refine ago_condE  (rfl : C58_43 = .cond (.tmp 137) C58_44 C58_49) rfl rfl (fun hb62 => ?_) (fun hb62 => ?_)
  · replace H := cnd_t H hb62
    refine ago_seqE (rfl : C58_44 = .seq C58_45 C58_46) ?_
    refine ago_regE (rfl : C58_45 = .region 22 R58_22 false) (l := [0, 1, 2]) rfl ?_
    refine lj 139 R58_22_N rfl rfl rfl (opv_move rfl rfl h0) ?_
    refine lc 140 R58_22_N rfl rfl rfl (opc_of rfl rfl is37 (ma_cons rfl rfl)) H (fun _ _ h => ⟨rfl, h⟩) fun r63 aw64 H => ?_
    refine lj 4 R58_22_N rfl rfl rfl (opv_assign rfl rfl rfl) ?_
    refine aops_nil ?_
    refine ago_seqE (rfl : C58_46 = .seq C58_47 C58_48) ?_
    obtain ⟨hp65, H⟩ := H
    obtain ⟨b67, i68, p66, hp69, hv70, H⟩ := H
    obtain ⟨b71, i72, x74, hp73, hg75, H⟩ := H
    obtain ⟨hp76, H⟩ := H
    obtain ⟨b78, i79, p77, hp80, hv81, H⟩ := H
    obtain ⟨b82, i83, x85, hp84, hg86, H⟩ := H
    obtain ⟨v87, hq88, H⟩ := H
    refine ago_drawH (p := [0, 1, 2, 3, 4, 5, 6, 7, 8, 9, 10, 11]) (tl := [(12, [0, 1, 2, 3, 4, 5, 6, 7, 8, 9, 10], []), (13, [0], [14, 15]), (16, [], [])]) (hv := [(0, m_0), (1, m_0), (2, m_0), (3, p66), (4, x74), (5, f_2), (6, f_2), (7, p77), (8, Value.int .i64 x85), (9, Value.int .i64 (IntKind.i64.wrap (x85 - 1))), (10, v87), (11, Value.int .u64 r63)]) (rfl : C58_47 = .region 23 R58_23 true) mixed R58_23_N R58_23_O rfl (pv_cons rfl (pv_cons rfl (pv_cons rfl (pv_cons rfl (pv_cons rfl (pv_cons rfl (pv_cons rfl (pv_cons rfl (pv_cons rfl (pv_cons rfl (pv_cons rfl (pv_cons rfl (pv_nil _)))))))))))))
      (fc 141 m_0 (hd_v rfl fun ρ hρ => ⟨rfl, opv_move rfl rfl ((hρ 0 (lmem rfl)).trans h0)⟩) rfl rfl
      (fc 142 m_0 (hd_v rfl fun ρ hρ => ⟨rfl, opv_move rfl rfl ((hρ 0 (lmem rfl)).trans h0)⟩) rfl rfl
      (fc 143 m_0 (hd_v rfl fun ρ hρ => ⟨rfl, ov_nck rfl rfl ((hρ 142 (lmem rfl)).trans rfl) hp65⟩) rfl rfl
      (fc 144 p66 (hd_v rfl fun ρ hρ => ⟨rfl, ov_fldA rfl rfl underlying77 rfl sz62 (by decide) ((hρ 143 (lmem rfl)).trans rfl) hp69 rfl hv70⟩) rfl rfl
      (fc 145 x74 (hd_v rfl fun ρ hρ => ⟨rfl, ov_ldV rfl underlying62 rfl rfl ((hρ 144 (lmem rfl)).trans rfl) hp73 hg75⟩) rfl rfl
      (fc 146 f_2 (hd_v rfl fun ρ hρ => ⟨rfl, opv_move rfl rfl ((hρ 2 (lmem rfl)).trans h2)⟩) rfl rfl
      (fc 147 f_2 (hd_v rfl fun ρ hρ => ⟨rfl, ov_nck rfl rfl ((hρ 146 (lmem rfl)).trans rfl) hp76⟩) rfl rfl
      (fc 148 p77 (hd_v rfl fun ρ hρ => ⟨rfl, ov_fldA rfl rfl underlying85 rfl sz3 (by decide) ((hρ 147 (lmem rfl)).trans rfl) hp80 rfl hv81⟩) rfl rfl
      (fc 149 (.int .i64 x85) (hd_v rfl fun ρ hρ => ⟨rfl, ov_ldI rfl underlying3 rfl ((hρ 148 (lmem rfl)).trans rfl) hp84 hg86⟩) rfl rfl
      (fc 150 (.int .i64 (IntKind.i64.wrap (x85 - 1))) (hd_v rfl fun ρ hρ => ⟨rfl, opv_sub rfl rfl rfl ((hρ 149 (lmem rfl)).trans rfl) rfl⟩) rfl rfl
      (fc 151 v87 (hd_v rfl fun ρ hρ => ⟨rfl, ov_cutV rfl rfl underlying62 sz26 ((hρ 145 (lmem rfl)).trans rfl) (bndN _ _ _) (bndS ((hρ 150 (lmem rfl)).trans rfl)) hq88⟩) rfl rfl
      (fc 152 (.int .u64 r63) (hd_v rfl fun ρ hρ => ⟨rfl, opv_move rfl rfl ((hρ 4 (lmem rfl)).trans rfl)⟩) rfl rfl
      ffn)))))))))))) ?_
    obtain ⟨p89, aw90, hp91, ha92, H⟩ := H
    refine lt_val (dt := some 153) (v := p89) rfl rfl (fun ρ hρ => ⟨rfl, ov_bsA (r := [.int .u64 r63]) (vs := [.int .u64 r63]) rfl rfl underlying62 sz26 z26 rfl rfl rfl rfl rfl (mp_cons ((hρ 152 (lmem rfl)).trans rfl) rfl) (.one rfl .nil) hp91 ha92⟩) ?_
    obtain ⟨hg75, H⟩ := H
    replace hg75 := hg75 _ _ hp73
    obtain ⟨hg86, H⟩ := H
    replace hg86 := hg86 _ _ hp84
    obtain ⟨hq88, H⟩ := H
    refine lt_next (l := [0, 1, 2, 3, 4, 5, 6, 7, 8, 9, 10]) (hv := []) rfl rfl (pv_nil _)
      (fc 141 m_0 (hd_v rfl fun ρ hρ => ⟨rfl, opv_move rfl rfl ((hρ 0 (lmem rfl)).trans h0)⟩) rfl rfl
      (fc 142 m_0 (hd_v rfl fun ρ hρ => ⟨rfl, opv_move rfl rfl ((hρ 0 (lmem rfl)).trans h0)⟩) rfl rfl
      (fc 143 m_0 (hd_v rfl fun ρ hρ => ⟨rfl, ov_nck rfl rfl ((hρ 142 (lmem rfl)).trans rfl) hp65⟩) rfl rfl
      (fc 144 p66 (hd_v rfl fun ρ hρ => ⟨rfl, ov_fldA rfl rfl underlying77 rfl sz62 (by decide) ((hρ 143 (lmem rfl)).trans rfl) hp69 rfl hv70⟩) rfl rfl
      (fc 145 x74 (hd_v rfl fun ρ hρ => ⟨rfl, ov_ldV rfl underlying62 rfl rfl ((hρ 144 (lmem rfl)).trans rfl) hp73 hg75⟩) rfl rfl
      (fc 146 f_2 (hd_v rfl fun ρ hρ => ⟨rfl, opv_move rfl rfl ((hρ 2 (lmem rfl)).trans h2)⟩) rfl rfl
      (fc 147 f_2 (hd_v rfl fun ρ hρ => ⟨rfl, ov_nck rfl rfl ((hρ 146 (lmem rfl)).trans rfl) hp76⟩) rfl rfl
      (fc 148 p77 (hd_v rfl fun ρ hρ => ⟨rfl, ov_fldA rfl rfl underlying85 rfl sz3 (by decide) ((hρ 147 (lmem rfl)).trans rfl) hp80 rfl hv81⟩) rfl rfl
      (fc 149 (.int .i64 x85) (hd_v rfl fun ρ hρ => ⟨rfl, ov_ldI rfl underlying3 rfl ((hρ 148 (lmem rfl)).trans rfl) hp84 hg86⟩) rfl rfl
      (fc 150 (.int .i64 (IntKind.i64.wrap (x85 - 1))) (hd_v rfl fun ρ hρ => ⟨rfl, opv_sub rfl rfl rfl ((hρ 149 (lmem rfl)).trans rfl) rfl⟩) rfl rfl
      (fc 151 v87 (hd_v rfl fun ρ hρ => ⟨rfl, ov_cutV rfl rfl underlying62 sz26 ((hρ 145 (lmem rfl)).trans rfl) (bndN _ _ _) (bndS ((hρ 150 (lmem rfl)).trans rfl)) hq88⟩) rfl rfl
      ffn))))))))))) ?_
    obtain ⟨v93, aw94, hq95, H⟩ := H
    refine lt_val (dt := some 154) (v := v93) rfl rfl (fun ρ hρ => ⟨rfl, ov_app rfl rfl rfl rfl underlying62 sz26 by26 underlying62 rfl z26 rfl (by decide) (by decide) ((hρ 151 (lmem rfl)).trans rfl) ((hρ 153 (lmem rfl)).trans rfl) hq95⟩) ?_
    obtain ⟨hp96, H⟩ := H
    obtain ⟨b98, i99, p97, hp100, hv101, H⟩ := H
    refine lt_next (l := [0, 14, 15]) (hv := [(14, m_0), (15, p97)]) rfl rfl (pv_cons rfl (pv_cons rfl (pv_nil _)))
      (fc 141 m_0 (hd_v rfl fun ρ hρ => ⟨rfl, opv_move rfl rfl ((hρ 0 (lmem rfl)).trans h0)⟩) rfl rfl
      (fc 155 m_0 (hd_v rfl fun ρ hρ => ⟨rfl, ov_nck rfl rfl ((hρ 141 (lmem rfl)).trans rfl) hp96⟩) rfl rfl
      (fc 156 p97 (hd_v rfl fun ρ hρ => ⟨rfl, ov_fldA rfl rfl underlying77 rfl sz62 (by decide) ((hρ 155 (lmem rfl)).trans rfl) hp100 rfl hv101⟩) rfl rfl
      ffn))) ?_
    obtain ⟨b103, i104, aw102, hp105, hw106, ho107, ha108, H⟩ := H
    refine lt_val (dt := none) (v := undef) rfl rfl (fun ρ hρ => ⟨rfl, ov_st rfl rfl rfl ((hρ 156 (lmem rfl)).trans rfl) ((hρ 154 (lmem rfl)).trans rfl) (cells_all ho107) sz62 hp105 hw106 ho107 ha108⟩) ?_
    refine lt_next (l := []) (hv := []) rfl rfl (pv_nil _)
      ffn ?_
    refine lt_end ?_
    refine ago_cut (fun ρ => ρ 0 = m_0 ∧ True) ⟨h0, trivial⟩ (fun ρ ⟨h0, _⟩ => ?_)
    obtain ⟨hp109, H⟩ := H
    obtain ⟨b111, i112, p110, hp113, hv114, H⟩ := H
    obtain ⟨b115, i116, x118, hp117, hg119, H⟩ := H
    obtain ⟨hp120, H⟩ := H
    obtain ⟨b122, i123, p121, hp124, hv125, H⟩ := H
    obtain ⟨b126, i127, x129, hp128, hg130, H⟩ := H
    obtain ⟨q132, l133, c134, n131, hv135, hn136, H⟩ := H
    obtain ⟨v137, hq138, H⟩ := H
    obtain ⟨hp139, H⟩ := H
    obtain ⟨b141, i142, p140, hp143, hv144, H⟩ := H
    refine ago_drawH (p := [0, 1, 2, 3, 4, 5, 6, 7, 8, 9, 10, 11, 12, 13]) (tl := [(14, [], [])]) (hv := [(0, m_0), (1, m_0), (2, m_0), (3, p110), (4, x118), (5, m_0), (6, m_0), (7, p121), (8, x129), (9, Value.int .i64 n131), (10, Value.int .i64 (IntKind.i64.wrap (n131 - 1))), (11, v137), (12, m_0), (13, p140)]) (rfl : C58_48 = .region 24 R58_24 true) mixed R58_24_N R58_24_O rfl (pv_cons rfl (pv_cons rfl (pv_cons rfl (pv_cons rfl (pv_cons rfl (pv_cons rfl (pv_cons rfl (pv_cons rfl (pv_cons rfl (pv_cons rfl (pv_cons rfl (pv_cons rfl (pv_cons rfl (pv_cons rfl (pv_nil _)))))))))))))))
      (fc 157 m_0 (hd_v rfl fun ρ hρ => ⟨rfl, opv_move rfl rfl ((hρ 0 (lmem rfl)).trans h0)⟩) rfl rfl
      (fc 158 m_0 (hd_v rfl fun ρ hρ => ⟨rfl, opv_move rfl rfl ((hρ 0 (lmem rfl)).trans h0)⟩) rfl rfl
      (fc 159 m_0 (hd_v rfl fun ρ hρ => ⟨rfl, ov_nck rfl rfl ((hρ 158 (lmem rfl)).trans rfl) hp109⟩) rfl rfl
      (fc 160 p110 (hd_v rfl fun ρ hρ => ⟨rfl, ov_fldA rfl rfl underlying77 rfl sz70 (by decide) ((hρ 159 (lmem rfl)).trans rfl) hp113 rfl hv114⟩) rfl rfl
      (fc 161 x118 (hd_v rfl fun ρ hρ => ⟨rfl, ov_ldV rfl underlying70 rfl rfl ((hρ 160 (lmem rfl)).trans rfl) hp117 hg119⟩) rfl rfl
      (fc 162 m_0 (hd_v rfl fun ρ hρ => ⟨rfl, opv_move rfl rfl ((hρ 0 (lmem rfl)).trans h0)⟩) rfl rfl
      (fc 163 m_0 (hd_v rfl fun ρ hρ => ⟨rfl, ov_nck rfl rfl ((hρ 162 (lmem rfl)).trans rfl) hp120⟩) rfl rfl
      (fc 164 p121 (hd_v rfl fun ρ hρ => ⟨rfl, ov_fldA rfl rfl underlying77 rfl sz70 (by decide) ((hρ 163 (lmem rfl)).trans rfl) hp124 rfl hv125⟩) rfl rfl
      (fc 165 x129 (hd_v rfl fun ρ hρ => ⟨rfl, ov_ldV rfl underlying70 rfl rfl ((hρ 164 (lmem rfl)).trans rfl) hp128 hg130⟩) rfl rfl
      (fc 166 (.int .i64 n131) (hd_v rfl fun ρ hρ => ⟨rfl, ov_len rfl rfl rfl underlying70 ((hρ 165 (lmem rfl)).trans rfl) hv135 hn136⟩) rfl rfl
      (fc 167 (.int .i64 (IntKind.i64.wrap (n131 - 1))) (hd_v rfl fun ρ hρ => ⟨rfl, opv_sub rfl rfl rfl ((hρ 166 (lmem rfl)).trans rfl) rfl⟩) rfl rfl
      (fc 168 v137 (hd_v rfl fun ρ hρ => ⟨rfl, ov_cutV rfl rfl underlying70 sz85 ((hρ 161 (lmem rfl)).trans rfl) (bndN _ _ _) (bndS ((hρ 167 (lmem rfl)).trans rfl)) hq138⟩) rfl rfl
      (fc 169 m_0 (hd_v rfl fun ρ hρ => ⟨rfl, ov_nck rfl rfl ((hρ 157 (lmem rfl)).trans rfl) hp139⟩) rfl rfl
      (fc 170 p140 (hd_v rfl fun ρ hρ => ⟨rfl, ov_fldA rfl rfl underlying77 rfl sz70 (by decide) ((hρ 169 (lmem rfl)).trans rfl) hp143 rfl hv144⟩) rfl rfl
      ffn)))))))))))))) ?_
    obtain ⟨b146, i147, aw145, hp148, hw149, ho150, ha151, H⟩ := H
    refine lt_val (dt := none) (v := undef) rfl rfl (fun ρ hρ => ⟨rfl, ov_st rfl rfl rfl ((hρ 170 (lmem rfl)).trans rfl) ((hρ 168 (lmem rfl)).trans rfl) (cells_all ho150) sz70 hp148 hw149 ho150 ha151⟩) ?_
    refine lt_next (l := []) (hv := []) rfl rfl (pv_nil _)
      ffn ?_
    refine lt_end ?_
    refine ago_inBlock ?_
    exact ago_nilR (r := ()) (ares_0 rfl ) rfl H
  replace H := cnd_f H hb62
  refine ago_seqE (rfl : C58_49 = .seq C58_50 C58_51) ?_
  refine ago_regE (rfl : C58_50 = .region 25 R58_25 false) (l := [0, 1]) rfl ?_
  refine lj 172 R58_25_N rfl rfl rfl (opv_eqI rfl rfl rfl h42 rfl) ?_
  refine lj 171 R58_25_N rfl rfl rfl (opv_assign rfl rfl rfl) ?_
  refine aops_nil ?_
  refine ago_condE  (rfl : C58_51 = .cond (.tmp 171) C58_52 C58_53) rfl rfl (fun hb152 => ?_) (fun hb152 => ?_)
  · exact (cnd_t H hb152).elim
  replace H := cnd_f H hb152
  refine ago_seqE (rfl : C58_53 = .seq C58_54 C58_55) ?_
  refine ago_regE (rfl : C58_54 = .region 27 R58_27 false) (l := [0, 1]) rfl ?_
  refine lj 178 R58_27_N rfl rfl rfl (opv_eqI rfl rfl rfl h42 rfl) ?_
  refine lj 177 R58_27_N rfl rfl rfl (opv_assign rfl rfl rfl) ?_
  refine aops_nil ?_
  refine ago_condE  (rfl : C58_55 = .cond (.tmp 177) C58_56 C58_57) rfl rfl (fun hb153 => ?_) (fun hb153 => ?_)
  · exact (cnd_t H hb153).elim
  replace H := cnd_f H hb153
  refine ago_seqE (rfl : C58_57 = .seq C58_58 C58_59) ?_
  refine ago_regE (rfl : C58_58 = .region 29 R58_29 false) (l := [0, 1]) rfl ?_
  refine lj 186 R58_29_N rfl rfl rfl (opv_eqI rfl rfl rfl h42 rfl) ?_
  refine lj 185 R58_29_N rfl rfl rfl (opv_assign rfl rfl rfl) ?_
  refine aops_nil ?_
  refine ago_condE  (rfl : C58_59 = .cond (.tmp 185) C58_60 C58_61) rfl rfl (fun hb154 => ?_) (fun hb154 => ?_)
  · exact (cnd_t H hb154).elim
  replace H := cnd_f H hb154
  refine ago_seqE (rfl : C58_61 = .seq C58_62 C58_63) ?_
  refine ago_cut (fun ρ => ρ 0 = m_0 ∧ ρ 2 = f_2 ∧ ρ 3 = i_3 ∧ ρ 42 = .int .u8 t_42 ∧ True) ⟨h0, h2, h3, h42, trivial⟩ (fun ρ ⟨h0, h2, h3, h42, _⟩ => ?_)
  refine ago_regE (rfl : C58_62 = .region 31 R58_31 false) (l := [0, 1]) rfl ?_
  refine lj 193 R58_31_N rfl rfl rfl (opv_eqI rfl rfl rfl h42 rfl) ?_
  refine lj 192 R58_31_N rfl rfl rfl (opv_assign rfl rfl rfl) ?_
  refine aops_nil ?_
  refine ago_condE  (rfl : C58_63 = .cond (.tmp 192) C58_64 C58_69) rfl rfl (fun hb155 => ?_) (fun hb155 => ?_)
  · exact (cnd_t H hb155).elim
  replace H := cnd_f H hb155
  refine ago_seqE (rfl : C58_69 = .seq C58_70 C58_71) ?_
  refine ago_regE (rfl : C58_70 = .region 34 R58_34 false) (l := [0, 1]) rfl ?_
  refine lj 204 R58_34_N rfl rfl rfl (opv_eqI rfl rfl rfl h42 rfl) ?_
  refine lj 203 R58_34_N rfl rfl rfl (opv_assign rfl rfl rfl) ?_
  refine aops_nil ?_
  refine ago_condE  (rfl : C58_71 = .cond (.tmp 203) C58_72 C58_75) rfl rfl (fun hb156 => ?_) (fun hb156 => ?_)
  · exact (cnd_t H hb156).elim
  replace H := cnd_f H hb156
  refine ago_seqE (rfl : C58_75 = .seq C58_76 C58_77) ?_
  refine ago_regE (rfl : C58_76 = .region 37 R58_37 false) (l := [0, 1]) rfl ?_
  refine lj 227 R58_37_N rfl rfl rfl (opv_eqI rfl rfl rfl h42 rfl) ?_
  refine lj 226 R58_37_N rfl rfl rfl (opv_assign rfl rfl rfl) ?_
  refine aops_nil ?_
  refine ago_condE  (rfl : C58_77 = .cond (.tmp 226) C58_78 C58_79) rfl rfl (fun hb157 => ?_) (fun hb157 => ?_)
  · exact (cnd_t H hb157).elim
  replace H := cnd_f H hb157
  refine ago_seqE (rfl : C58_79 = .seq C58_80 C58_81) ?_
  refine ago_regE (rfl : C58_80 = .region 39 R58_39 false) (l := [0, 1]) rfl ?_
  refine lj 231 R58_39_N rfl rfl rfl (opv_eqI rfl rfl rfl h42 rfl) ?_
  refine lj 230 R58_39_N rfl rfl rfl (opv_assign rfl rfl rfl) ?_
  refine aops_nil ?_
  refine ago_condE  (rfl : C58_81 = .cond (.tmp 230) C58_82 C58_83) rfl rfl (fun hb158 => ?_) (fun hb158 => ?_)
  · exact (cnd_t H hb158).elim
  replace H := cnd_f H hb158
  refine ago_seqE (rfl : C58_83 = .seq C58_84 C58_85) ?_
  refine ago_regE (rfl : C58_84 = .region 41 R58_41 false) (l := [0, 1]) rfl ?_
  refine lj 237 R58_41_N rfl rfl rfl (opv_eqI rfl rfl rfl h42 rfl) ?_
  refine lj 236 R58_41_N rfl rfl rfl (opv_assign rfl rfl rfl) ?_
  refine aops_nil ?_
  refine ago_condE  (rfl : C58_85 = .cond (.tmp 236) C58_86 C58_87) rfl rfl (fun hb159 => ?_) (fun hb159 => ?_)
  · exact (cnd_t H hb159).elim
  replace H := cnd_f H hb159
  refine ago_seqE (rfl : C58_87 = .seq C58_88 C58_89) ?_
  refine ago_regE (rfl : C58_88 = .region 43 R58_43 false) (l := [0, 1]) rfl ?_
  refine lj 246 R58_43_N rfl rfl rfl (opv_eqI rfl rfl rfl h42 rfl) ?_
  refine lj 245 R58_43_N rfl rfl rfl (opv_assign rfl rfl rfl) ?_
  refine aops_nil ?_
  refine ago_condE  (rfl : C58_89 = .cond (.tmp 245) C58_90 C58_91) rfl rfl (fun hb160 => ?_) (fun hb160 => ?_)
  · exact (cnd_t H hb160).elim
  replace H := cnd_f H hb160
  refine ago_seqE (rfl : C58_91 = .seq C58_92 C58_93) ?_
  refine ago_cut (fun ρ => ρ 0 = m_0 ∧ ρ 3 = i_3 ∧ ρ 42 = .int .u8 t_42 ∧ True) ⟨h0, h3, h42, trivial⟩ (fun ρ ⟨h0, h3, h42, _⟩ => ?_)
  refine ago_regE (rfl : C58_92 = .region 45 R58_45 false) (l := [0, 1]) rfl ?_
  refine lj 250 R58_45_N rfl rfl rfl (opv_eqI rfl rfl rfl h42 rfl) ?_
  refine lj 249 R58_45_N rfl rfl rfl (opv_assign rfl rfl rfl) ?_
  refine aops_nil ?_
  refine ago_condE  (rfl : C58_93 = .cond (.tmp 249) C58_94 C58_95) rfl rfl (fun hb161 => ?_) (fun hb161 => ?_)
  · exact (cnd_t H hb161).elim
  replace H := cnd_f H hb161
  refine ago_seqE (rfl : C58_95 = .seq C58_96 C58_97) ?_
  refine ago_regE (rfl : C58_96 = .region 47 R58_47 false) (l := [0, 1]) rfl ?_
  refine lj 258 R58_47_N rfl rfl rfl (opv_eqI rfl rfl rfl h42 rfl) ?_
  refine lj 257 R58_47_N rfl rfl rfl (opv_assign rfl rfl rfl) ?_
  refine aops_nil ?_
  refine ago_condE  (rfl : C58_97 = .cond (.tmp 257) C58_98 C58_99) rfl rfl (fun hb162 => ?_) (fun hb162 => ?_)
  · exact (cnd_t H hb162).elim
  replace H := cnd_f H hb162
  refine ago_seqE (rfl : C58_99 = .seq C58_100 C58_101) ?_
  refine ago_regE (rfl : C58_100 = .region 49 R58_49 false) (l := [0, 1]) rfl ?_
  refine lj 282 R58_49_N rfl rfl rfl (opv_eqI rfl rfl rfl h42 rfl) ?_
  refine lj 281 R58_49_N rfl rfl rfl (opv_assign rfl rfl rfl) ?_
  refine aops_nil ?_
  refine ago_condE  (rfl : C58_101 = .cond (.tmp 281) C58_102 C58_103) rfl rfl (fun hb163 => ?_) (fun hb163 => ?_)
  · exact (cnd_t H hb163).elim
  replace H := cnd_f H hb163
  refine ago_seqE (rfl : C58_103 = .seq C58_104 C58_105) ?_
  refine ago_regE (rfl : C58_104 = .region 51 R58_51 false) (l := [0, 1]) rfl ?_
  refine lj 298 R58_51_N rfl rfl rfl (opv_eqI rfl rfl rfl h42 rfl) ?_
  refine lj 297 R58_51_N rfl rfl rfl (opv_assign rfl rfl rfl) ?_
  refine aops_nil ?_
  refine ago_condE  (rfl : C58_105 = .cond (.tmp 297) C58_106 C58_107) rfl rfl (fun hb164 => ?_) (fun hb164 => ?_)
  · exact (cnd_t H hb164).elim
  replace H := cnd_f H hb164
  refine ago_regE (rfl : C58_107 = .region 4 R58_4 false) (l := [0, 1, 2]) rfl ?_
  refine lj 43 R58_4_N rfl rfl rfl (opv_move rfl rfl h0) ?_
  obtain ⟨b165, i166, hp167, c168, hg172, c169, hg173, c170, hg174, c171, hg175, H⟩ := H
  refine lj 44 R58_4_N rfl rfl rfl (ov_ldN rfl underlying34 rfl sz34 rfl h3 hp167 (getN_cons hg172 (getN_cons hg173 (getN_cons hg174 (getN_cons hg175 getN_nil))))) ?_
  refine lc 45 R58_4_N rfl rfl rfl (opc_of rfl rfl is75 (ma_cons rfl (ma_cons rfl rfl))) H (fun _ _ h => ⟨rfl, h⟩) fun r176 aw177 H => ?_
  refine aops_nil ?_
  refine ago_inBlock ?_
  exact ago_nilR (r := ()) (ares_0 rfl ) rfl H
theorem S58_0_ok (Q : Unit → AW → Prop) (E : List PanicEntry → AW → Prop)  (ρ : Env) (m_0 : Value) (aw : AW) (h0 : ρ 0 = m_0) (H : S58_0 Q E  m_0 aw) :
    AGo prog 303 [.code C58_0] ρ [] aw (RR prog f58 303 sh58 Q E) := by
  unfold S58_0 at H
  refine ago_seqE (rfl : C58_0 = .seq C58_1 C58_2) ?_
  obtain ⟨hp178, H⟩ := H
  obtain ⟨b180, i181, p179, hp182, hv183, H⟩ := H
  obtain ⟨b184, i185, x187, hp186, hg188, H⟩ := H
  obtain ⟨hp189, H⟩ := H
  obtain ⟨b191, i192, p190, hp193, hv194, H⟩ := H
  obtain ⟨b195, i196, x198, hp197, hg199, H⟩ := H
  obtain ⟨q201, l202, c203, n200, hv204, hn205, H⟩ := H
  obtain ⟨b207, i208, l209, c210, p206, hp211, h0212, hj213, hv214, H⟩ := H
  refine ago_drawH (p := [0, 1, 2, 3, 4, 5, 6, 7, 8, 9, 10, 11]) (tl := []) (hv := [(0, m_0), (1, m_0), (2, p179), (3, x187), (4, m_0), (5, m_0), (6, p190), (7, x198), (8, Value.int .i64 n200), (9, Value.int .i64 (IntKind.i64.wrap (n200 - 1))), (10, p206), (11, p206)]) (rfl : C58_1 = .region 0 R58_0 true) mixed R58_0_N R58_0_O rfl (pv_cons rfl (pv_cons rfl (pv_cons rfl (pv_cons rfl (pv_cons rfl (pv_cons rfl (pv_cons rfl (pv_cons rfl (pv_cons rfl (pv_cons rfl (pv_cons rfl (pv_cons rfl (pv_nil _)))))))))))))
    (fc 6 m_0 (hd_v rfl fun ρ hρ => ⟨rfl, opv_move rfl rfl ((hρ 0 (lmem rfl)).trans h0)⟩) rfl rfl
    (fc 7 m_0 (hd_v rfl fun ρ hρ => ⟨rfl, ov_nck rfl rfl ((hρ 6 (lmem rfl)).trans rfl) hp178⟩) rfl rfl
    (fc 8 p179 (hd_v rfl fun ρ hρ => ⟨rfl, ov_fldA rfl rfl underlying77 rfl sz70 (by decide) ((hρ 7 (lmem rfl)).trans rfl) hp182 rfl hv183⟩) rfl rfl
    (fc 9 x187 (hd_v rfl fun ρ hρ => ⟨rfl, ov_ldV rfl underlying70 rfl rfl ((hρ 8 (lmem rfl)).trans rfl) hp186 hg188⟩) rfl rfl
    (fc 10 m_0 (hd_v rfl fun ρ hρ => ⟨rfl, opv_move rfl rfl ((hρ 0 (lmem rfl)).trans h0)⟩) rfl rfl
    (fc 11 m_0 (hd_v rfl fun ρ hρ => ⟨rfl, ov_nck rfl rfl ((hρ 10 (lmem rfl)).trans rfl) hp189⟩) rfl rfl
    (fc 12 p190 (hd_v rfl fun ρ hρ => ⟨rfl, ov_fldA rfl rfl underlying77 rfl sz70 (by decide) ((hρ 11 (lmem rfl)).trans rfl) hp193 rfl hv194⟩) rfl rfl
    (fc 13 x198 (hd_v rfl fun ρ hρ => ⟨rfl, ov_ldV rfl underlying70 rfl rfl ((hρ 12 (lmem rfl)).trans rfl) hp197 hg199⟩) rfl rfl
    (fc 14 (.int .i64 n200) (hd_v rfl fun ρ hρ => ⟨rfl, ov_len rfl rfl rfl underlying70 ((hρ 13 (lmem rfl)).trans rfl) hv204 hn205⟩) rfl rfl
    (fc 15 (.int .i64 (IntKind.i64.wrap (n200 - 1))) (hd_v rfl fun ρ hρ => ⟨rfl, opv_sub rfl rfl rfl ((hρ 14 (lmem rfl)).trans rfl) rfl⟩) rfl rfl
    (fc 16 p206 (hd_v rfl fun ρ hρ => ⟨rfl, ov_ixS rfl rfl rfl underlying70 sz85 ((hρ 9 (lmem rfl)).trans rfl) ((hρ 15 (lmem rfl)).trans rfl) hp211 h0212 hj213 hv214⟩) rfl rfl
    (fc 2 p206 (hd_v rfl fun ρ hρ => ⟨rfl, opv_assign rfl rfl ((hρ 16 (lmem rfl)).trans rfl)⟩) rfl rfl
    ffn)))))))))))) ?_
  refine lt_end ?_
  refine ago_seqE (rfl : C58_2 = .seq C58_3 C58_4) ?_
  refine ago_cut (fun ρ => ρ 0 = m_0 ∧ ρ 2 = p206 ∧ True) ⟨h0, rfl, trivial⟩ (fun ρ ⟨h0, h2, _⟩ => ?_)
  obtain ⟨hp215, H⟩ := H
  obtain ⟨b217, i218, p216, hp219, hv220, H⟩ := H
  obtain ⟨b221, i222, x224, hp223, hg225, H⟩ := H
  obtain ⟨hp226, H⟩ := H
  obtain ⟨b228, i229, p227, hp230, hv231, H⟩ := H
  obtain ⟨b232, i233, x235, hp234, hg236, H⟩ := H
  obtain ⟨b238, i239, l240, c241, p237, hp242, h0243, hj244, hv245, H⟩ := H
  obtain ⟨b247, i248, p246, hp249, hv250, H⟩ := H
  obtain ⟨b251, i252, x254, hp253, hg255, H⟩ := H
  obtain ⟨hp256, H⟩ := H
  obtain ⟨b258, i259, p257, hp260, hv261, H⟩ := H
  obtain ⟨b262, i263, x265, hp264, hg266, H⟩ := H
  obtain ⟨b268, i269, l270, c271, p267, hp272, h0273, hj274, hv275, H⟩ := H
  obtain ⟨b276, i277, hp278, c279, hg283, c280, hg284, c281, hg285, c282, hg286, H⟩ := H
  refine ago_drawH (p := [0, 1, 2, 3, 4, 5, 6, 7, 8, 9, 10, 11, 12, 13, 14, 15, 16]) (tl := [(17, [0, 1, 2, 3, 4, 5, 6, 7, 8, 9, 10, 11, 12, 13, 14, 15, 16], []), (18, [], [])]) (hv := [(0, m_0), (1, m_0), (2, p216), (3, x224), (4, p206), (5, p206), (6, p227), (7, Value.int .i64 x235), (8, p237), (9, p246), (10, x254), (11, p206), (12, p206), (13, p257), (14, Value.int .i64 x265), (15, p267), (16, Value.agg #[.int .u8 c279, .int .i64 c280, .int .i64 c281, .string c282])]) (rfl : C58_3 = .region 1 R58_1 true) mixed R58_1_N R58_1_O rfl (pv_cons rfl (pv_cons rfl (pv_cons rfl (pv_cons rfl (pv_cons rfl (pv_cons rfl (pv_cons rfl (pv_cons rfl (pv_cons rfl (pv_cons rfl (pv_cons rfl (pv_cons rfl (pv_cons rfl (pv_cons rfl (pv_cons rfl (pv_cons rfl (pv_cons rfl (pv_nil _))))))))))))))))))
    (fc 17 m_0 (hd_v rfl fun ρ hρ => ⟨rfl, opv_move rfl rfl ((hρ 0 (lmem rfl)).trans h0)⟩) rfl rfl
    (fc 18 m_0 (hd_v rfl fun ρ hρ => ⟨rfl, ov_nck rfl rfl ((hρ 17 (lmem rfl)).trans rfl) hp215⟩) rfl rfl
    (fc 19 p216 (hd_v rfl fun ρ hρ => ⟨rfl, ov_fldA rfl rfl underlying77 rfl sz44 (by decide) ((hρ 18 (lmem rfl)).trans rfl) hp219 rfl hv220⟩) rfl rfl
    (fc 20 x224 (hd_v rfl fun ρ hρ => ⟨rfl, ov_ldV rfl underlying44 rfl rfl ((hρ 19 (lmem rfl)).trans rfl) hp223 hg225⟩) rfl rfl
    (fc 21 p206 (hd_v rfl fun ρ hρ => ⟨rfl, opv_move rfl rfl ((hρ 2 (lmem rfl)).trans h2)⟩) rfl rfl
    (fc 22 p206 (hd_v rfl fun ρ hρ => ⟨rfl, ov_nck rfl rfl ((hρ 21 (lmem rfl)).trans rfl) hp226⟩) rfl rfl
    (fc 23 p227 (hd_v rfl fun ρ hρ => ⟨rfl, ov_fldA rfl rfl underlying85 rfl sz3 (by decide) ((hρ 22 (lmem rfl)).trans rfl) hp230 rfl hv231⟩) rfl rfl
    (fc 24 (.int .i64 x235) (hd_v rfl fun ρ hρ => ⟨rfl, ov_ldI rfl underlying3 rfl ((hρ 23 (lmem rfl)).trans rfl) hp234 hg236⟩) rfl rfl
    (fc 25 p237 (hd_v rfl fun ρ hρ => ⟨rfl, ov_ixS rfl rfl rfl underlying44 sz43 ((hρ 20 (lmem rfl)).trans rfl) ((hρ 24 (lmem rfl)).trans rfl) hp242 h0243 hj244 hv245⟩) rfl rfl
    (fc 26 p246 (hd_v rfl fun ρ hρ => ⟨rfl, ov_fldA rfl rfl underlying43 rfl sz35 (by decide) ((hρ 25 (lmem rfl)).trans rfl) hp249 rfl hv250⟩) rfl rfl
    (fc 27 x254 (hd_v rfl fun ρ hρ => ⟨rfl, ov_ldV rfl underlying35 rfl rfl ((hρ 26 (lmem rfl)).trans rfl) hp253 hg255⟩) rfl rfl
    (fc 28 p206 (hd_v rfl fun ρ hρ => ⟨rfl, opv_move rfl rfl ((hρ 2 (lmem rfl)).trans h2)⟩) rfl rfl
    (fc 29 p206 (hd_v rfl fun ρ hρ => ⟨rfl, ov_nck rfl rfl ((hρ 28 (lmem rfl)).trans rfl) hp256⟩) rfl rfl
    (fc 30 p257 (hd_v rfl fun ρ hρ => ⟨rfl, ov_fldA rfl rfl underlying85 rfl sz3 (by decide) ((hρ 29 (lmem rfl)).trans rfl) hp260 rfl hv261⟩) rfl rfl
    (fc 31 (.int .i64 x265) (hd_v rfl fun ρ hρ => ⟨rfl, ov_ldI rfl underlying3 rfl ((hρ 30 (lmem rfl)).trans rfl) hp264 hg266⟩) rfl rfl
    (fc 32 p267 (hd_v rfl fun ρ hρ => ⟨rfl, ov_ixS rfl rfl rfl underlying35 sz34 ((hρ 27 (lmem rfl)).trans rfl) ((hρ 31 (lmem rfl)).trans rfl) hp272 h0273 hj274 hv275⟩) rfl rfl
    (fc 33 (.agg #[.int .u8 c279, .int .i64 c280, .int .i64 c281, .string c282]) (hd_v rfl fun ρ hρ => ⟨rfl, ov_ldN rfl underlying34 rfl sz34 rfl ((hρ 32 (lmem rfl)).trans rfl) hp278 (getN_cons hg283 (getN_cons hg284 (getN_cons hg285 (getN_cons hg286 getN_nil))))⟩) rfl rfl
    ffn))))))))))))))))) ?_
  obtain ⟨p287, aw288, hp289, ha290, H⟩ := H
  refine lt_val (dt := some 3) (v := p287) rfl rfl (fun ρ hρ => ⟨rfl, ov_alloc rfl z34 rfl rfl hp289 ha290⟩) ?_
  obtain ⟨hg225, H⟩ := H
  replace hg225 := hg225 _ _ hp223
  obtain ⟨hg236, H⟩ := H
  replace hg236 := hg236 _ _ hp234
  obtain ⟨hg255, H⟩ := H
  replace hg255 := hg255 _ _ hp253
  obtain ⟨hg266, H⟩ := H
  replace hg266 := hg266 _ _ hp264
  obtain ⟨hg283, H⟩ := H
  obtain ⟨hg284, H⟩ := H
  obtain ⟨hg285, H⟩ := H
  obtain ⟨hg286, H⟩ := H
  refine lt_next (l := [0, 1, 2, 3, 4, 5, 6, 7, 8, 9, 10, 11, 12, 13, 14, 15, 16]) (hv := []) rfl rfl (pv_nil _)
    (fc 17 m_0 (hd_v rfl fun ρ hρ => ⟨rfl, opv_move rfl rfl ((hρ 0 (lmem rfl)).trans h0)⟩) rfl rfl
    (fc 18 m_0 (hd_v rfl fun ρ hρ => ⟨rfl, ov_nck rfl rfl ((hρ 17 (lmem rfl)).trans rfl) hp215⟩) rfl rfl
    (fc 19 p216 (hd_v rfl fun ρ hρ => ⟨rfl, ov_fldA rfl rfl underlying77 rfl sz44 (by decide) ((hρ 18 (lmem rfl)).trans rfl) hp219 rfl hv220⟩) rfl rfl
    (fc 20 x224 (hd_v rfl fun ρ hρ => ⟨rfl, ov_ldV rfl underlying44 rfl rfl ((hρ 19 (lmem rfl)).trans rfl) hp223 hg225⟩) rfl rfl
    (fc 21 p206 (hd_v rfl fun ρ hρ => ⟨rfl, opv_move rfl rfl ((hρ 2 (lmem rfl)).trans h2)⟩) rfl rfl
    (fc 22 p206 (hd_v rfl fun ρ hρ => ⟨rfl, ov_nck rfl rfl ((hρ 21 (lmem rfl)).trans rfl) hp226⟩) rfl rfl
    (fc 23 p227 (hd_v rfl fun ρ hρ => ⟨rfl, ov_fldA rfl rfl underlying85 rfl sz3 (by decide) ((hρ 22 (lmem rfl)).trans rfl) hp230 rfl hv231⟩) rfl rfl
    (fc 24 (.int .i64 x235) (hd_v rfl fun ρ hρ => ⟨rfl, ov_ldI rfl underlying3 rfl ((hρ 23 (lmem rfl)).trans rfl) hp234 hg236⟩) rfl rfl
    (fc 25 p237 (hd_v rfl fun ρ hρ => ⟨rfl, ov_ixS rfl rfl rfl underlying44 sz43 ((hρ 20 (lmem rfl)).trans rfl) ((hρ 24 (lmem rfl)).trans rfl) hp242 h0243 hj244 hv245⟩) rfl rfl
    (fc 26 p246 (hd_v rfl fun ρ hρ => ⟨rfl, ov_fldA rfl rfl underlying43 rfl sz35 (by decide) ((hρ 25 (lmem rfl)).trans rfl) hp249 rfl hv250⟩) rfl rfl
    (fc 27 x254 (hd_v rfl fun ρ hρ => ⟨rfl, ov_ldV rfl underlying35 rfl rfl ((hρ 26 (lmem rfl)).trans rfl) hp253 hg255⟩) rfl rfl
    (fc 28 p206 (hd_v rfl fun ρ hρ => ⟨rfl, opv_move rfl rfl ((hρ 2 (lmem rfl)).trans h2)⟩) rfl rfl
    (fc 29 p206 (hd_v rfl fun ρ hρ => ⟨rfl, ov_nck rfl rfl ((hρ 28 (lmem rfl)).trans rfl) hp256⟩) rfl rfl
    (fc 30 p257 (hd_v rfl fun ρ hρ => ⟨rfl, ov_fldA rfl rfl underlying85 rfl sz3 (by decide) ((hρ 29 (lmem rfl)).trans rfl) hp260 rfl hv261⟩) rfl rfl
    (fc 31 (.int .i64 x265) (hd_v rfl fun ρ hρ => ⟨rfl, ov_ldI rfl underlying3 rfl ((hρ 30 (lmem rfl)).trans rfl) hp264 hg266⟩) rfl rfl
    (fc 32 p267 (hd_v rfl fun ρ hρ => ⟨rfl, ov_ixS rfl rfl rfl underlying35 sz34 ((hρ 27 (lmem rfl)).trans rfl) ((hρ 31 (lmem rfl)).trans rfl) hp272 h0273 hj274 hv275⟩) rfl rfl
    (fc 33 (.agg #[.int .u8 c279, .int .i64 c280, .int .i64 c281, .string c282]) (hd_v rfl fun ρ hρ => ⟨rfl, ov_ldN rfl underlying34 rfl sz34 rfl ((hρ 32 (lmem rfl)).trans rfl) hp278 (getN_cons hg283 (getN_cons hg284 (getN_cons hg285 (getN_cons hg286 getN_nil))))⟩) rfl rfl
    ffn))))))))))))))))) ?_
  obtain ⟨b292, i293, aw291, hp294, hw295, ho296, ha297, H⟩ := H
  refine lt_val (dt := none) (v := undef) rfl rfl (fun ρ hρ => ⟨rfl, ov_st rfl rfl rfl ((hρ 3 (lmem rfl)).trans rfl) ((hρ 33 (lmem rfl)).trans rfl) rfl sz34 hp294 hw295 ho296 ha297⟩) ?_
  refine lt_next (l := []) (hv := []) rfl rfl (pv_nil _)
    ffn ?_
  refine lt_end ?_
  refine ago_seqE (rfl : C58_4 = .seq C58_5 C58_6) ?_
  refine ago_cut (fun ρ => ρ 0 = m_0 ∧ ρ 2 = p206 ∧ ρ 3 = p287 ∧ True) ⟨h0, h2, rfl, trivial⟩ (fun ρ ⟨h0, h2, h3, _⟩ => ?_)
  refine ago_regE (rfl : C58_5 = .region 2 R58_2 false) (l := [0, 1, 2, 3, 4, 5, 6, 7]) rfl ?_
  refine lj 34 R58_2_N rfl rfl rfl (opv_move rfl rfl h2) ?_
  obtain ⟨hp298, H⟩ := H
  refine lj 35 R58_2_N rfl rfl rfl (ov_nck rfl rfl rfl hp298) ?_
  obtain ⟨b300, i301, p299, hp302, hv303, H⟩ := H
  refine lj 36 R58_2_N rfl rfl rfl (ov_fldA rfl rfl underlying85 rfl sz3 (by decide) rfl hp302 rfl hv303) ?_
  obtain ⟨b304, i305, x307, hp306, hg308, H⟩ := H
  refine lj 37 R58_2_N rfl rfl rfl (ov_ldI rfl underlying3 rfl rfl hp306 hg308) ?_
  refine lj 38 R58_2_N rfl rfl rfl (opv_add rfl rfl rfl rfl rfl) ?_
  obtain ⟨hp309, H⟩ := H
  refine lj 39 R58_2_N rfl rfl rfl (ov_nck rfl rfl rfl hp309) ?_
  obtain ⟨b311, i312, p310, hp313, hv314, H⟩ := H
  refine lj 40 R58_2_N rfl rfl rfl (ov_fldA rfl rfl underlying85 rfl sz3 (by decide) rfl hp313 rfl hv314) ?_
  obtain ⟨b316, i317, aw315, hp318, hw319, ho320, ha321, H⟩ := H
  refine lk (dt := none) R58_2_N rfl rfl rfl (ov_st rfl rfl rfl rfl rfl rfl sz3 hp318 hw319 ho320 ha321) ?_
  refine aops_nil ?_
  refine ago_seqE (rfl : C58_6 = .seq C58_7 C58_8) ?_
  refine ago_regE (rfl : C58_7 = .region 3 R58_3 false) (l := [0, 1]) rfl ?_
  obtain ⟨b323, i324, p322, hp325, hv326, H⟩ := H
  refine lj 41 R58_3_N rfl rfl rfl (ov_fldA rfl rfl underlying34 rfl sz5 (by decide) h3 hp325 rfl hv326) ?_
  obtain ⟨b327, i328, x330, hp329, hg331, H⟩ := H
  refine lj 42 R58_3_N rfl rfl rfl (ov_ldI rfl underlying5 rfl rfl hp329 hg331) ?_
  refine aops_nil ?_
  exact S58_1_ok Q E  _ m_0 p206 p287 x330 aw315 h0 h2 h3 rfl H
theorem F58_ok {Q : Unit → AW → Prop} {E : List PanicEntry → AW → Prop} (m_0 : Value) (aw : AW) (H : S58_0 Q E m_0 aw) : CallP prog 58 [m_0] aw sh58 Q E :=
  callP_of func58 C58_is rfl (Nat.le_of_ble_eq_true rfl) (S58_0_ok Q E _ m_0 aw rfl H)
def C67_0 := bodyOf f67
theorem C67_is : f67.body = some C67_0 := by kernel_rfl
def C67_1 := cl C67_0
def R67_0 := regOps C67_1
def C67_2 := cr C67_0
def C67_3 := cl C67_2
def C67_4 := cl C67_3
def R67_1 := regOps C67_4
def C67_5 := cr C67_3
def C67_6 := cl C67_5
def C67_7 := cr C67_5
def C67_8 := cr C67_2
def C67_9 := cl C67_8
def R67_3 := regOps C67_9
def C67_10 := cr C67_8
theorem R67_0_N : dstsOk 38 R67_0 = true := by decide +kernel
theorem R67_1_N : dstsOk 38 R67_1 = true := by decide +kernel
theorem R67_1_O : linOk R67_1 [0, 1, 2, 3, 4, 6, 7, 8, 9] [(5, [0, 6, 7, 8, 9], []), (10, [0], [11, 12])] = true := by decide +kernel
theorem R67_3_N : dstsOk 38 R67_3 = true := by decide +kernel
theorem R67_3_O : linOk R67_3 [0, 1, 2, 3, 4, 6, 7, 8, 9] [(5, [0, 6, 7, 8, 9], []), (10, [0], [11, 12, 13])] = true := by decide +kernel
def S67_1 (Q : Bool → AW → Prop) (E : List PanicEntry → AW → Prop)  (m_0 : Value) (n_1 : Int) (aw : AW) : Prop :=
  nck m_0 (fldA m_0 0 fun p2 =>
  ldV aw p2 fun x10 =>
  nck m_0 (fldA m_0 0 fun p13 =>
  ldV aw p13 fun x21 =>
  CallP prog 79 [x10] aw sh79 (fun r23 aw24 =>
  again1 aw24 p13 (x21) ∧ CallP prog 23 [x21] aw24 sh23 (fun r25 aw26 =>
  Q (decide (n_1 ≤ (IntKind.i64.wrap (r23 - r25)))) aw26) E) E))
def S67_0 (Q : Bool → AW → Prop) (E : List PanicEntry → AW → Prop)  (m_0 : Value) (n_1 : Int) (aw : AW) : Prop :=
  nck m_0 (fldA m_0 0 fun p28 =>
  ldV aw p28 fun x36 =>
  nck m_0 (fldA m_0 0 fun p39 =>
  ldV aw p39 fun x47 =>
  CallP prog 79 [x36] aw sh79 (fun r49 aw50 =>
  again1 aw50 p39 (x47) ∧ CallP prog 23 [x47] aw50 sh23 (fun r51 aw52 =>
  cnd (decide ((IntKind.i64.wrap (r49 - r51)) < n_1)) (False) (S67_1 Q E  m_0 n_1 aw52)) E) E))
theorem S67_1_ok (Q : Bool → AW → Prop) (E : List PanicEntry → AW → Prop)  (ρ : Env) (m_0 : Value) (n_1 : Int) (aw : AW) (h0 : ρ 0 = m_0) (h1 : ρ 1 = .int .i64 n_1) (H : S67_1 Q E  m_0 n_1 aw) :
    AGo prog 38 [.code C67_8] ρ [] aw (RR prog f67 38 sh67 Q E) := by
  unfold S67_1 at H
  refine ago_seqE (rfl : C67_8 = .seq C67_9 C67_10) ?_
  obtain ⟨hp1, H⟩ := H
  obtain ⟨b3, i4, p2, hp5, hv6, H⟩ := H
  obtain ⟨b7, i8, x10, hp9, hg11, H⟩ := H
  obtain ⟨hp12, H⟩ := H
  obtain ⟨b14, i15, p13, hp16, hv17, H⟩ := H
  obtain ⟨b18, i19, x21, hp20, hg22, H⟩ := H
  refine ago_drawH (p := [0, 1, 2, 3, 4, 6, 7, 8, 9]) (tl := [(5, [0, 6, 7, 8, 9], []), (10, [0], [11, 12, 13])]) (hv := [(0, Value.int .i64 n_1), (1, m_0), (2, m_0), (3, p2), (4, x10), (6, m_0), (7, m_0), (8, p13), (9, x21)]) (rfl : C67_9 = .region 3 R67_3 true) mixed R67_3_N R67_3_O rfl (pv_cons rfl (pv_cons rfl (pv_cons rfl (pv_cons rfl (pv_cons rfl (pv_cons rfl (pv_cons rfl (pv_cons rfl (pv_cons rfl (pv_nil _))))))))))
    (fc 25 (.int .i64 n_1) (hd_v rfl fun ρ hρ => ⟨rfl, opv_move rfl rfl ((hρ 1 (lmem rfl)).trans h1)⟩) rfl rfl
    (fc 26 m_0 (hd_v rfl fun ρ hρ => ⟨rfl, opv_move rfl rfl ((hρ 0 (lmem rfl)).trans h0)⟩) rfl rfl
    (fc 27 m_0 (hd_v rfl fun ρ hρ => ⟨rfl, ov_nck rfl rfl ((hρ 26 (lmem rfl)).trans rfl) hp1⟩) rfl rfl
    (fc 28 p2 (hd_v rfl fun ρ hρ => ⟨rfl, ov_fldA rfl rfl underlying77 rfl sz50 (by decide) ((hρ 27 (lmem rfl)).trans rfl) hp5 rfl hv6⟩) rfl rfl
    (fc 29 x10 (hd_v rfl fun ρ hρ => ⟨rfl, ov_ldV rfl underlying50 rfl rfl ((hρ 28 (lmem rfl)).trans rfl) hp9 hg11⟩) rfl rfl
    (fc 31 m_0 (hd_v rfl fun ρ hρ => ⟨rfl, opv_move rfl rfl ((hρ 0 (lmem rfl)).trans h0)⟩) rfl rfl
    (fc 32 m_0 (hd_v rfl fun ρ hρ => ⟨rfl, ov_nck rfl rfl ((hρ 31 (lmem rfl)).trans rfl) hp12⟩) rfl rfl
    (fc 33 p13 (hd_v rfl fun ρ hρ => ⟨rfl, ov_fldA rfl rfl underlying77 rfl sz50 (by decide) ((hρ 32 (lmem rfl)).trans rfl) hp16 rfl hv17⟩) rfl rfl
    (fc 34 x21 (hd_v rfl fun ρ hρ => ⟨rfl, ov_ldV rfl underlying50 rfl rfl ((hρ 33 (lmem rfl)).trans rfl) hp20 hg22⟩) rfl rfl
    ffn))))))))) ?_
  refine lt_call (dt := some 30) rfl rfl (fun ρ hρ => ⟨rfl, opc_of rfl rfl is79 (ma_cons ((hρ 29 (lmem rfl)).trans rfl) rfl)⟩) H (fun _ _ h _ => ⟨rfl, h⟩) fun r23 aw24 H => ?_
  obtain ⟨hg22, H⟩ := H
  replace hg22 := hg22 _ _ hp20
  refine lt_next (l := [0, 6, 7, 8, 9]) (hv := []) rfl rfl (pv_nil _)
    (fc 25 (.int .i64 n_1) (hd_v rfl fun ρ hρ => ⟨rfl, opv_move rfl rfl ((hρ 1 (lmem rfl)).trans h1)⟩) rfl rfl
    (fc 31 m_0 (hd_v rfl fun ρ hρ => ⟨rfl, opv_move rfl rfl ((hρ 0 (lmem rfl)).trans h0)⟩) rfl rfl
    (fc 32 m_0 (hd_v rfl fun ρ hρ => ⟨rfl, ov_nck rfl rfl ((hρ 31 (lmem rfl)).trans rfl) hp12⟩) rfl rfl
    (fc 33 p13 (hd_v rfl fun ρ hρ => ⟨rfl, ov_fldA rfl rfl underlying77 rfl sz50 (by decide) ((hρ 32 (lmem rfl)).trans rfl) hp16 rfl hv17⟩) rfl rfl
    (fc 34 x21 (hd_v rfl fun ρ hρ => ⟨rfl, ov_ldV rfl underlying50 rfl rfl ((hρ 33 (lmem rfl)).trans rfl) hp20 hg22⟩) rfl rfl
    ffn))))) ?_
  refine lt_call (dt := some 35) rfl rfl (fun ρ hρ => ⟨rfl, opc_of rfl rfl is23 (ma_cons ((hρ 34 (lmem rfl)).trans rfl) rfl)⟩) H (fun _ _ h _ => ⟨rfl, h⟩) fun r25 aw26 H => ?_
  refine lt_next (l := [0, 11, 12, 13]) (hv := [(11, Value.int .i64 (IntKind.i64.wrap (r23 - r25))), (12, Value.bool (decide (n_1 ≤ (IntKind.i64.wrap (r23 - r25))))), (13, Value.bool (decide (n_1 ≤ (IntKind.i64.wrap (r23 - r25)))))]) rfl rfl (pv_cons rfl (pv_cons rfl (pv_cons rfl (pv_nil _))))
    (fc 25 (.int .i64 n_1) (hd_v rfl fun ρ hρ => ⟨rfl, opv_move rfl rfl ((hρ 1 (lmem rfl)).trans h1)⟩) rfl rfl
    (fc 36 (.int .i64 (IntKind.i64.wrap (r23 - r25))) (hd_v rfl fun ρ hρ => ⟨rfl, opv_sub rfl rfl rfl ((hρ 30 (lmem rfl)).trans rfl) ((hρ 35 (lmem rfl)).trans rfl)⟩) rfl rfl
    (fc 37 (.bool (decide (n_1 ≤ (IntKind.i64.wrap (r23 - r25))))) (hd_v rfl fun ρ hρ => ⟨rfl, opv_le rfl rfl rfl ((hρ 25 (lmem rfl)).trans rfl) ((hρ 36 (lmem rfl)).trans rfl)⟩) rfl rfl
    (fc 4 (.bool (decide (n_1 ≤ (IntKind.i64.wrap (r23 - r25))))) (hd_v rfl fun ρ hρ => ⟨rfl, opv_assign rfl rfl ((hρ 37 (lmem rfl)).trans rfl)⟩) rfl rfl
    ffn)))) ?_
  refine lt_end ?_
  exact ago_retE (rfl : C67_10 = .ret) (r := (decide (n_1 ≤ (IntKind.i64.wrap (r23 - r25))))) (ares_1 rfl (oneT rfl)) rfl H
theorem S67_0_ok (Q : Bool → AW → Prop) (E : List PanicEntry → AW → Prop)  (ρ : Env) (m_0 : Value) (n_1 : Int) (aw : AW) (h0 : ρ 0 = m_0) (h1 : ρ 1 = .int .i64 n_1) (H : S67_0 Q E  m_0 n_1 aw) :
    AGo prog 38 [.code C67_0] ρ [] aw (RR prog f67 38 sh67 Q E) := by
  unfold S67_0 at H
  refine ago_seqE (rfl : C67_0 = .seq C67_1 C67_2) ?_
  refine ago_regE (rfl : C67_1 = .region 0 R67_0 false) (l := [0]) rfl ?_
  refine lj 4 R67_0_N rfl rfl rfl (opv_assign rfl rfl rfl) ?_
  refine aops_nil ?_
  refine ago_seqE (rfl : C67_2 = .seq C67_3 C67_8) ?_
  refine ago_seqE (rfl : C67_3 = .seq C67_4 C67_5) ?_
  obtain ⟨hp27, H⟩ := H
  obtain ⟨b29, i30, p28, hp31, hv32, H⟩ := H
  obtain ⟨b33, i34, x36, hp35, hg37, H⟩ := H
  obtain ⟨hp38, H⟩ := H
  obtain ⟨b40, i41, p39, hp42, hv43, H⟩ := H
  obtain ⟨b44, i45, x47, hp46, hg48, H⟩ := H
  refine ago_drawH (p := [0, 1, 2, 3, 4, 6, 7, 8, 9]) (tl := [(5, [0, 6, 7, 8, 9], []), (10, [0], [11, 12])]) (hv := [(0, Value.int .i64 n_1), (1, m_0), (2, m_0), (3, p28), (4, x36), (6, m_0), (7, m_0), (8, p39), (9, x47)]) (rfl : C67_4 = .region 1 R67_1 true) mixed R67_1_N R67_1_O rfl (pv_cons rfl (pv_cons rfl (pv_cons rfl (pv_cons rfl (pv_cons rfl (pv_cons rfl (pv_cons rfl (pv_cons rfl (pv_cons rfl (pv_nil _))))))))))
    (fc 5 (.int .i64 n_1) (hd_v rfl fun ρ hρ => ⟨rfl, opv_move rfl rfl ((hρ 1 (lmem rfl)).trans h1)⟩) rfl rfl
    (fc 6 m_0 (hd_v rfl fun ρ hρ => ⟨rfl, opv_move rfl rfl ((hρ 0 (lmem rfl)).trans h0)⟩) rfl rfl
    (fc 7 m_0 (hd_v rfl fun ρ hρ => ⟨rfl, ov_nck rfl rfl ((hρ 6 (lmem rfl)).trans rfl) hp27⟩) rfl rfl
    (fc 8 p28 (hd_v rfl fun ρ hρ => ⟨rfl, ov_fldA rfl rfl underlying77 rfl sz50 (by decide) ((hρ 7 (lmem rfl)).trans rfl) hp31 rfl hv32⟩) rfl rfl
    (fc 9 x36 (hd_v rfl fun ρ hρ => ⟨rfl, ov_ldV rfl underlying50 rfl rfl ((hρ 8 (lmem rfl)).trans rfl) hp35 hg37⟩) rfl rfl
    (fc 11 m_0 (hd_v rfl fun ρ hρ => ⟨rfl, opv_move rfl rfl ((hρ 0 (lmem rfl)).trans h0)⟩) rfl rfl
    (fc 12 m_0 (hd_v rfl fun ρ hρ => ⟨rfl, ov_nck rfl rfl ((hρ 11 (lmem rfl)).trans rfl) hp38⟩) rfl rfl
    (fc 13 p39 (hd_v rfl fun ρ hρ => ⟨rfl, ov_fldA rfl rfl underlying77 rfl sz50 (by decide) ((hρ 12 (lmem rfl)).trans rfl) hp42 rfl hv43⟩) rfl rfl
    (fc 14 x47 (hd_v rfl fun ρ hρ => ⟨rfl, ov_ldV rfl underlying50 rfl rfl ((hρ 13 (lmem rfl)).trans rfl) hp46 hg48⟩) rfl rfl
    ffn))))))))) ?_
  refine lt_call (dt := some 10) rfl rfl (fun ρ hρ => ⟨rfl, opc_of rfl rfl is79 (ma_cons ((hρ 9 (lmem rfl)).trans rfl) rfl)⟩) H (fun _ _ h _ => ⟨rfl, h⟩) fun r49 aw50 H => ?_
  obtain ⟨hg48, H⟩ := H
  replace hg48 := hg48 _ _ hp46
  refine lt_next (l := [0, 6, 7, 8, 9]) (hv := []) rfl rfl (pv_nil _)
    (fc 5 (.int .i64 n_1) (hd_v rfl fun ρ hρ => ⟨rfl, opv_move rfl rfl ((hρ 1 (lmem rfl)).trans h1)⟩) rfl rfl
    (fc 11 m_0 (hd_v rfl fun ρ hρ => ⟨rfl, opv_move rfl rfl ((hρ 0 (lmem rfl)).trans h0)⟩) rfl rfl
    (fc 12 m_0 (hd_v rfl fun ρ hρ => ⟨rfl, ov_nck rfl rfl ((hρ 11 (lmem rfl)).trans rfl) hp38⟩) rfl rfl
    (fc 13 p39 (hd_v rfl fun ρ hρ => ⟨rfl, ov_fldA rfl rfl underlying77 rfl sz50 (by decide) ((hρ 12 (lmem rfl)).trans rfl) hp42 rfl hv43⟩) rfl rfl
    (fc 14 x47 (hd_v rfl fun ρ hρ => ⟨rfl, ov_ldV rfl underlying50 rfl rfl ((hρ 13 (lmem rfl)).trans rfl) hp46 hg48⟩) rfl rfl
    ffn))))) ?_
  refine lt_call (dt := some 15) rfl rfl (fun ρ hρ => ⟨rfl, opc_of rfl rfl is23 (ma_cons ((hρ 14 (lmem rfl)).trans rfl) rfl)⟩) H (fun _ _ h _ => ⟨rfl, h⟩) fun r51 aw52 H => ?_
  refine lt_next (l := [0, 11, 12]) (hv := [(11, Value.int .i64 (IntKind.i64.wrap (r49 - r51))), (12, Value.bool (decide ((IntKind.i64.wrap (r49 - r51)) < n_1)))]) rfl rfl (pv_cons rfl (pv_cons rfl (pv_nil _)))
    (fc 5 (.int .i64 n_1) (hd_v rfl fun ρ hρ => ⟨rfl, opv_move rfl rfl ((hρ 1 (lmem rfl)).trans h1)⟩) rfl rfl
    (fc 16 (.int .i64 (IntKind.i64.wrap (r49 - r51))) (hd_v rfl fun ρ hρ => ⟨rfl, opv_sub rfl rfl rfl ((hρ 10 (lmem rfl)).trans rfl) ((hρ 15 (lmem rfl)).trans rfl)⟩) rfl rfl
    (fc 17 (.bool (decide ((IntKind.i64.wrap (r49 - r51)) < n_1))) (hd_v rfl fun ρ hρ => ⟨rfl, opv_gt rfl rfl rfl ((hρ 5 (lmem rfl)).trans rfl) ((hρ 16 (lmem rfl)).trans rfl)⟩) rfl rfl
    ffn))) ?_
  refine lt_end ?_
  refine ago_condE  (rfl : C67_5 = .cond (.tmp 17) C67_6 C67_7) rfl rfl (fun hb53 => ?_) (fun hb53 => ?_)
  · exact (cnd_t H hb53).elim
  replace H := cnd_f H hb53
  refine ago_skipE (rfl : C67_7 = .skip) ?_
  exact S67_1_ok Q E  _ m_0 n_1 aw52 h0 h1 H
theorem F67_ok {Q : Bool → AW → Prop} {E : List PanicEntry → AW → Prop} (m_0 : Value) (n_1 : Int) (aw : AW) (H : S67_0 Q E m_0 n_1 aw) : CallP prog 67 [m_0, .int .i64 n_1] aw sh67 Q E :=
  callP_of func67 C67_is rfl (Nat.le_of_ble_eq_true rfl) (S67_0_ok Q E _ m_0 n_1 aw rfl rfl H)
def C69_0 := bodyOf f69
theorem C69_is : f69.body = some C69_0 := by kernel_rfl
def C69_1 := cl C69_0
def C69_2 := cl C69_1
def R69_0 := regOps C69_2
def C69_3 := cr C69_1
def C69_4 := cl C69_3
def C69_5 := cr C69_3
def C69_6 := cr C69_0
def C69_7 := cl C69_6
def C69_8 := cl C69_7
def R69_2 := regOps C69_8
def C69_9 := cr C69_7
def C69_10 := cl C69_9
def C69_11 := cr C69_9
def C69_12 := cr C69_6
def C69_13 := cl C69_12
def R69_4 := regOps C69_13
def C69_14 := cr C69_12
def R69_5 := regOps C69_14
theorem R69_0_N : dstsOk 31 R69_0 = true := by decide +kernel
theorem R69_2_N : dstsOk 31 R69_2 = true := by decide +kernel
theorem R69_4_N : dstsOk 31 R69_4 = true := by decide +kernel
theorem R69_5_N : dstsOk 31 R69_5 = true := by decide +kernel
def S69_0 (Q : Unit → AW → Prop) (E : List PanicEntry → AW → Prop)  (m_0 : Value) (s_1 : ByteArray) (aw : AW) : Prop :=
  cnd (decide (4096 < (s_1.size : Int))) (False) (CallP prog 53 [.int .u8 3, .int .i64 (s_1.size : Int)] aw sh53 (fun r2 aw3 =>
  CallP prog 67 [m_0, .int .i64 r2] aw3 sh67 (fun r4 aw5 =>
  cnd (!r4) (False) (nck m_0 (fldA m_0 0 fun p8 =>
  ldV aw5 p8 fun x16 =>
  CallP prog 68 [x16, .string s_1, (.slice none 0 0)] aw5 sh68 (fun r18 aw19 =>
  CallP prog 34 [m_0, .int .u64 r18.1] aw19 sh34 (fun r20 aw21 =>
  Q () aw21) E) E))) E) E)
theorem S69_0_ok (Q : Unit → AW → Prop) (E : List PanicEntry → AW → Prop)  (ρ : Env) (m_0 : Value) (s_1 : ByteArray) (aw : AW) (h0 : ρ 0 = m_0) (h1 : ρ 1 = .string s_1) (H : S69_0 Q E  m_0 s_1 aw) :
    AGo prog 31 [.code C69_0] ρ [] aw (RR prog f69 31 sh69 Q E) := by
  unfold S69_0 at H
  refine ago_seqE (rfl : C69_0 = .seq C69_1 C69_6) ?_
  refine ago_seqE (rfl : C69_1 = .seq C69_2 C69_3) ?_
  refine ago_regE (rfl : C69_2 = .region 0 R69_0 false) (l := [0, 1, 2]) rfl ?_
  refine lj 6 R69_0_N rfl rfl rfl (opv_move rfl rfl h1) ?_
  refine lj 7 R69_0_N rfl rfl rfl (opv_lenS rfl rfl rfl underlying9 rfl) ?_
  refine lj 8 R69_0_N rfl rfl rfl (opv_gt rfl rfl rfl rfl rfl) ?_
  refine aops_nil ?_
  refine ago_condE  (rfl : C69_3 = .cond (.tmp 8) C69_4 C69_5) rfl rfl (fun hb1 => ?_) (fun hb1 => ?_)
  · exact (cnd_t H hb1).elim
  replace H := cnd_f H hb1
  refine ago_skipE (rfl : C69_5 = .skip) ?_
  refine ago_seqE (rfl : C69_6 = .seq C69_7 C69_12) ?_
  refine ago_seqE (rfl : C69_7 = .seq C69_8 C69_9) ?_
  refine ago_regE (rfl : C69_8 = .region 2 R69_2 false) (l := [0, 1, 2, 3, 4, 5]) rfl ?_
  refine lj 11 R69_2_N rfl rfl rfl (opv_move rfl rfl h0) ?_
  refine lj 12 R69_2_N rfl rfl rfl (opv_move rfl rfl h1) ?_
  refine lj 13 R69_2_N rfl rfl rfl (opv_lenS rfl rfl rfl underlying9 rfl) ?_
  refine lc 14 R69_2_N rfl rfl rfl (opc_of rfl rfl is53 (ma_cons rfl (ma_cons rfl rfl))) H (fun _ _ h => ⟨rfl, h⟩) fun r2 aw3 H => ?_
  refine lc 15 R69_2_N rfl rfl rfl (opc_of rfl rfl is67 (ma_cons rfl (ma_cons rfl rfl))) H (fun _ _ h => ⟨rfl, h⟩) fun r4 aw5 H => ?_
  refine lj 16 R69_2_N rfl rfl rfl (opv_not rfl rfl rfl) ?_
  refine aops_nil ?_
  refine ago_condE  (rfl : C69_9 = .cond (.tmp 16) C69_10 C69_11) rfl rfl (fun hb6 => ?_) (fun hb6 => ?_)
  · exact (cnd_t H hb6).elim
  replace H := cnd_f H hb6
  refine ago_skipE (rfl : C69_11 = .skip) ?_
  refine ago_seqE (rfl : C69_12 = .seq C69_13 C69_14) ?_
  refine ago_regE (rfl : C69_13 = .region 4 R69_4 false) (l := [0, 1, 2, 3, 4, 5, 6, 7, 8, 9, 10]) rfl ?_
  refine lj 20 R69_4_N rfl rfl rfl (opv_move rfl rfl h0) ?_
  obtain ⟨hp7, H⟩ := H
  refine lj 21 R69_4_N rfl rfl rfl (ov_nck rfl rfl rfl hp7) ?_
  obtain ⟨b9, i10, p8, hp11, hv12, H⟩ := H
  refine lj 22 R69_4_N rfl rfl rfl (ov_fldA rfl rfl underlying77 rfl sz50 (by decide) rfl hp11 rfl hv12) ?_
  obtain ⟨b13, i14, x16, hp15, hg17, H⟩ := H
  refine lj 23 R69_4_N rfl rfl rfl (ov_ldV rfl underlying50 rfl rfl rfl hp15 hg17) ?_
  refine lj 24 R69_4_N rfl rfl rfl (opv_move rfl rfl h1) ?_
  refine lc 25 R69_4_N rfl rfl rfl (opc_of rfl rfl is68 (ma_cons rfl (ma_cons rfl (ma_cons rfl rfl)))) H (fun _ _ h => ⟨rfl, h⟩) fun r18 aw19 H => ?_
  refine lj 19 R69_4_N rfl rfl rfl (opv_move rfl rfl rfl) ?_
  refine lj 26 R69_4_N rfl rfl rfl (opv_extract rfl rfl rfl rfl) ?_
  refine lj 27 R69_4_N rfl rfl rfl (opv_extract rfl rfl rfl rfl) ?_
  refine lj 4 R69_4_N rfl rfl rfl (opv_assign rfl rfl rfl) ?_
  refine lj 5 R69_4_N rfl rfl rfl (opv_assign rfl rfl rfl) ?_
  refine aops_nil ?_
  refine ago_cut (fun ρ => ρ 0 = m_0 ∧ ρ 4 = .int .u64 r18.1 ∧ True) ⟨h0, rfl, trivial⟩ (fun ρ ⟨h0, h4, _⟩ => ?_)
  refine ago_regE (rfl : C69_14 = .region 5 R69_5 false) (l := [0, 1, 2]) rfl ?_
  refine lj 28 R69_5_N rfl rfl rfl (opv_move rfl rfl h0) ?_
  refine lj 29 R69_5_N rfl rfl rfl (opv_move rfl rfl h4) ?_
  refine lc 30 R69_5_N rfl rfl rfl (opc_of rfl rfl is34 (ma_cons rfl (ma_cons rfl rfl))) H (fun _ _ h => ⟨rfl, h⟩) fun r20 aw21 H => ?_
  refine aops_nil ?_
  exact ago_nilR (r := ()) (ares_0 rfl ) rfl H
theorem F69_ok {Q : Unit → AW → Prop} {E : List PanicEntry → AW → Prop} (m_0 : Value) (s_1 : ByteArray) (aw : AW) (H : S69_0 Q E m_0 s_1 aw) : CallP prog 69 [m_0, .string s_1] aw sh69 Q E :=
  callP_of func69 C69_is rfl (Nat.le_of_ble_eq_true rfl) (S69_0_ok Q E _ m_0 s_1 aw rfl rfl H)
def C70_0 := bodyOf f70
theorem C70_is : f70.body = some C70_0 := by kernel_rfl
def C70_1 := cl C70_0
def R70_0 := regOps C70_1
def C70_2 := cr C70_0
def C70_3 := cl C70_2
def R70_1 := regOps C70_3
def C70_4 := cr C70_2
def C70_5 := cl C70_4
def C70_6 := cl C70_5
def R70_2 := regOps C70_6
def C70_7 := cr C70_5
def C70_8 := cl C70_7
def R70_3 := regOps C70_8
def C70_9 := cr C70_7
def C70_10 := cr C70_4
def C70_11 := cl C70_10
def R70_4 := regOps C70_11
def C70_12 := cr C70_10
theorem R70_0_N : dstsOk 24 R70_0 = true := by decide +kernel
theorem R70_1_N : dstsOk 24 R70_1 = true := by decide +kernel
theorem R70_2_N : dstsOk 24 R70_2 = true := by decide +kernel
theorem R70_3_N : dstsOk 24 R70_3 = true := by decide +kernel
theorem R70_4_N : dstsOk 24 R70_4 = true := by decide +kernel
def S70_0 (Q : Int → AW → Prop) (E : List PanicEntry → AW → Prop)  (m_0 : Value) (w_1 : Int) (i_2 : Int) (aw : AW) : Prop :=
  nck m_0 (fldA m_0 0 fun p2 =>
  ldV aw p2 fun x10 =>
  CallP prog 80 [x10, .int .u64 w_1, .int .i64 i_2] aw sh80 (fun r12 aw13 =>
  cnd (!decide (r12.2 = 0)) (E [⟨(.iface 114 (.agg #[.int .i64 3])), false, false⟩] aw13) (Q r12.1 aw13)) E)
theorem S70_0_ok (Q : Int → AW → Prop) (E : List PanicEntry → AW → Prop)  (ρ : Env) (m_0 : Value) (w_1 : Int) (i_2 : Int) (aw : AW) (h0 : ρ 0 = m_0) (h1 : ρ 1 = .int .u64 w_1) (h2 : ρ 2 = .int .i64 i_2) (H : S70_0 Q E  m_0 w_1 i_2 aw) :
    AGo prog 24 [.code C70_0] ρ [] aw (RR prog f70 24 sh70 Q E) := by
  unfold S70_0 at H
  refine ago_seqE (rfl : C70_0 = .seq C70_1 C70_2) ?_
  refine ago_regE (rfl : C70_1 = .region 0 R70_0 false) (l := [0]) rfl ?_
  refine lj 6 R70_0_N rfl rfl rfl (opv_assign rfl rfl rfl) ?_
  refine aops_nil ?_
  refine ago_seqE (rfl : C70_2 = .seq C70_3 C70_4) ?_
  refine ago_regE (rfl : C70_3 = .region 1 R70_1 false) (l := [0, 1, 2, 3, 4, 5, 6, 7, 8, 9, 10, 11]) rfl ?_
  refine lj 10 R70_1_N rfl rfl rfl (opv_move rfl rfl h0) ?_
  obtain ⟨hp1, H⟩ := H
  refine lj 11 R70_1_N rfl rfl rfl (ov_nck rfl rfl rfl hp1) ?_
  obtain ⟨b3, i4, p2, hp5, hv6, H⟩ := H
  refine lj 12 R70_1_N rfl rfl rfl (ov_fldA rfl rfl underlying77 rfl sz50 (by decide) rfl hp5 rfl hv6) ?_
  obtain ⟨b7, i8, x10, hp9, hg11, H⟩ := H
  refine lj 13 R70_1_N rfl rfl rfl (ov_ldV rfl underlying50 rfl rfl rfl hp9 hg11) ?_
  refine lj 14 R70_1_N rfl rfl rfl (opv_move rfl rfl h1) ?_
  refine lj 15 R70_1_N rfl rfl rfl (opv_move rfl rfl h2) ?_
  refine lc 16 R70_1_N rfl rfl rfl (opc_of rfl rfl is80 (ma_cons rfl (ma_cons rfl (ma_cons rfl rfl)))) H (fun _ _ h => ⟨rfl, h⟩) fun r12 aw13 H => ?_
  refine lj 9 R70_1_N rfl rfl rfl (opv_move rfl rfl rfl) ?_
  refine lj 17 R70_1_N rfl rfl rfl (opv_extract rfl rfl rfl rfl) ?_
  refine lj 18 R70_1_N rfl rfl rfl (opv_extract rfl rfl rfl rfl) ?_
  refine lj 7 R70_1_N rfl rfl rfl (opv_assign rfl rfl rfl) ?_
  refine lj 8 R70_1_N rfl rfl rfl (opv_assign rfl rfl rfl) ?_
  refine aops_nil ?_
  refine ago_seqE (rfl : C70_4 = .seq C70_5 C70_10) ?_
  refine ago_seqE (rfl : C70_5 = .seq C70_6 C70_7) ?_
  refine ago_cut (fun ρ => ρ 7 = .int .u64 r12.1 ∧ ρ 8 = .int .i64 r12.2 ∧ True) ⟨rfl, rfl, trivial⟩ (fun ρ ⟨h7, h8, _⟩ => ?_)
  refine ago_regE (rfl : C70_6 = .region 2 R70_2 false) (l := [0, 1]) rfl ?_
  refine lj 19 R70_2_N rfl rfl rfl (opv_move rfl rfl h8) ?_
  refine lj 20 R70_2_N rfl rfl rfl (opv_neI rfl rfl rfl rfl rfl) ?_
  refine aops_nil ?_
  refine ago_condE  (rfl : C70_7 = .cond (.tmp 20) C70_8 C70_9) rfl rfl (fun hb14 => ?_) (fun hb14 => ?_)
  · replace H := cnd_t H hb14
    refine ago_regE (rfl : C70_8 = .region 3 R70_3 false) (l := [0, 1, 2]) rfl ?_
    refine lj 21 R70_3_N rfl rfl rfl (ov_bld (r := [.int .i64 3]) rfl rfl bo114 (mp_cons rfl rfl) (fillP rfl rfl rfl rfl (fillN rfl))) ?_
    refine lj 22 R70_3_N rfl rfl rfl (opv_mkIface rfl rfl underlying114 rfl rfl) ?_
    exact aops_panic R70_3_N rfl rfl (opp_panic rfl rfl rfl) ⟨rfl, H⟩
  replace H := cnd_f H hb14
  refine ago_skipE (rfl : C70_9 = .skip) ?_
  refine ago_seqE (rfl : C70_10 = .seq C70_11 C70_12) ?_
  refine ago_regE (rfl : C70_11 = .region 4 R70_4 false) (l := [0, 1]) rfl ?_
  refine lj 23 R70_4_N rfl rfl rfl (opv_move rfl rfl h7) ?_
  refine lj 6 R70_4_N rfl rfl rfl (opv_assign rfl rfl rfl) ?_
  refine aops_nil ?_
  exact ago_retE (rfl : C70_12 = .ret) (r := r12.1) (ares_1 rfl (oneT rfl)) rfl H
theorem F70_ok {Q : Int → AW → Prop} {E : List PanicEntry → AW → Prop} (m_0 : Value) (w_1 : Int) (i_2 : Int) (aw : AW) (H : S70_0 Q E m_0 w_1 i_2 aw) : CallP prog 70 [m_0, .int .u64 w_1, .int .i64 i_2] aw sh70 Q E :=
  callP_of func70 C70_is rfl (Nat.le_of_ble_eq_true rfl) (S70_0_ok Q E _ m_0 w_1 i_2 aw rfl rfl rfl H)
def C72_0 := bodyOf f72
theorem C72_is : f72.body = some C72_0 := by kernel_rfl
def C72_1 := cl C72_0
def R72_0 := regOps C72_1
def C72_2 := cr C72_0
def C72_3 := cl C72_2
def R72_1 := regOps C72_3
def C72_4 := cr C72_2
def C72_5 := cl C72_4
def R72_2 := regOps C72_5
def C72_6 := cr C72_4
def C72_7 := cl C72_6
def R72_3 := regOps C72_7
def C72_8 := cr C72_6
def C72_9 := cl C72_8
def C72_10 := cl C72_9
def R72_5 := regOps C72_10
def C72_11 := cr C72_9
def C72_12 := cl C72_11
def C72_21 := cr C72_11
def C72_22 := cl C72_21
def R72_10 := regOps C72_22
def C72_23 := cr C72_21
def C72_24 := cl C72_23
def C72_25 := cl C72_24
def R72_11 := regOps C72_25
def C72_26 := cr C72_24
def C72_27 := cl C72_26
def R72_12 := regOps C72_27
def C72_28 := cr C72_26
def C72_29 := cl C72_28
def R72_13 := regOps C72_29
def C72_30 := cr C72_28
def C72_31 := cl C72_30
def R72_14 := regOps C72_31
def C72_32 := cr C72_30
def C72_33 := cl C72_32
def R72_15 := regOps C72_33
def C72_34 := cr C72_32
def R72_16 := regOps C72_34
def C72_35 := cr C72_23
theorem R72_0_N : dstsOk 101 R72_0 = true := by decide +kernel
theorem R72_1_N : dstsOk 101 R72_1 = true := by decide +kernel
theorem R72_2_N : dstsOk 101 R72_2 = true := by decide +kernel
theorem R72_3_N : dstsOk 101 R72_3 = true := by decide +kernel
theorem R72_5_N : dstsOk 101 R72_5 = true := by decide +kernel
theorem R72_10_N : dstsOk 101 R72_10 = true := by decide +kernel
theorem R72_11_N : dstsOk 101 R72_11 = true := by decide +kernel
theorem R72_12_N : dstsOk 101 R72_12 = true := by decide +kernel
theorem R72_13_N : dstsOk 101 R72_13 = true := by decide +kernel
theorem R72_14_N : dstsOk 101 R72_14 = true := by decide +kernel
theorem R72_15_N : dstsOk 101 R72_15 = true := by decide +kernel
theorem R72_16_N : dstsOk 101 R72_16 = true := by decide +kernel
def S72_0 (Q : Unit → AW → Prop) (E : List PanicEntry → AW → Prop)  (m_0 : Value) (aw : AW) : Prop :=
  CallP prog 81 [m_0] aw sh81 (fun r1 aw2 =>
  nck m_0 (fldA m_0 3 fun p4 =>
  ldV aw2 p4 fun x12 =>
  slen x12 fun n14 =>
  nck m_0 (fldA m_0 3 fun p21 =>
  ldV aw2 p21 fun x29 =>
  ixS x29 (IntKind.i64.wrap (n14 - 2)) 1 fun p31 =>
  ldI .u64 aw2 p31 fun x43 =>
  nck m_0 (fldA m_0 0 fun p46 =>
  ldV aw2 p46 fun x54 =>
  CallP prog 38 [x54, .int .u64 x43] aw2 sh38 (fun r56 aw57 =>
  cnd (decide (r56 = 5)) (False) (cnd (decide (r56 = 6)) (CallP prog 70 [m_0, .int .u64 x43, .int .i64 0] aw57 sh70 (fun r60 aw61 =>
  CallP prog 73 [.int .u64 r60] aw61 sh73 (fun r62 aw63 =>
  nck m_0 (fldA m_0 3 fun p65 =>
  ldV aw63 p65 fun x73 =>
  ixS x73 (IntKind.i64.wrap (n14 - 1)) 1 fun p75 =>
  ldI .u64 aw63 p75 fun x87 =>
  CallP prog 82 [m_0, .int .i64 r62, .int .u64 x87] aw63 sh82 (fun r89 aw90 =>
  CallP prog 37 [m_0] aw90 sh37 (fun r91 aw92 =>
  nck m_0 (fldA m_0 3 fun p94 =>
  ldV aw92 p94 fun x102 =>
  ixS x102 (IntKind.i64.wrap (n14 - 2)) 1 fun p104 =>
  st aw92 p104 [.int .u64 r91] fun aw113 =>
  nck m_0 (fldA m_0 3 fun p121 =>
  ldV aw113 p121 fun x129 =>
  cutV aw113 1 x129 0 (IntKind.i64.wrap (n14 - 1)) fun v131 =>
  nck m_0 (fldA m_0 3 fun p134 =>
  st aw113 p134 [v131] fun aw139 =>
  Q () aw139)))) E) E)) E) E) (False))) E)))) E
theorem S72_0_ok (Q : Unit → AW → Prop) (E : List PanicEntry → AW → Prop)  (ρ : Env) (m_0 : Value) (aw : AW) (h0 : ρ 0 = m_0) (H : S72_0 Q E  m_0 aw) :
    AGo prog 101 [.code C72_0] ρ [] aw (RR prog f72 101 sh72 Q E) := by
  unfold S72_0 at H
  refine ago_seqE (rfl : C72_0 = .seq C72_1 C72_2) ?_
  refine ago_regE (rfl : C72_1 = .region 0 R72_0 false) (l := [0, 1]) rfl ?_
  refine lj 8 R72_0_N rfl rfl rfl (opv_move rfl rfl h0) ?_
  refine lc 9 R72_0_N rfl rfl rfl (opc_of rfl rfl is81 (ma_cons rfl rfl)) H (fun _ _ h => ⟨rfl, h⟩) fun r1 aw2 H => ?_
  refine aops_nil ?_
  refine ago_seqE (rfl : C72_2 = .seq C72_3 C72_4) ?_
  refine ago_regE (rfl : C72_3 = .region 1 R72_1 false) (l := [0, 1, 2, 3, 4, 5]) rfl ?_
  refine lj 10 R72_1_N rfl rfl rfl (opv_move rfl rfl h0) ?_
  obtain ⟨hp3, H⟩ := H
  refine lj 11 R72_1_N rfl rfl rfl (ov_nck rfl rfl rfl hp3) ?_
  obtain ⟨b5, i6, p4, hp7, hv8, H⟩ := H
  refine lj 12 R72_1_N rfl rfl rfl (ov_fldA rfl rfl underlying77 rfl sz62 (by decide) rfl hp7 rfl hv8) ?_
  obtain ⟨b9, i10, x12, hp11, hg13, H⟩ := H
  refine lj 13 R72_1_N rfl rfl rfl (ov_ldV rfl underlying62 rfl rfl rfl hp11 hg13) ?_
  obtain ⟨q15, l16, c17, n14, hv18, hn19, H⟩ := H
  refine lj 14 R72_1_N rfl rfl rfl (ov_len rfl rfl rfl underlying62 rfl hv18 hn19) ?_
  refine lj 2 R72_1_N rfl rfl rfl (opv_assign rfl rfl rfl) ?_
  refine aops_nil ?_
  refine ago_seqE (rfl : C72_4 = .seq C72_5 C72_6) ?_
  refine ago_regE (rfl : C72_5 = .region 2 R72_2 false) (l := [0, 1, 2, 3, 4, 5, 6, 7, 8]) rfl ?_
  refine lj 15 R72_2_N rfl rfl rfl (opv_move rfl rfl h0) ?_
  obtain ⟨hp20, H⟩ := H
  refine lj 16 R72_2_N rfl rfl rfl (ov_nck rfl rfl rfl hp20) ?_
  obtain ⟨b22, i23, p21, hp24, hv25, H⟩ := H
  refine lj 17 R72_2_N rfl rfl rfl (ov_fldA rfl rfl underlying77 rfl sz62 (by decide) rfl hp24 rfl hv25) ?_
  obtain ⟨b26, i27, x29, hp28, hg30, H⟩ := H
  refine lj 18 R72_2_N rfl rfl rfl (ov_ldV rfl underlying62 rfl rfl rfl hp28 hg30) ?_
  refine lj 19 R72_2_N rfl rfl rfl (opv_move rfl rfl rfl) ?_
  refine lj 20 R72_2_N rfl rfl rfl (opv_sub rfl rfl rfl rfl rfl) ?_
  obtain ⟨b32, i33, l34, c35, p31, hp36, h037, hj38, hv39, H⟩ := H
  refine lj 21 R72_2_N rfl rfl rfl (ov_ixS rfl rfl rfl underlying62 sz26 rfl rfl hp36 h037 hj38 hv39) ?_
  obtain ⟨b40, i41, x43, hp42, hg44, H⟩ := H
  refine lj 22 R72_2_N rfl rfl rfl (ov_ldI rfl underlying26 rfl rfl hp42 hg44) ?_
  refine lj 3 R72_2_N rfl rfl rfl (opv_assign rfl rfl rfl) ?_
  refine aops_nil ?_
  refine ago_seqE (rfl : C72_6 = .seq C72_7 C72_8) ?_
  refine ago_cut (fun ρ => ρ 0 = m_0 ∧ ρ 2 = .int .i64 n14 ∧ ρ 3 = .int .u64 x43 ∧ True) ⟨h0, rfl, rfl, trivial⟩ (fun ρ ⟨h0, h2, h3, _⟩ => ?_)
  refine ago_regE (rfl : C72_7 = .region 3 R72_3 false) (l := [0, 1, 2, 3, 4, 5]) rfl ?_
  refine lj 23 R72_3_N rfl rfl rfl (opv_move rfl rfl h0) ?_
  obtain ⟨hp45, H⟩ := H
  refine lj 24 R72_3_N rfl rfl rfl (ov_nck rfl rfl rfl hp45) ?_
  obtain ⟨b47, i48, p46, hp49, hv50, H⟩ := H
  refine lj 25 R72_3_N rfl rfl rfl (ov_fldA rfl rfl underlying77 rfl sz50 (by decide) rfl hp49 rfl hv50) ?_
  obtain ⟨b51, i52, x54, hp53, hg55, H⟩ := H
  refine lj 26 R72_3_N rfl rfl rfl (ov_ldV rfl underlying50 rfl rfl rfl hp53 hg55) ?_
  refine lj 27 R72_3_N rfl rfl rfl (opv_move rfl rfl h3) ?_
  refine lc 28 R72_3_N rfl rfl rfl (opc_of rfl rfl is38 (ma_cons rfl (ma_cons rfl rfl))) H (fun _ _ h => ⟨rfl, h⟩) fun r56 aw57 H => ?_
  refine aops_nil ?_
  refine ago_blockE (rfl : C72_8 = .block 0 C72_9) ?_
  refine ago_seqE (rfl : C72_9 = .seq C72_10 C72_11) ?_
  refine ago_regE (rfl : C72_10 = .region 5 R72_5 false) (l := [0, 1]) rfl ?_
  refine lj 32 R72_5_N rfl rfl rfl (opv_eqI rfl rfl rfl rfl rfl) ?_
  refine lj 31 R72_5_N rfl rfl rfl (opv_assign rfl rfl rfl) ?_
  refine aops_nil ?_
  refine ago_condE  (rfl : C72_11 = .cond (.tmp 31) C72_12 C72_21) rfl rfl (fun hb58 => ?_) (fun hb58 => ?_)
  · exact (cnd_t H hb58).elim
  replace H := cnd_f H hb58
  refine ago_seqE (rfl : C72_21 = .seq C72_22 C72_23) ?_
  refine ago_regE (rfl : C72_22 = .region 10 R72_10 false) (l := [0, 1]) rfl ?_
  refine lj 64 R72_10_N rfl rfl rfl (opv_eqI rfl rfl rfl rfl rfl) ?_
  refine lj 63 R72_10_N rfl rfl rfl (opv_assign rfl rfl rfl) ?_
  refine aops_nil ?_
  refine ago_condE  (rfl : C72_23 = .cond (.tmp 63) C72_24 C72_35) rfl rfl (fun hb59 => ?_) (fun hb59 => ?_)
  · replace H := cnd_t H hb59
    refine ago_seqE (rfl : C72_24 = .seq C72_25 C72_26) ?_
    refine ago_regE (rfl : C72_25 = .region 11 R72_11 false) (l := [0, 1, 2, 3, 4]) rfl ?_
    refine lj 65 R72_11_N rfl rfl rfl (opv_move rfl rfl h0) ?_
    refine lj 66 R72_11_N rfl rfl rfl (opv_move rfl rfl h3) ?_
    refine lc 67 R72_11_N rfl rfl rfl (opc_of rfl rfl is70 (ma_cons rfl (ma_cons rfl (ma_cons rfl rfl)))) H (fun _ _ h => ⟨rfl, h⟩) fun r60 aw61 H => ?_
    refine lc 68 R72_11_N rfl rfl rfl (opc_of rfl rfl is73 (ma_cons rfl rfl)) H (fun _ _ h => ⟨rfl, h⟩) fun r62 aw63 H => ?_
    refine lj 5 R72_11_N rfl rfl rfl (opv_assign rfl rfl rfl) ?_
    refine aops_nil ?_
    refine ago_seqE (rfl : C72_26 = .seq C72_27 C72_28) ?_
    refine ago_cut (fun ρ => ρ 0 = m_0 ∧ ρ 2 = .int .i64 n14 ∧ ρ 5 = .int .i64 r62 ∧ True) ⟨h0, h2, rfl, trivial⟩ (fun ρ ⟨h0, h2, h5, _⟩ => ?_)
    refine ago_regE (rfl : C72_27 = .region 12 R72_12 false) (l := [0, 1, 2, 3, 4, 5, 6, 7, 8]) rfl ?_
    refine lj 69 R72_12_N rfl rfl rfl (opv_move rfl rfl h0) ?_
    obtain ⟨hp64, H⟩ := H
    refine lj 70 R72_12_N rfl rfl rfl (ov_nck rfl rfl rfl hp64) ?_
    obtain ⟨b66, i67, p65, hp68, hv69, H⟩ := H
    refine lj 71 R72_12_N rfl rfl rfl (ov_fldA rfl rfl underlying77 rfl sz62 (by decide) rfl hp68 rfl hv69) ?_
    obtain ⟨b70, i71, x73, hp72, hg74, H⟩ := H
    refine lj 72 R72_12_N rfl rfl rfl (ov_ldV rfl underlying62 rfl rfl rfl hp72 hg74) ?_
    refine lj 73 R72_12_N rfl rfl rfl (opv_move rfl rfl h2) ?_
    refine lj 74 R72_12_N rfl rfl rfl (opv_sub rfl rfl rfl rfl rfl) ?_
    obtain ⟨b76, i77, l78, c79, p75, hp80, h081, hj82, hv83, H⟩ := H
    refine lj 75 R72_12_N rfl rfl rfl (ov_ixS rfl rfl rfl underlying62 sz26 rfl rfl hp80 h081 hj82 hv83) ?_
    obtain ⟨b84, i85, x87, hp86, hg88, H⟩ := H
    refine lj 76 R72_12_N rfl rfl rfl (ov_ldI rfl underlying26 rfl rfl hp86 hg88) ?_
    refine lj 6 R72_12_N rfl rfl rfl (opv_assign rfl rfl rfl) ?_
    refine aops_nil ?_
    refine ago_seqE (rfl : C72_28 = .seq C72_29 C72_30) ?_
    refine ago_regE (rfl : C72_29 = .region 13 R72_13 false) (l := [0, 1, 2, 3]) rfl ?_
    refine lj 77 R72_13_N rfl rfl rfl (opv_move rfl rfl h0) ?_
    refine lj 78 R72_13_N rfl rfl rfl (opv_move rfl rfl h5) ?_
    refine lj 79 R72_13_N rfl rfl rfl (opv_move rfl rfl rfl) ?_
    refine lc 80 R72_13_N rfl rfl rfl (opc_of rfl rfl is82 (ma_cons rfl (ma_cons rfl (ma_cons rfl rfl)))) H (fun _ _ h => ⟨rfl, h⟩) fun r89 aw90 H => ?_
    refine aops_nil ?_
    refine ago_seqE (rfl : C72_30 = .seq C72_31 C72_32) ?_
    refine ago_cut (fun ρ => ρ 0 = m_0 ∧ ρ 2 = .int .i64 n14 ∧ True) ⟨h0, h2, trivial⟩ (fun ρ ⟨h0, h2, _⟩ => ?_)
    refine ago_regE (rfl : C72_31 = .region 14 R72_14 false) (l := [0, 1, 2]) rfl ?_
    refine lj 81 R72_14_N rfl rfl rfl (opv_move rfl rfl h0) ?_
    refine lc 82 R72_14_N rfl rfl rfl (opc_of rfl rfl is37 (ma_cons rfl rfl)) H (fun _ _ h => ⟨rfl, h⟩) fun r91 aw92 H => ?_
    refine lj 7 R72_14_N rfl rfl rfl (opv_assign rfl rfl rfl) ?_
    refine aops_nil ?_
    refine ago_seqE (rfl : C72_32 = .seq C72_33 C72_34) ?_
    refine ago_regE (rfl : C72_33 = .region 15 R72_15 false) (l := [0, 1, 2, 3, 4, 5, 6, 7, 8]) rfl ?_
    refine lj 83 R72_15_N rfl rfl rfl (opv_move rfl rfl h0) ?_
    obtain ⟨hp93, H⟩ := H
    refine lj 84 R72_15_N rfl rfl rfl (ov_nck rfl rfl rfl hp93) ?_
    obtain ⟨b95, i96, p94, hp97, hv98, H⟩ := H
    refine lj 85 R72_15_N rfl rfl rfl (ov_fldA rfl rfl underlying77 rfl sz62 (by decide) rfl hp97 rfl hv98) ?_
    obtain ⟨b99, i100, x102, hp101, hg103, H⟩ := H
    refine lj 86 R72_15_N rfl rfl rfl (ov_ldV rfl underlying62 rfl rfl rfl hp101 hg103) ?_
    refine lj 87 R72_15_N rfl rfl rfl (opv_move rfl rfl h2) ?_
    refine lj 88 R72_15_N rfl rfl rfl (opv_sub rfl rfl rfl rfl rfl) ?_
    refine lj 89 R72_15_N rfl rfl rfl (opv_move rfl rfl rfl) ?_
    obtain ⟨b105, i106, l107, c108, p104, hp109, h0110, hj111, hv112, H⟩ := H
    refine lj 90 R72_15_N rfl rfl rfl (ov_ixS rfl rfl rfl underlying62 sz26 rfl rfl hp109 h0110 hj111 hv112) ?_
    obtain ⟨b114, i115, aw113, hp116, hw117, ho118, ha119, H⟩ := H
    refine lk (dt := none) R72_15_N rfl rfl rfl (ov_st rfl rfl rfl rfl rfl rfl sz26 hp116 hw117 ho118 ha119) ?_
    refine aops_nil ?_
    refine ago_cut (fun ρ => ρ 0 = m_0 ∧ ρ 2 = .int .i64 n14 ∧ True) ⟨h0, h2, trivial⟩ (fun ρ ⟨h0, h2, _⟩ => ?_)
    refine ago_regE (rfl : C72_34 = .region 16 R72_16 false) (l := [0, 1, 2, 3, 4, 5, 6, 7, 8, 9, 10]) rfl ?_
    refine lj 91 R72_16_N rfl rfl rfl (opv_move rfl rfl h0) ?_
    refine lj 92 R72_16_N rfl rfl rfl (opv_move rfl rfl h0) ?_
    obtain ⟨hp120, H⟩ := H
    refine lj 93 R72_16_N rfl rfl rfl (ov_nck rfl rfl rfl hp120) ?_
    obtain ⟨b122, i123, p121, hp124, hv125, H⟩ := H
    refine lj 94 R72_16_N rfl rfl rfl (ov_fldA rfl rfl underlying77 rfl sz62 (by decide) rfl hp124 rfl hv125) ?_
    obtain ⟨b126, i127, x129, hp128, hg130, H⟩ := H
    refine lj 95 R72_16_N rfl rfl rfl (ov_ldV rfl underlying62 rfl rfl rfl hp128 hg130) ?_
    refine lj 96 R72_16_N rfl rfl rfl (opv_move rfl rfl h2) ?_
    refine lj 97 R72_16_N rfl rfl rfl (opv_sub rfl rfl rfl rfl rfl) ?_
    obtain ⟨v131, hq132, H⟩ := H
    refine lj 98 R72_16_N rfl rfl rfl (ov_cutV rfl rfl underlying62 sz26 rfl (bndN _ _ _) (bndS rfl) hq132) ?_
    obtain ⟨hp133, H⟩ := H
    refine lj 99 R72_16_N rfl rfl rfl (ov_nck rfl rfl rfl hp133) ?_
    obtain ⟨b135, i136, p134, hp137, hv138, H⟩ := H
    refine lj 100 R72_16_N rfl rfl rfl (ov_fldA rfl rfl underlying77 rfl sz62 (by decide) rfl hp137 rfl hv138) ?_
    obtain ⟨b140, i141, aw139, hp142, hw143, ho144, ha145, H⟩ := H
    refine lk (dt := none) R72_16_N rfl rfl rfl (ov_st rfl rfl rfl rfl rfl (cells_all ho144) sz62 hp142 hw143 ho144 ha145) ?_
    refine aops_nil ?_
    refine ago_inBlock ?_
    exact ago_nilR (r := ()) (ares_0 rfl ) rfl H
  exact (cnd_f H hb59).elim
theorem F72_ok {Q : Unit → AW → Prop} {E : List PanicEntry → AW → Prop} (m_0 : Value) (aw : AW) (H : S72_0 Q E m_0 aw) : CallP prog 72 [m_0] aw sh72 Q E :=
  callP_of func72 C72_is rfl (Nat.le_of_ble_eq_true rfl) (S72_0_ok Q E _ m_0 aw rfl H)
def C81_0 := bodyOf f81
theorem C81_is : f81.body = some C81_0 := by kernel_rfl
def C81_1 := cl C81_0
def C81_2 := cl C81_1
def R81_0 := regOps C81_2
def C81_3 := cr C81_1
def C81_4 := cl C81_3
def R81_1 := regOps C81_4
def C81_5 := cr C81_3
def C81_6 := cr C81_0
def R81_2 := regOps C81_6
theorem R81_0_N : dstsOk 16 R81_0 = true := by decide +kernel
theorem R81_1_N : dstsOk 16 R81_1 = true := by decide +kernel
theorem R81_2_N : dstsOk 16 R81_2 = true := by decide +kernel
def S81_0 (Q : Unit → AW → Prop) (E : List PanicEntry → AW → Prop)  (m_0 : Value) (aw : AW) : Prop :=
  nck m_0 (fldA m_0 6 fun p2 =>
  ldI .i64 aw p2 fun x10 =>
  cnd (decide (x10 = 0)) (E [⟨(.iface 114 (.agg #[.int .i64 10])), false, false⟩] aw) (nck m_0 (fldA m_0 6 fun p14 =>
  ldI .i64 aw p14 fun x22 =>
  nck m_0 (fldA m_0 6 fun p25 =>
  st aw p25 [.int .i64 (IntKind.i64.wrap (x22 - 1))] fun aw30 =>
  Q () aw30))))
theorem S81_0_ok (Q : Unit → AW → Prop) (E : List PanicEntry → AW → Prop)  (ρ : Env) (m_0 : Value) (aw : AW) (h0 : ρ 0 = m_0) (H : S81_0 Q E  m_0 aw) :
    AGo prog 16 [.code C81_0] ρ [] aw (RR prog f81 16 sh81 Q E) := by
  unfold S81_0 at H
  refine ago_seqE (rfl : C81_0 = .seq C81_1 C81_6) ?_
  refine ago_seqE (rfl : C81_1 = .seq C81_2 C81_3) ?_
  refine ago_regE (rfl : C81_2 = .region 0 R81_0 false) (l := [0, 1, 2, 3, 4]) rfl ?_
  refine lj 2 R81_0_N rfl rfl rfl (opv_move rfl rfl h0) ?_
  obtain ⟨hp1, H⟩ := H
  refine lj 3 R81_0_N rfl rfl rfl (ov_nck rfl rfl rfl hp1) ?_
  obtain ⟨b3, i4, p2, hp5, hv6, H⟩ := H
  refine lj 4 R81_0_N rfl rfl rfl (ov_fldA rfl rfl underlying77 rfl sz3 (by decide) rfl hp5 rfl hv6) ?_
  obtain ⟨b7, i8, x10, hp9, hg11, H⟩ := H
  refine lj 5 R81_0_N rfl rfl rfl (ov_ldI rfl underlying3 rfl rfl hp9 hg11) ?_
  refine lj 6 R81_0_N rfl rfl rfl (opv_eqI rfl rfl rfl rfl rfl) ?_
  refine aops_nil ?_
  refine ago_condE  (rfl : C81_3 = .cond (.tmp 6) C81_4 C81_5) rfl rfl (fun hb12 => ?_) (fun hb12 => ?_)
  · replace H := cnd_t H hb12
    refine ago_regE (rfl : C81_4 = .region 1 R81_1 false) (l := [0, 1, 2]) rfl ?_
    refine lj 7 R81_1_N rfl rfl rfl (ov_bld (r := [.int .i64 10]) rfl rfl bo114 (mp_cons rfl rfl) (fillP rfl rfl rfl rfl (fillN rfl))) ?_
    refine lj 8 R81_1_N rfl rfl rfl (opv_mkIface rfl rfl underlying114 rfl rfl) ?_
    exact aops_panic R81_1_N rfl rfl (opp_panic rfl rfl rfl) ⟨rfl, H⟩
  replace H := cnd_f H hb12
  refine ago_skipE (rfl : C81_5 = .skip) ?_
  refine ago_regE (rfl : C81_6 = .region 2 R81_2 false) (l := [0, 1, 2, 3, 4, 5, 6, 7]) rfl ?_
  refine lj 9 R81_2_N rfl rfl rfl (opv_move rfl rfl h0) ?_
  obtain ⟨hp13, H⟩ := H
  refine lj 10 R81_2_N rfl rfl rfl (ov_nck rfl rfl rfl hp13) ?_
  obtain ⟨b15, i16, p14, hp17, hv18, H⟩ := H
  refine lj 11 R81_2_N rfl rfl rfl (ov_fldA rfl rfl underlying77 rfl sz3 (by decide) rfl hp17 rfl hv18) ?_
  obtain ⟨b19, i20, x22, hp21, hg23, H⟩ := H
  refine lj 12 R81_2_N rfl rfl rfl (ov_ldI rfl underlying3 rfl rfl hp21 hg23) ?_
  refine lj 13 R81_2_N rfl rfl rfl (opv_sub rfl rfl rfl rfl rfl) ?_
  obtain ⟨hp24, H⟩ := H
  refine lj 14 R81_2_N rfl rfl rfl (ov_nck rfl rfl rfl hp24) ?_
  obtain ⟨b26, i27, p25, hp28, hv29, H⟩ := H
  refine lj 15 R81_2_N rfl rfl rfl (ov_fldA rfl rfl underlying77 rfl sz3 (by decide) rfl hp28 rfl hv29) ?_
  obtain ⟨b31, i32, aw30, hp33, hw34, ho35, ha36, H⟩ := H
  refine lk (dt := none) R81_2_N rfl rfl rfl (ov_st rfl rfl rfl rfl rfl rfl sz3 hp33 hw34 ho35 ha36) ?_
  refine aops_nil ?_
  exact ago_nilR (r := ()) (ares_0 rfl ) rfl H
theorem F81_ok {Q : Unit → AW → Prop} {E : List PanicEntry → AW → Prop} (m_0 : Value) (aw : AW) (H : S81_0 Q E m_0 aw) : CallP prog 81 [m_0] aw sh81 Q E :=
  callP_of func81 C81_is rfl (Nat.le_of_ble_eq_true rfl) (S81_0_ok Q E _ m_0 aw rfl H)
def C82_0 := bodyOf f82
theorem C82_is : f82.body = some C82_0 := by kernel_rfl
def C82_1 := cl C82_0
def R82_0 := regOps C82_1
def C82_2 := cr C82_0
def C82_3 := cl C82_2
def C82_4 := cl C82_3
def R82_2 := regOps C82_4
def C82_5 := cr C82_3
def C82_6 := cl C82_5
def C82_7 := cr C82_5
def C82_8 := cl C82_7
def R82_4 := regOps C82_8
def C82_9 := cr C82_7
def C82_10 := cl C82_9
def R82_5 := regOps C82_10
def C82_11 := cr C82_9
theorem R82_0_N : dstsOk 114 R82_0 = true := by decide +kernel
theorem R82_2_N : dstsOk 114 R82_2 = true := by decide +kernel
theorem R82_4_N : dstsOk 114 R82_4 = true := by decide +kernel
theorem R82_5_N : dstsOk 114 R82_5 = true := by decide +kernel
def S82_0 (Q : Unit → AW → Prop) (E : List PanicEntry → AW → Prop)  (m_0 : Value) (k_1 : Int) (x_2 : Int) (aw : AW) : Prop :=
  cnd (decide (k_1 = 0)) (False) (cnd (decide (k_1 = 1)) (CallP prog 73 [.int .u64 x_2] aw sh73 (fun r150 aw151 =>
  CallP prog 87 [.int .i64 r150, .int .i64 10] aw151 sh87 (fun r152 aw153 =>
  CallP prog 69 [m_0, .string r152] aw153 sh69 (fun r154 aw155 =>
  Q () aw155) E) E) E) (False))
theorem S82_0_ok (Q : Unit → AW → Prop) (E : List PanicEntry → AW → Prop)  (ρ : Env) (m_0 : Value) (k_1 : Int) (x_2 : Int) (aw : AW) (h0 : ρ 0 = m_0) (h1 : ρ 1 = .int .i64 k_1) (h2 : ρ 2 = .int .u64 x_2) (H : S82_0 Q E  m_0 k_1 x_2 aw) :
    AGo prog 114 [.code C82_0] ρ [] aw (RR prog f82 114 sh82 Q E) := by
  unfold S82_0 at H
  refine ago_seqE (rfl : C82_0 = .seq C82_1 C82_2) ?_
  refine ago_regE (rfl : C82_1 = .region 0 R82_0 false) (l := [0]) rfl ?_
  refine lj 7 R82_0_N rfl rfl rfl (opv_move rfl rfl h1) ?_
  refine aops_nil ?_
  refine ago_blockE (rfl : C82_2 = .block 0 C82_3) ?_
  refine ago_seqE (rfl : C82_3 = .seq C82_4 C82_5) ?_
  refine ago_regE (rfl : C82_4 = .region 2 R82_2 false) (l := [0, 1]) rfl ?_
  refine lj 11 R82_2_N rfl rfl rfl (opv_eqI rfl rfl rfl rfl rfl) ?_
  refine lj 10 R82_2_N rfl rfl rfl (opv_assign rfl rfl rfl) ?_
  refine aops_nil ?_
  refine ago_condE  (rfl : C82_5 = .cond (.tmp 10) C82_6 C82_7) rfl rfl (fun hb148 => ?_) (fun hb148 => ?_)
  · exact (cnd_t H hb148).elim
  replace H := cnd_f H hb148
  refine ago_seqE (rfl : C82_7 = .seq C82_8 C82_9) ?_
  refine ago_regE (rfl : C82_8 = .region 4 R82_4 false) (l := [0, 1]) rfl ?_
  refine lj 21 R82_4_N rfl rfl rfl (opv_eqI rfl rfl rfl rfl rfl) ?_
  refine lj 20 R82_4_N rfl rfl rfl (opv_assign rfl rfl rfl) ?_
  refine aops_nil ?_
  refine ago_condE  (rfl : C82_9 = .cond (.tmp 20) C82_10 C82_11) rfl rfl (fun hb149 => ?_) (fun hb149 => ?_)
  · replace H := cnd_t H hb149
    refine ago_regE (rfl : C82_10 = .region 5 R82_5 false) (l := [0, 1, 2, 3, 4]) rfl ?_
    refine lj 22 R82_5_N rfl rfl rfl (opv_move rfl rfl h0) ?_
    refine lj 23 R82_5_N rfl rfl rfl (opv_move rfl rfl h2) ?_
    refine lc 24 R82_5_N rfl rfl rfl (opc_of rfl rfl is73 (ma_cons rfl rfl)) H (fun _ _ h => ⟨rfl, h⟩) fun r150 aw151 H => ?_
    refine lc 25 R82_5_N rfl rfl rfl (opc_of rfl rfl is87 (ma_cons rfl (ma_cons rfl rfl))) H (fun _ _ h => ⟨rfl, h⟩) fun r152 aw153 H => ?_
    refine lc 26 R82_5_N rfl rfl rfl (opc_of rfl rfl is69 (ma_cons rfl (ma_cons rfl rfl))) H (fun _ _ h => ⟨rfl, h⟩) fun r154 aw155 H => ?_
    refine aops_nil ?_
    refine ago_inBlock ?_
    exact ago_nilR (r := ()) (ares_0 rfl ) rfl H
  exact (cnd_f H hb149).elim
theorem F82_ok {Q : Unit → AW → Prop} {E : List PanicEntry → AW → Prop} (m_0 : Value) (k_1 : Int) (x_2 : Int) (aw : AW) (H : S82_0 Q E m_0 k_1 x_2 aw) : CallP prog 82 [m_0, .int .i64 k_1, .int .u64 x_2] aw sh82 Q E :=
  callP_of func82 C82_is rfl (Nat.le_of_ble_eq_true rfl) (S82_0_ok Q E _ m_0 k_1 x_2 aw rfl rfl rfl H)
end
end Go.Proofs.Tryd
