/- Printed by a program of the prover: what the Go functions of this seat do, in steps. -/
import Derived.Test.YtfgihmgeplcfoaaGreatDoorNaF
import Derived.Test.YtfgihmgeplcfoaaGreatDoorNaA
import Derived.Test.YtfgihmgeplcfoaaGreatDoorNaW
set_option linter.unusedSectionVars false
set_option linter.unusedSimpArgs false
set_option linter.unusedVariables false
namespace Go.Proofs.Tryz
open Go Go.Am Go.RowKit
set_option maxHeartbeats 4000000
set_option maxRecDepth 100000
noncomputable section
variable [SymE]
def C6_0 := bodyOf f6
theorem C6_is : f6.body = some C6_0 := by kernel_rfl
def C6_1 := cl C6_0
def R6_0 := regOps C6_1
def C6_2 := cr C6_0
def C6_3 := cl C6_2
def R6_1 := regOps C6_3
def C6_4 := cr C6_2
def C6_5 := cl C6_4
def R6_2 := regOps C6_5
def C6_6 := cr C6_4
def C6_7 := cl C6_6
def C6_8 := cl C6_7
def R6_3 := regOps C6_8
def C6_9 := cr C6_7
def C6_10 := cl C6_9
def C6_11 := cl C6_10
def C6_12 := cl C6_11
def R6_4 := regOps C6_12
def C6_13 := cr C6_11
def C6_14 := cl C6_13
def C6_15 := cl C6_14
def C6_16 := cr C6_14
def C6_17 := cr C6_13
def C6_18 := cl C6_17
def C6_19 := cl C6_18
def C6_20 := cl C6_19
def R6_5 := regOps C6_20
def C6_21 := cr C6_19
def R6_6 := regOps C6_21
def C6_22 := cr C6_17
def R6_7 := regOps C6_22
def C6_23 := cr C6_6
def C6_24 := cl C6_23
def R6_8 := regOps C6_24
def C6_25 := cr C6_23
def C6_26 := cl C6_25
def C6_27 := cl C6_26
def R6_9 := regOps C6_27
def C6_28 := cr C6_26
def C6_29 := cl C6_28
def C6_30 := cl C6_29
def C6_31 := cl C6_30
def R6_10 := regOps C6_31
def C6_32 := cr C6_30
def C6_33 := cl C6_32
def C6_34 := cl C6_33
def C6_35 := cr C6_33
def C6_36 := cr C6_32
def C6_37 := cl C6_36
def C6_38 := cl C6_37
def C6_39 := cl C6_38
def R6_11 := regOps C6_39
def C6_40 := cr C6_38
def C6_41 := cl C6_40
def C6_42 := cl C6_41
def R6_12 := regOps C6_42
def C6_43 := cr C6_41
def C6_44 := cl C6_43
def R6_13 := regOps C6_44
def C6_45 := cr C6_43
def R6_14 := regOps C6_45
def C6_46 := cr C6_40
def R6_15 := regOps C6_46
def C6_47 := cr C6_36
def R6_16 := regOps C6_47
def C6_48 := cr C6_25
def C6_49 := cl C6_48
def R6_17 := regOps C6_49
def C6_50 := cr C6_48
theorem R6_0_N : dstsOk 72 R6_0 = true := by decide +kernel
theorem R6_1_N : dstsOk 72 R6_1 = true := by decide +kernel
theorem R6_2_N : dstsOk 72 R6_2 = true := by decide +kernel
theorem R6_2_O : linOk R6_2 [0, 1, 2, 4, 5, 7, 8, 10, 11, 12, 13] [(3, [4, 5, 7, 8, 10, 11, 12, 13], []), (6, [7, 8, 10, 11, 12, 13], []), (9, [10, 11, 12, 13], []), (14, [], [])] = true := by decide +kernel
theorem R6_3_N : dstsOk 72 R6_3 = true := by decide +kernel
theorem R6_4_N : dstsOk 72 R6_4 = true := by decide +kernel
theorem R6_5_N : dstsOk 72 R6_5 = true := by decide +kernel
theorem R6_6_N : dstsOk 72 R6_6 = true := by decide +kernel
theorem R6_6_O : linOk R6_6 [0, 1, 2, 4, 5, 7, 8] [(3, [4, 5, 7, 8], []), (6, [7, 8], []), (9, [], [])] = true := by decide +kernel
theorem R6_7_N : dstsOk 72 R6_7 = true := by decide +kernel
theorem R6_8_N : dstsOk 72 R6_8 = true := by decide +kernel
theorem R6_8_O : linOk R6_8 [0, 1, 2, 4, 5, 6, 7] [(3, [4, 5, 6, 7], []), (8, [], [])] = true := by decide +kernel
theorem R6_9_N : dstsOk 72 R6_9 = true := by decide +kernel
theorem R6_10_N : dstsOk 72 R6_10 = true := by decide +kernel
theorem R6_11_N : dstsOk 72 R6_11 = true := by decide +kernel
theorem R6_12_N : dstsOk 72 R6_12 = true := by decide +kernel
theorem R6_13_N : dstsOk 72 R6_13 = true := by decide +kernel
theorem R6_14_N : dstsOk 72 R6_14 = true := by decide +kernel
theorem R6_15_N : dstsOk 72 R6_15 = true := by decide +kernel
theorem R6_16_N : dstsOk 72 R6_16 = true := by decide +kernel
theorem R6_17_N : dstsOk 72 R6_17 = true := by decide +kernel
def S6_3 (Q : Value → AW → Prop) (E : List PanicEntry → AW → Prop) (nx2 : Value → Value → Int → Int → AW → Prop) (w_3 : Value) (m_7 : Value) (t_53 : Value) (t_54 : Int) (t_55 : Int) (aw : AW) : Prop :=
  fldA m_7 1 fun p1 =>
  ldI .i64 aw p1 fun x9 =>
  CallP prog 13 [w_3, .int .i64 x9] aw sh13 (fun r11 aw12 =>
  nx2 w_3 t_53 t_54 (IntKind.i64.wrap (t_55 + 1)) aw12) E
def S6_2s (Q : Value → AW → Prop) (E : List PanicEntry → AW → Prop)  (nx2 : Value → Value → Int → Int → AW → Prop) (w_3 : Value) (t_53 : Value) (t_54 : Int) (t_55 : Int) (aw : AW) : Prop :=
  cnd (decide (t_55 < t_54)) (ixS t_53 t_55 2 fun p14 =>
  ptr p14 fun b23 i24 =>
  gB aw b23 i24 fun c26 =>
  gI .i64 aw b23 (i24 + 1) fun c27 =>
  alc aw [.bool false, .int .i64 0] 52 0 fun p30 aw31 =>
  st aw31 p30 [.bool c26, .int .i64 c27] fun aw34 =>
  fldA p30 0 fun p41 =>
  ldB aw34 p41 fun x49 =>
  cnd x49 (CallP prog 15 [w_3, .int .u64 1] aw34 sh15 (fun r52 aw53 =>
  S6_3 Q E nx2 w_3 p30 t_53 t_54 t_55 aw53) E) (CallP prog 15 [w_3, .int .u64 0] aw34 sh15 (fun r54 aw55 =>
  S6_3 Q E nx2 w_3 p30 t_53 t_54 t_55 aw55) E)) (CallP prog 16 [w_3] aw sh16 (fun r56 aw57 =>
  Q r56 aw57) E)
def S6_2 (Q : Value → AW → Prop) (E : List PanicEntry → AW → Prop)  : Nat → Value → Value → Int → Int → AW → Prop
  | 0 => fun _ _ _ _ _ => False
  | n + 1 => S6_2s Q E  (S6_2 Q E  n)
def S6_1s (Q : Value → AW → Prop) (E : List PanicEntry → AW → Prop)  (nx1 : Value → Value → Value → Int → Int → AW → Prop) (o_1 : Value) (w_3 : Value) (t_26 : Value) (t_27 : Int) (t_28 : Int) (aw : AW) : Prop :=
  cnd (decide (t_28 < t_27)) (ixS t_26 t_28 3 fun p59 =>
  ptr p59 fun b68 i69 =>
  gS aw b68 i69 fun c71 =>
  gS aw b68 (i69 + 1) fun c72 =>
  gS aw b68 (i69 + 2) fun c73 =>
  alc aw [.string (⟨#[]⟩ : ByteArray), .string (⟨#[]⟩ : ByteArray), .string (⟨#[]⟩ : ByteArray)] 29 0 fun p77 aw78 =>
  st aw78 p77 [.string c71, .string c72, .string c73] fun aw81 =>
  fldA p77 0 fun p88 =>
  ldS aw81 p88 fun x96 =>
  fldA p77 1 fun p98 =>
  ldS aw81 p98 fun x106 =>
  fldA p77 2 fun p108 =>
  ldS aw81 p108 fun x116 =>
  CallP prog 14 [w_3, .string x96] aw81 sh14 (fun r118 aw119 =>
  again1 aw119 p98 (.string x106) ∧ again1 aw119 p108 (.string x116) ∧ CallP prog 14 [r118, .string x106] aw119 sh14 (fun r120 aw121 =>
  again1 aw121 p108 (.string x116) ∧ CallP prog 14 [r120, .string x116] aw121 sh14 (fun r122 aw123 =>
  nx1 o_1 w_3 t_26 t_27 (IntKind.i64.wrap (t_28 + 1)) aw123) E) E) E) (fldA o_1 4 fun p124 =>
  ldS aw p124 fun x132 =>
  fldA o_1 5 fun p134 =>
  ldV aw p134 fun x142 =>
  slen x142 fun n144 =>
  CallP prog 14 [w_3, .string x132] aw sh14 (fun r150 aw151 =>
  again1 aw151 p134 (x142) ∧ CallP prog 15 [r150, .int .u64 (IntKind.u64.wrap n144)] aw151 sh15 (fun r152 aw153 =>
  fldA o_1 5 fun p154 =>
  ldV aw153 p154 fun x162 =>
  slen x162 fun n164 =>
  ∃ n, S6_2 Q E  n w_3 x162 n164 0 aw153) E) E)
def S6_1 (Q : Value → AW → Prop) (E : List PanicEntry → AW → Prop)  : Nat → Value → Value → Value → Int → Int → AW → Prop
  | 0 => fun _ _ _ _ _ _ => False
  | n + 1 => S6_1s Q E  (S6_1 Q E  n)
def S6_0 (Q : Value → AW → Prop) (E : List PanicEntry → AW → Prop)  (o_0_0 : Int) (o_0_1 : Int) (o_0_2 : ByteArray) (o_0_3 : Value) (o_0_4 : ByteArray) (o_0_5 : Value) (aw : AW) : Prop :=
  alc aw [.int .i64 o_0_0, .int .i64 o_0_1, .string o_0_2, o_0_3, .string o_0_4, o_0_5] 26 0 fun p170 aw171 =>
  alc aw171 [(.slice none 0 0)] 47 0 fun p174 aw175 =>
  fldA p170 0 fun p178 =>
  ldI .i64 aw175 p178 fun x186 =>
  fldA p170 1 fun p188 =>
  ldI .i64 aw175 p188 fun x196 =>
  fldA p170 2 fun p198 =>
  ldS aw175 p198 fun x206 =>
  fldA p170 3 fun p208 =>
  ldV aw175 p208 fun x216 =>
  slen x216 fun n218 =>
  CallP prog 13 [p174, .int .i64 x186] aw175 sh13 (fun r224 aw225 =>
  again1 aw225 p188 (.int .i64 x196) ∧ again1 aw225 p198 (.string x206) ∧ again1 aw225 p208 (x216) ∧ CallP prog 13 [r224, .int .i64 x196] aw225 sh13 (fun r226 aw227 =>
  again1 aw227 p198 (.string x206) ∧ again1 aw227 p208 (x216) ∧ CallP prog 14 [r226, .string x206] aw227 sh14 (fun r228 aw229 =>
  again1 aw229 p208 (x216) ∧ CallP prog 15 [r228, .int .u64 (IntKind.u64.wrap n218)] aw229 sh15 (fun r230 aw231 =>
  fldA p170 3 fun p232 =>
  ldV aw231 p232 fun x240 =>
  slen x240 fun n242 =>
  ∃ n, S6_1 Q E  n p170 p174 x240 n242 0 aw231) E) E) E) E
theorem S6_3_ok (Q : Value → AW → Prop) (E : List PanicEntry → AW → Prop) (nx2 : Value → Value → Int → Int → AW → Prop) (L2 : ∀ (ρ : Env) (w_3 : Value) (t_53 : Value) (t_54 : Int) (t_55 : Int) (aw : AW) (h3 : ρ 3 = w_3) (h53 : ρ 53 = t_53) (h54 : ρ 54 = .int .i64 t_54) (h55 : ρ 55 = .int .i64 t_55), nx2 w_3 t_53 t_54 t_55 aw → AGo prog 72 [.code C6_30, .inLoop C6_30, .inBlock 2, .code C6_48] ρ [] aw (RR prog f6 72 sh6 Q E)) (ρ : Env) (w_3 : Value) (m_7 : Value) (t_53 : Value) (t_54 : Int) (t_55 : Int) (aw : AW) (h3 : ρ 3 = w_3) (h7 : ρ 7 = m_7) (h53 : ρ 53 = t_53) (h54 : ρ 54 = .int .i64 t_54) (h55 : ρ 55 = .int .i64 t_55) (H : S6_3 Q E nx2 w_3 m_7 t_53 t_54 t_55 aw) :
    AGo prog 72 [.code C6_46, .inBlock 3, .code C6_47, .inLoop C6_30, .inBlock 2, .code C6_48] ρ [] aw (RR prog f6 72 sh6 Q E) := by
  unfold S6_3 at H
  refine ago_regE (rfl : C6_46 = .region 15 R6_15 false) (l := [0, 1, 2, 3]) rfl ?_
  refine lj 65 R6_15_N rfl rfl rfl (opv_move rfl rfl h3) ?_
  obtain ⟨b2, i3, p1, hp4, hv5, H⟩ := H
  refine lj 66 R6_15_N rfl rfl rfl (ov_fldA rfl rfl underlying52 rfl sz2 (by decide) h7 hp4 rfl hv5) ?_
  obtain ⟨b6, i7, x9, hp8, hg10, H⟩ := H
  refine lj 67 R6_15_N rfl rfl rfl (ov_ldI rfl underlying2 rfl rfl hp8 hg10) ?_
  refine lc 68 R6_15_N rfl rfl rfl (opc_of rfl rfl is13 (ma_cons rfl (ma_cons rfl rfl))) H (fun _ _ h => ⟨rfl, h⟩) fun r11 aw12 H => ?_
  refine aops_nil ?_
  refine ago_inBlock ?_
  refine ago_regE (rfl : C6_47 = .region 16 R6_16 false) (l := [0, 1]) rfl ?_
  refine lj 69 R6_16_N rfl rfl rfl (opv_add rfl rfl rfl h55 rfl) ?_
  refine lj 55 R6_16_N rfl rfl rfl (opv_move rfl rfl rfl) ?_
  refine aops_nil ?_
  refine ago_inLoop ?_
  exact L2 _ w_3 t_53 t_54 (IntKind.i64.wrap (t_55 + 1)) aw12 h3 h53 h54 rfl H
theorem S6_2s_ok (Q : Value → AW → Prop) (E : List PanicEntry → AW → Prop)  (nx2 : Value → Value → Int → Int → AW → Prop) (L2 : ∀ (ρ : Env) (w_3 : Value) (t_53 : Value) (t_54 : Int) (t_55 : Int) (aw : AW) (h3 : ρ 3 = w_3) (h53 : ρ 53 = t_53) (h54 : ρ 54 = .int .i64 t_54) (h55 : ρ 55 = .int .i64 t_55), nx2 w_3 t_53 t_54 t_55 aw → AGo prog 72 [.code C6_30, .inLoop C6_30, .inBlock 2, .code C6_48] ρ [] aw (RR prog f6 72 sh6 Q E)) (ρ : Env) (w_3 : Value) (t_53 : Value) (t_54 : Int) (t_55 : Int) (aw : AW) (h3 : ρ 3 = w_3) (h53 : ρ 53 = t_53) (h54 : ρ 54 = .int .i64 t_54) (h55 : ρ 55 = .int .i64 t_55) (H : S6_2s Q E  nx2 w_3 t_53 t_54 t_55 aw) :
    AGo prog 72 [.code C6_30, .inLoop C6_30, .inBlock 2, .code C6_48] ρ [] aw (RR prog f6 72 sh6 Q E) := by
  unfold S6_2s at H
  refine ago_seqE (rfl : C6_30 = .seq C6_31 C6_32) ?_
  refine ago_regE (rfl : C6_31 = .region 10 R6_10 false) (l := [0]) rfl ?_
  refine lj 56 R6_10_N rfl rfl rfl (opv_lt rfl rfl rfl h55 h54) ?_
  refine aops_nil ?_
  refine ago_seqE (rfl : C6_32 = .seq C6_33 C6_36) ?_
  refine ago_condE  (rfl : C6_33 = .cond (.tmp 56) C6_34 C6_35) rfl rfl (fun hb13 => ?_) (fun hb13 => ?_)
  · replace H := cnd_t H hb13
    refine ago_skipE (rfl : C6_34 = .skip) ?_
    refine ago_seqE (rfl : C6_36 = .seq C6_37 C6_47) ?_
    refine ago_blockE (rfl : C6_37 = .block 3 C6_38) ?_
    refine ago_seqE (rfl : C6_38 = .seq C6_39 C6_40) ?_
    refine ago_regE (rfl : C6_39 = .region 11 R6_11 false) (l := [0, 1, 2, 3]) rfl ?_
    obtain ⟨b15, i16, l17, c18, p14, hp19, h020, hj21, hv22, H⟩ := H
    refine lj 57 R6_11_N rfl rfl rfl (ov_ixS rfl rfl rfl underlying24 sz52 h53 h55 hp19 h020 hj21 hv22) ?_
    obtain ⟨b23, i24, hp25, c26, hg28, c27, hg29, H⟩ := H
    refine lj 58 R6_11_N rfl rfl rfl (ov_ldN rfl underlying52 rfl sz52 rfl rfl hp25 (getN_cons hg28 (getN_cons hg29 getN_nil))) ?_
    obtain ⟨p30, aw31, hp32, ha33, H⟩ := H
    refine lj 7 R6_11_N rfl rfl rfl (ov_alloc rfl z52 rfl rfl hp32 ha33) ?_
    obtain ⟨b35, i36, aw34, hp37, hw38, ho39, ha40, H⟩ := H
    refine lk (dt := none) R6_11_N rfl rfl rfl (ov_st rfl rfl rfl rfl rfl rfl sz52 hp37 hw38 ho39 ha40) ?_
    refine aops_nil ?_
    refine ago_seqE (rfl : C6_40 = .seq C6_41 C6_46) ?_
    refine ago_seqE (rfl : C6_41 = .seq C6_42 C6_43) ?_
    refine ago_regE (rfl : C6_42 = .region 12 R6_12 false) (l := [0, 1]) rfl ?_
    obtain ⟨b42, i43, p41, hp44, hv45, H⟩ := H
    refine lj 59 R6_12_N rfl rfl rfl (ov_fldA rfl rfl underlying52 rfl sz4 (by decide) rfl hp44 rfl hv45) ?_
    obtain ⟨b46, i47, x49, hp48, hg50, H⟩ := H
    refine lj 60 R6_12_N rfl rfl rfl (ov_ldB rfl underlying4 rfl rfl hp48 hg50) ?_
    refine aops_nil ?_
    refine ago_condE  (rfl : C6_43 = .cond (.tmp 60) C6_44 C6_45) rfl rfl (fun hb51 => ?_) (fun hb51 => ?_)
    · replace H := cnd_t H hb51
      refine ago_regE (rfl : C6_44 = .region 13 R6_13 false) (l := [0, 1]) rfl ?_
      refine lj 61 R6_13_N rfl rfl rfl (opv_move rfl rfl h3) ?_
      refine lc 62 R6_13_N rfl rfl rfl (opc_of rfl rfl is15 (ma_cons rfl (ma_cons rfl rfl))) H (fun _ _ h => ⟨rfl, h⟩) fun r52 aw53 H => ?_
      refine aops_nil ?_
      exact S6_3_ok Q E nx2 L2 _ w_3 p30 t_53 t_54 t_55 aw53 h3 rfl h53 h54 h55 H
    replace H := cnd_f H hb51
    refine ago_regE (rfl : C6_45 = .region 14 R6_14 false) (l := [0, 1]) rfl ?_
    refine lj 63 R6_14_N rfl rfl rfl (opv_move rfl rfl h3) ?_
    refine lc 64 R6_14_N rfl rfl rfl (opc_of rfl rfl is15 (ma_cons rfl (ma_cons rfl rfl))) H (fun _ _ h => ⟨rfl, h⟩) fun r54 aw55 H => ?_
    refine aops_nil ?_
    exact S6_3_ok Q E nx2 L2 _ w_3 p30 t_53 t_54 t_55 aw55 h3 rfl h53 h54 h55 H
  replace H := cnd_f H hb13
  refine ago_exitE (rfl : C6_35 = .exit 2) rfl ?_
  refine ago_seqE (rfl : C6_48 = .seq C6_49 C6_50) ?_
  refine ago_regE (rfl : C6_49 = .region 17 R6_17 false) (l := [0, 1, 2]) rfl ?_
  refine lj 70 R6_17_N rfl rfl rfl (opv_move rfl rfl h3) ?_
  refine lc 71 R6_17_N rfl rfl rfl (opc_of rfl rfl is16 (ma_cons rfl rfl)) H (fun _ _ h => ⟨rfl, h⟩) fun r56 aw57 H => ?_
  refine lj 2 R6_17_N rfl rfl rfl (opv_assign rfl rfl rfl) ?_
  refine aops_nil ?_
  exact ago_retE (rfl : C6_50 = .ret) (r := r56) (ares_1 rfl (oneT rfl)) rfl H
theorem S6_2_ok (Q : Value → AW → Prop) (E : List PanicEntry → AW → Prop)  : ∀ (n : Nat) (ρ : Env) (w_3 : Value) (t_53 : Value) (t_54 : Int) (t_55 : Int) (aw : AW) (h3 : ρ 3 = w_3) (h53 : ρ 53 = t_53) (h54 : ρ 54 = .int .i64 t_54) (h55 : ρ 55 = .int .i64 t_55), S6_2 Q E  n w_3 t_53 t_54 t_55 aw →
    AGo prog 72 [.code C6_30, .inLoop C6_30, .inBlock 2, .code C6_48] ρ [] aw (RR prog f6 72 sh6 Q E)
  | 0, _, _, _, _, _, _, _, _, _, _ => fun H => H.elim
  | n + 1, ρ, w_3, t_53, t_54, t_55, aw, h3, h53, h54, h55 => fun H => S6_2s_ok Q E  _ (S6_2_ok Q E  n) ρ w_3 t_53 t_54 t_55 aw h3 h53 h54 h55 H
theorem S6_1s_ok (Q : Value → AW → Prop) (E : List PanicEntry → AW → Prop)  (nx1 : Value → Value → Value → Int → Int → AW → Prop) (L1 : ∀ (ρ : Env) (o_1 : Value) (w_3 : Value) (t_26 : Value) (t_27 : Int) (t_28 : Int) (aw : AW) (h1 : ρ 1 = o_1) (h3 : ρ 3 = w_3) (h26 : ρ 26 = t_26) (h27 : ρ 27 = .int .i64 t_27) (h28 : ρ 28 = .int .i64 t_28), nx1 o_1 w_3 t_26 t_27 t_28 aw → AGo prog 72 [.code C6_11, .inLoop C6_11, .inBlock 0, .code C6_23] ρ [] aw (RR prog f6 72 sh6 Q E)) (ρ : Env) (o_1 : Value) (w_3 : Value) (t_26 : Value) (t_27 : Int) (t_28 : Int) (aw : AW) (h1 : ρ 1 = o_1) (h3 : ρ 3 = w_3) (h26 : ρ 26 = t_26) (h27 : ρ 27 = .int .i64 t_27) (h28 : ρ 28 = .int .i64 t_28) (H : S6_1s Q E  nx1 o_1 w_3 t_26 t_27 t_28 aw) :
    AGo prog 72 [.code C6_11, .inLoop C6_11, .inBlock 0, .code C6_23] ρ [] aw (RR prog f6 72 sh6 Q E) := by
  unfold S6_1s at H
  refine ago_seqE (rfl : C6_11 = .seq C6_12 C6_13) ?_
  refine ago_regE (rfl : C6_12 = .region 4 R6_4 false) (l := [0]) rfl ?_
  refine lj 29 R6_4_N rfl rfl rfl (opv_lt rfl rfl rfl h28 h27) ?_
  refine aops_nil ?_
  refine ago_seqE (rfl : C6_13 = .seq C6_14 C6_17) ?_
  refine ago_condE  (rfl : C6_14 = .cond (.tmp 29) C6_15 C6_16) rfl rfl (fun hb58 => ?_) (fun hb58 => ?_)
  · replace H := cnd_t H hb58
    refine ago_skipE (rfl : C6_15 = .skip) ?_
    refine ago_seqE (rfl : C6_17 = .seq C6_18 C6_22) ?_
    refine ago_blockE (rfl : C6_18 = .block 1 C6_19) ?_
    refine ago_seqE (rfl : C6_19 = .seq C6_20 C6_21) ?_
    refine ago_regE (rfl : C6_20 = .region 5 R6_5 false) (l := [0, 1, 2, 3]) rfl ?_
    obtain ⟨b60, i61, l62, c63, p59, hp64, h065, hj66, hv67, H⟩ := H
    refine lj 30 R6_5_N rfl rfl rfl (ov_ixS rfl rfl rfl underlying23 sz29 h26 h28 hp64 h065 hj66 hv67) ?_
    obtain ⟨b68, i69, hp70, c71, hg74, c72, hg75, c73, hg76, H⟩ := H
    refine lj 31 R6_5_N rfl rfl rfl (ov_ldN rfl underlying29 rfl sz29 rfl rfl hp70 (getN_cons hg74 (getN_cons hg75 (getN_cons hg76 getN_nil)))) ?_
    obtain ⟨p77, aw78, hp79, ha80, H⟩ := H
    refine lj 5 R6_5_N rfl rfl rfl (ov_alloc rfl z29 rfl rfl hp79 ha80) ?_
    obtain ⟨b82, i83, aw81, hp84, hw85, ho86, ha87, H⟩ := H
    refine lk (dt := none) R6_5_N rfl rfl rfl (ov_st rfl rfl rfl rfl rfl rfl sz29 hp84 hw85 ho86 ha87) ?_
    refine aops_nil ?_
    obtain ⟨b89, i90, p88, hp91, hv92, H⟩ := H
    obtain ⟨b93, i94, x96, hp95, hg97, H⟩ := H
    obtain ⟨b99, i100, p98, hp101, hv102, H⟩ := H
    obtain ⟨b103, i104, x106, hp105, hg107, H⟩ := H
    obtain ⟨b109, i110, p108, hp111, hv112, H⟩ := H
    obtain ⟨b113, i114, x116, hp115, hg117, H⟩ := H
    refine ago_drawH (p := [0, 1, 2, 4, 5, 7, 8]) (tl := [(3, [4, 5, 7, 8], []), (6, [7, 8], []), (9, [], [])]) (hv := [(0, w_3), (1, p88), (2, Value.string x96), (4, p98), (5, Value.string x106), (7, p108), (8, Value.string x116)]) (rfl : C6_21 = .region 6 R6_6 true) mixed R6_6_N R6_6_O rfl (pv_cons rfl (pv_cons rfl (pv_cons rfl (pv_cons rfl (pv_cons rfl (pv_cons rfl (pv_cons rfl (pv_nil _))))))))
      (fc 32 w_3 (hd_v rfl fun ρ hρ => ⟨rfl, opv_move rfl rfl ((hρ 3 (lmem rfl)).trans h3)⟩) rfl rfl
      (fc 33 p88 (hd_v rfl fun ρ hρ => ⟨rfl, ov_fldA rfl rfl underlying29 rfl sz9 (by decide) ((hρ 5 (lmem rfl)).trans rfl) hp91 rfl hv92⟩) rfl rfl
      (fc 34 (.string x96) (hd_v rfl fun ρ hρ => ⟨rfl, ov_ldS rfl underlying9 rfl ((hρ 33 (lmem rfl)).trans rfl) hp95 hg97⟩) rfl rfl
      (fc 36 p98 (hd_v rfl fun ρ hρ => ⟨rfl, ov_fldA rfl rfl underlying29 rfl sz9 (by decide) ((hρ 5 (lmem rfl)).trans rfl) hp101 rfl hv102⟩) rfl rfl
      (fc 37 (.string x106) (hd_v rfl fun ρ hρ => ⟨rfl, ov_ldS rfl underlying9 rfl ((hρ 36 (lmem rfl)).trans rfl) hp105 hg107⟩) rfl rfl
      (fc 39 p108 (hd_v rfl fun ρ hρ => ⟨rfl, ov_fldA rfl rfl underlying29 rfl sz9 (by decide) ((hρ 5 (lmem rfl)).trans rfl) hp111 rfl hv112⟩) rfl rfl
      (fc 40 (.string x116) (hd_v rfl fun ρ hρ => ⟨rfl, ov_ldS rfl underlying9 rfl ((hρ 39 (lmem rfl)).trans rfl) hp115 hg117⟩) rfl rfl
      ffn))))))) ?_
    refine lt_call (dt := some 35) rfl rfl (fun ρ hρ => ⟨rfl, opc_of rfl rfl is14 (ma_cons ((hρ 32 (lmem rfl)).trans rfl) (ma_cons ((hρ 34 (lmem rfl)).trans rfl) rfl))⟩) H (fun _ _ h _ => ⟨rfl, h⟩) fun r118 aw119 H => ?_
    obtain ⟨hg107, H⟩ := H
    replace hg107 := hg107 _ _ hp105
    obtain ⟨hg117, H⟩ := H
    replace hg117 := hg117 _ _ hp115
    refine lt_next (l := [4, 5, 7, 8]) (hv := []) rfl rfl (pv_nil _)
      (fc 36 p98 (hd_v rfl fun ρ hρ => ⟨rfl, ov_fldA rfl rfl underlying29 rfl sz9 (by decide) ((hρ 5 (lmem rfl)).trans rfl) hp101 rfl hv102⟩) rfl rfl
      (fc 37 (.string x106) (hd_v rfl fun ρ hρ => ⟨rfl, ov_ldS rfl underlying9 rfl ((hρ 36 (lmem rfl)).trans rfl) hp105 hg107⟩) rfl rfl
      (fc 39 p108 (hd_v rfl fun ρ hρ => ⟨rfl, ov_fldA rfl rfl underlying29 rfl sz9 (by decide) ((hρ 5 (lmem rfl)).trans rfl) hp111 rfl hv112⟩) rfl rfl
      (fc 40 (.string x116) (hd_v rfl fun ρ hρ => ⟨rfl, ov_ldS rfl underlying9 rfl ((hρ 39 (lmem rfl)).trans rfl) hp115 hg117⟩) rfl rfl
      ffn)))) ?_
    refine lt_call (dt := some 38) rfl rfl (fun ρ hρ => ⟨rfl, opc_of rfl rfl is14 (ma_cons ((hρ 35 (lmem rfl)).trans rfl) (ma_cons ((hρ 37 (lmem rfl)).trans rfl) rfl))⟩) H (fun _ _ h _ => ⟨rfl, h⟩) fun r120 aw121 H => ?_
    obtain ⟨hg117, H⟩ := H
    replace hg117 := hg117 _ _ hp115
    refine lt_next (l := [7, 8]) (hv := []) rfl rfl (pv_nil _)
      (fc 39 p108 (hd_v rfl fun ρ hρ => ⟨rfl, ov_fldA rfl rfl underlying29 rfl sz9 (by decide) ((hρ 5 (lmem rfl)).trans rfl) hp111 rfl hv112⟩) rfl rfl
      (fc 40 (.string x116) (hd_v rfl fun ρ hρ => ⟨rfl, ov_ldS rfl underlying9 rfl ((hρ 39 (lmem rfl)).trans rfl) hp115 hg117⟩) rfl rfl
      ffn)) ?_
    refine lt_call (dt := some 41) rfl rfl (fun ρ hρ => ⟨rfl, opc_of rfl rfl is14 (ma_cons ((hρ 38 (lmem rfl)).trans rfl) (ma_cons ((hρ 40 (lmem rfl)).trans rfl) rfl))⟩) H (fun _ _ h _ => ⟨rfl, h⟩) fun r122 aw123 H => ?_
    refine lt_next (l := []) (hv := []) rfl rfl (pv_nil _)
      ffn ?_
    refine lt_end ?_
    refine ago_inBlock ?_
    refine ago_cut (fun ρ => ρ 1 = o_1 ∧ ρ 3 = w_3 ∧ ρ 26 = t_26 ∧ ρ 27 = .int .i64 t_27 ∧ ρ 28 = .int .i64 t_28 ∧ True) ⟨h1, h3, h26, h27, h28, trivial⟩ (fun ρ ⟨h1, h3, h26, h27, h28, _⟩ => ?_)
    refine ago_regE (rfl : C6_22 = .region 7 R6_7 false) (l := [0, 1]) rfl ?_
    refine lj 42 R6_7_N rfl rfl rfl (opv_add rfl rfl rfl h28 rfl) ?_
    refine lj 28 R6_7_N rfl rfl rfl (opv_move rfl rfl rfl) ?_
    refine aops_nil ?_
    refine ago_inLoop ?_
    exact L1 _ o_1 w_3 t_26 t_27 (IntKind.i64.wrap (t_28 + 1)) aw123 h1 h3 h26 h27 rfl H
  replace H := cnd_f H hb58
  refine ago_exitE (rfl : C6_16 = .exit 0) rfl ?_
  refine ago_seqE (rfl : C6_23 = .seq C6_24 C6_25) ?_
  obtain ⟨b125, i126, p124, hp127, hv128, H⟩ := H
  obtain ⟨b129, i130, x132, hp131, hg133, H⟩ := H
  obtain ⟨b135, i136, p134, hp137, hv138, H⟩ := H
  obtain ⟨b139, i140, x142, hp141, hg143, H⟩ := H
  obtain ⟨q145, l146, c147, n144, hv148, hn149, H⟩ := H
  refine ago_drawH (p := [0, 1, 2, 4, 5, 6, 7]) (tl := [(3, [4, 5, 6, 7], []), (8, [], [])]) (hv := [(0, w_3), (1, p124), (2, Value.string x132), (4, p134), (5, x142), (6, Value.int .i64 n144), (7, Value.int .u64 (IntKind.u64.wrap n144))]) (rfl : C6_24 = .region 8 R6_8 true) mixed R6_8_N R6_8_O rfl (pv_cons rfl (pv_cons rfl (pv_cons rfl (pv_cons rfl (pv_cons rfl (pv_cons rfl (pv_cons rfl (pv_nil _))))))))
    (fc 43 w_3 (hd_v rfl fun ρ hρ => ⟨rfl, opv_move rfl rfl ((hρ 3 (lmem rfl)).trans h3)⟩) rfl rfl
    (fc 44 p124 (hd_v rfl fun ρ hρ => ⟨rfl, ov_fldA rfl rfl underlying26 rfl sz9 (by decide) ((hρ 1 (lmem rfl)).trans h1) hp127 rfl hv128⟩) rfl rfl
    (fc 45 (.string x132) (hd_v rfl fun ρ hρ => ⟨rfl, ov_ldS rfl underlying9 rfl ((hρ 44 (lmem rfl)).trans rfl) hp131 hg133⟩) rfl rfl
    (fc 47 p134 (hd_v rfl fun ρ hρ => ⟨rfl, ov_fldA rfl rfl underlying26 rfl sz24 (by decide) ((hρ 1 (lmem rfl)).trans h1) hp137 rfl hv138⟩) rfl rfl
    (fc 48 x142 (hd_v rfl fun ρ hρ => ⟨rfl, ov_ldV rfl underlying24 rfl rfl ((hρ 47 (lmem rfl)).trans rfl) hp141 hg143⟩) rfl rfl
    (fc 49 (.int .i64 n144) (hd_v rfl fun ρ hρ => ⟨rfl, ov_len rfl rfl rfl underlying24 ((hρ 48 (lmem rfl)).trans rfl) hv148 hn149⟩) rfl rfl
    (fc 50 (.int .u64 (IntKind.u64.wrap n144)) (hd_v rfl fun ρ hρ => ⟨rfl, opv_conv rfl rfl underlying3 underlying39 ((hρ 49 (lmem rfl)).trans rfl)⟩) rfl rfl
    ffn))))))) ?_
  refine lt_call (dt := some 46) rfl rfl (fun ρ hρ => ⟨rfl, opc_of rfl rfl is14 (ma_cons ((hρ 43 (lmem rfl)).trans rfl) (ma_cons ((hρ 45 (lmem rfl)).trans rfl) rfl))⟩) H (fun _ _ h _ => ⟨rfl, h⟩) fun r150 aw151 H => ?_
  obtain ⟨hg143, H⟩ := H
  replace hg143 := hg143 _ _ hp141
  refine lt_next (l := [4, 5, 6, 7]) (hv := []) rfl rfl (pv_nil _)
    (fc 47 p134 (hd_v rfl fun ρ hρ => ⟨rfl, ov_fldA rfl rfl underlying26 rfl sz24 (by decide) ((hρ 1 (lmem rfl)).trans h1) hp137 rfl hv138⟩) rfl rfl
    (fc 48 x142 (hd_v rfl fun ρ hρ => ⟨rfl, ov_ldV rfl underlying24 rfl rfl ((hρ 47 (lmem rfl)).trans rfl) hp141 hg143⟩) rfl rfl
    (fc 49 (.int .i64 n144) (hd_v rfl fun ρ hρ => ⟨rfl, ov_len rfl rfl rfl underlying24 ((hρ 48 (lmem rfl)).trans rfl) hv148 hn149⟩) rfl rfl
    (fc 50 (.int .u64 (IntKind.u64.wrap n144)) (hd_v rfl fun ρ hρ => ⟨rfl, opv_conv rfl rfl underlying3 underlying39 ((hρ 49 (lmem rfl)).trans rfl)⟩) rfl rfl
    ffn)))) ?_
  refine lt_call (dt := some 51) rfl rfl (fun ρ hρ => ⟨rfl, opc_of rfl rfl is15 (ma_cons ((hρ 46 (lmem rfl)).trans rfl) (ma_cons ((hρ 50 (lmem rfl)).trans rfl) rfl))⟩) H (fun _ _ h _ => ⟨rfl, h⟩) fun r152 aw153 H => ?_
  refine lt_next (l := []) (hv := []) rfl rfl (pv_nil _)
    ffn ?_
  refine lt_end ?_
  refine ago_seqE (rfl : C6_25 = .seq C6_26 C6_48) ?_
  refine ago_seqE (rfl : C6_26 = .seq C6_27 C6_28) ?_
  refine ago_regE (rfl : C6_27 = .region 9 R6_9 false) (l := [0, 1, 2, 3]) rfl ?_
  obtain ⟨b155, i156, p154, hp157, hv158, H⟩ := H
  refine lj 52 R6_9_N rfl rfl rfl (ov_fldA rfl rfl underlying26 rfl sz24 (by decide) h1 hp157 rfl hv158) ?_
  obtain ⟨b159, i160, x162, hp161, hg163, H⟩ := H
  refine lj 53 R6_9_N rfl rfl rfl (ov_ldV rfl underlying24 rfl rfl rfl hp161 hg163) ?_
  obtain ⟨q165, l166, c167, n164, hv168, hn169, H⟩ := H
  refine lj 54 R6_9_N rfl rfl rfl (ov_len rfl rfl rfl underlying24 rfl hv168 hn169) ?_
  refine lj 55 R6_9_N rfl rfl rfl (opv_move rfl rfl rfl) ?_
  refine aops_nil ?_
  refine ago_blockE (rfl : C6_28 = .block 2 C6_29) ?_
  refine ago_loopE (rfl : C6_29 = .loop C6_30) ?_
  obtain ⟨n, H⟩ := H
  exact S6_2_ok Q E  n _ w_3 x162 n164 0 aw153 h3 rfl rfl rfl H
theorem S6_1_ok (Q : Value → AW → Prop) (E : List PanicEntry → AW → Prop)  : ∀ (n : Nat) (ρ : Env) (o_1 : Value) (w_3 : Value) (t_26 : Value) (t_27 : Int) (t_28 : Int) (aw : AW) (h1 : ρ 1 = o_1) (h3 : ρ 3 = w_3) (h26 : ρ 26 = t_26) (h27 : ρ 27 = .int .i64 t_27) (h28 : ρ 28 = .int .i64 t_28), S6_1 Q E  n o_1 w_3 t_26 t_27 t_28 aw →
    AGo prog 72 [.code C6_11, .inLoop C6_11, .inBlock 0, .code C6_23] ρ [] aw (RR prog f6 72 sh6 Q E)
  | 0, _, _, _, _, _, _, _, _, _, _, _, _ => fun H => H.elim
  | n + 1, ρ, o_1, w_3, t_26, t_27, t_28, aw, h1, h3, h26, h27, h28 => fun H => S6_1s_ok Q E  _ (S6_1_ok Q E  n) ρ o_1 w_3 t_26 t_27 t_28 aw h1 h3 h26 h27 h28 H
theorem S6_0_ok (Q : Value → AW → Prop) (E : List PanicEntry → AW → Prop)  (ρ : Env) (o_0_0 : Int) (o_0_1 : Int) (o_0_2 : ByteArray) (o_0_3 : Value) (o_0_4 : ByteArray) (o_0_5 : Value) (aw : AW) (h0 : ρ 0 = .agg #[.int .i64 o_0_0, .int .i64 o_0_1, .string o_0_2, o_0_3, .string o_0_4, o_0_5]) (H : S6_0 Q E  o_0_0 o_0_1 o_0_2 o_0_3 o_0_4 o_0_5 aw) :
    AGo prog 72 [.code C6_0] ρ [] aw (RR prog f6 72 sh6 Q E) := by
  unfold S6_0 at H
  refine ago_seqE (rfl : C6_0 = .seq C6_1 C6_2) ?_
  refine ago_regE (rfl : C6_1 = .region 0 R6_0 false) (l := [0, 1]) rfl ?_
  obtain ⟨p170, aw171, hp172, ha173, H⟩ := H
  refine lj 1 R6_0_N rfl rfl rfl (ov_box rfl rfl h0 rfl hp172 ha173) ?_
  refine lj 2 R6_0_N rfl rfl rfl (opv_assign rfl rfl rfl) ?_
  refine aops_nil ?_
  refine ago_seqE (rfl : C6_2 = .seq C6_3 C6_4) ?_
  refine ago_regE (rfl : C6_3 = .region 1 R6_1 false) (l := [0, 1, 2]) rfl ?_
  refine lj 8 R6_1_N rfl rfl rfl (ov_bld (r := [(.slice none 0 0)]) rfl rfl bo47 rfl (fillN rfl)) ?_
  obtain ⟨p174, aw175, hp176, ha177, H⟩ := H
  refine lj 9 R6_1_N rfl rfl rfl (ov_box rfl rfl rfl rfl hp176 ha177) ?_
  refine lj 3 R6_1_N rfl rfl rfl (opv_assign rfl rfl rfl) ?_
  refine aops_nil ?_
  refine ago_seqE (rfl : C6_4 = .seq C6_5 C6_6) ?_
  obtain ⟨b179, i180, p178, hp181, hv182, H⟩ := H
  obtain ⟨b183, i184, x186, hp185, hg187, H⟩ := H
  obtain ⟨b189, i190, p188, hp191, hv192, H⟩ := H
  obtain ⟨b193, i194, x196, hp195, hg197, H⟩ := H
  obtain ⟨b199, i200, p198, hp201, hv202, H⟩ := H
  obtain ⟨b203, i204, x206, hp205, hg207, H⟩ := H
  obtain ⟨b209, i210, p208, hp211, hv212, H⟩ := H
  obtain ⟨b213, i214, x216, hp215, hg217, H⟩ := H
  obtain ⟨q219, l220, c221, n218, hv222, hn223, H⟩ := H
  refine ago_drawH (p := [0, 1, 2, 4, 5, 7, 8, 10, 11, 12, 13]) (tl := [(3, [4, 5, 7, 8, 10, 11, 12, 13], []), (6, [7, 8, 10, 11, 12, 13], []), (9, [10, 11, 12, 13], []), (14, [], [])]) (hv := [(0, p174), (1, p178), (2, Value.int .i64 x186), (4, p188), (5, Value.int .i64 x196), (7, p198), (8, Value.string x206), (10, p208), (11, x216), (12, Value.int .i64 n218), (13, Value.int .u64 (IntKind.u64.wrap n218))]) (rfl : C6_5 = .region 2 R6_2 true) mixed R6_2_N R6_2_O rfl (pv_cons rfl (pv_cons rfl (pv_cons rfl (pv_cons rfl (pv_cons rfl (pv_cons rfl (pv_cons rfl (pv_cons rfl (pv_cons rfl (pv_cons rfl (pv_cons rfl (pv_nil _))))))))))))
    (fc 10 p174 (hd_v rfl fun ρ hρ => ⟨rfl, opv_move rfl rfl ((hρ 3 (lmem rfl)).trans rfl)⟩) rfl rfl
    (fc 11 p178 (hd_v rfl fun ρ hρ => ⟨rfl, ov_fldA rfl rfl underlying26 rfl sz22 (by decide) ((hρ 1 (lmem rfl)).trans rfl) hp181 rfl hv182⟩) rfl rfl
    (fc 12 (.int .i64 x186) (hd_v rfl fun ρ hρ => ⟨rfl, ov_ldI rfl underlying22 rfl ((hρ 11 (lmem rfl)).trans rfl) hp185 hg187⟩) rfl rfl
    (fc 14 p188 (hd_v rfl fun ρ hρ => ⟨rfl, ov_fldA rfl rfl underlying26 rfl sz3 (by decide) ((hρ 1 (lmem rfl)).trans rfl) hp191 rfl hv192⟩) rfl rfl
    (fc 15 (.int .i64 x196) (hd_v rfl fun ρ hρ => ⟨rfl, ov_ldI rfl underlying3 rfl ((hρ 14 (lmem rfl)).trans rfl) hp195 hg197⟩) rfl rfl
    (fc 17 p198 (hd_v rfl fun ρ hρ => ⟨rfl, ov_fldA rfl rfl underlying26 rfl sz9 (by decide) ((hρ 1 (lmem rfl)).trans rfl) hp201 rfl hv202⟩) rfl rfl
    (fc 18 (.string x206) (hd_v rfl fun ρ hρ => ⟨rfl, ov_ldS rfl underlying9 rfl ((hρ 17 (lmem rfl)).trans rfl) hp205 hg207⟩) rfl rfl
    (fc 20 p208 (hd_v rfl fun ρ hρ => ⟨rfl, ov_fldA rfl rfl underlying26 rfl sz23 (by decide) ((hρ 1 (lmem rfl)).trans rfl) hp211 rfl hv212⟩) rfl rfl
    (fc 21 x216 (hd_v rfl fun ρ hρ => ⟨rfl, ov_ldV rfl underlying23 rfl rfl ((hρ 20 (lmem rfl)).trans rfl) hp215 hg217⟩) rfl rfl
    (fc 22 (.int .i64 n218) (hd_v rfl fun ρ hρ => ⟨rfl, ov_len rfl rfl rfl underlying23 ((hρ 21 (lmem rfl)).trans rfl) hv222 hn223⟩) rfl rfl
    (fc 23 (.int .u64 (IntKind.u64.wrap n218)) (hd_v rfl fun ρ hρ => ⟨rfl, opv_conv rfl rfl underlying3 underlying39 ((hρ 22 (lmem rfl)).trans rfl)⟩) rfl rfl
    ffn))))))))))) ?_
  refine lt_call (dt := some 13) rfl rfl (fun ρ hρ => ⟨rfl, opc_of rfl rfl is13 (ma_cons ((hρ 10 (lmem rfl)).trans rfl) (ma_cons ((hρ 12 (lmem rfl)).trans rfl) rfl))⟩) H (fun _ _ h _ => ⟨rfl, h⟩) fun r224 aw225 H => ?_
  obtain ⟨hg197, H⟩ := H
  replace hg197 := hg197 _ _ hp195
  obtain ⟨hg207, H⟩ := H
  replace hg207 := hg207 _ _ hp205
  obtain ⟨hg217, H⟩ := H
  replace hg217 := hg217 _ _ hp215
  refine lt_next (l := [4, 5, 7, 8, 10, 11, 12, 13]) (hv := []) rfl rfl (pv_nil _)
    (fc 14 p188 (hd_v rfl fun ρ hρ => ⟨rfl, ov_fldA rfl rfl underlying26 rfl sz3 (by decide) ((hρ 1 (lmem rfl)).trans rfl) hp191 rfl hv192⟩) rfl rfl
    (fc 15 (.int .i64 x196) (hd_v rfl fun ρ hρ => ⟨rfl, ov_ldI rfl underlying3 rfl ((hρ 14 (lmem rfl)).trans rfl) hp195 hg197⟩) rfl rfl
    (fc 17 p198 (hd_v rfl fun ρ hρ => ⟨rfl, ov_fldA rfl rfl underlying26 rfl sz9 (by decide) ((hρ 1 (lmem rfl)).trans rfl) hp201 rfl hv202⟩) rfl rfl
    (fc 18 (.string x206) (hd_v rfl fun ρ hρ => ⟨rfl, ov_ldS rfl underlying9 rfl ((hρ 17 (lmem rfl)).trans rfl) hp205 hg207⟩) rfl rfl
    (fc 20 p208 (hd_v rfl fun ρ hρ => ⟨rfl, ov_fldA rfl rfl underlying26 rfl sz23 (by decide) ((hρ 1 (lmem rfl)).trans rfl) hp211 rfl hv212⟩) rfl rfl
    (fc 21 x216 (hd_v rfl fun ρ hρ => ⟨rfl, ov_ldV rfl underlying23 rfl rfl ((hρ 20 (lmem rfl)).trans rfl) hp215 hg217⟩) rfl rfl
    (fc 22 (.int .i64 n218) (hd_v rfl fun ρ hρ => ⟨rfl, ov_len rfl rfl rfl underlying23 ((hρ 21 (lmem rfl)).trans rfl) hv222 hn223⟩) rfl rfl
    (fc 23 (.int .u64 (IntKind.u64.wrap n218)) (hd_v rfl fun ρ hρ => ⟨rfl, opv_conv rfl rfl underlying3 underlying39 ((hρ 22 (lmem rfl)).trans rfl)⟩) rfl rfl
    ffn)))))))) ?_
  refine lt_call (dt := some 16) rfl rfl (fun ρ hρ => ⟨rfl, opc_of rfl rfl is13 (ma_cons ((hρ 13 (lmem rfl)).trans rfl) (ma_cons ((hρ 15 (lmem rfl)).trans rfl) rfl))⟩) H (fun _ _ h _ => ⟨rfl, h⟩) fun r226 aw227 H => ?_
  obtain ⟨hg207, H⟩ := H
  replace hg207 := hg207 _ _ hp205
  obtain ⟨hg217, H⟩ := H
  replace hg217 := hg217 _ _ hp215
  refine lt_next (l := [7, 8, 10, 11, 12, 13]) (hv := []) rfl rfl (pv_nil _)
    (fc 17 p198 (hd_v rfl fun ρ hρ => ⟨rfl, ov_fldA rfl rfl underlying26 rfl sz9 (by decide) ((hρ 1 (lmem rfl)).trans rfl) hp201 rfl hv202⟩) rfl rfl
    (fc 18 (.string x206) (hd_v rfl fun ρ hρ => ⟨rfl, ov_ldS rfl underlying9 rfl ((hρ 17 (lmem rfl)).trans rfl) hp205 hg207⟩) rfl rfl
    (fc 20 p208 (hd_v rfl fun ρ hρ => ⟨rfl, ov_fldA rfl rfl underlying26 rfl sz23 (by decide) ((hρ 1 (lmem rfl)).trans rfl) hp211 rfl hv212⟩) rfl rfl
    (fc 21 x216 (hd_v rfl fun ρ hρ => ⟨rfl, ov_ldV rfl underlying23 rfl rfl ((hρ 20 (lmem rfl)).trans rfl) hp215 hg217⟩) rfl rfl
    (fc 22 (.int .i64 n218) (hd_v rfl fun ρ hρ => ⟨rfl, ov_len rfl rfl rfl underlying23 ((hρ 21 (lmem rfl)).trans rfl) hv222 hn223⟩) rfl rfl
    (fc 23 (.int .u64 (IntKind.u64.wrap n218)) (hd_v rfl fun ρ hρ => ⟨rfl, opv_conv rfl rfl underlying3 underlying39 ((hρ 22 (lmem rfl)).trans rfl)⟩) rfl rfl
    ffn)))))) ?_
  refine lt_call (dt := some 19) rfl rfl (fun ρ hρ => ⟨rfl, opc_of rfl rfl is14 (ma_cons ((hρ 16 (lmem rfl)).trans rfl) (ma_cons ((hρ 18 (lmem rfl)).trans rfl) rfl))⟩) H (fun _ _ h _ => ⟨rfl, h⟩) fun r228 aw229 H => ?_
  obtain ⟨hg217, H⟩ := H
  replace hg217 := hg217 _ _ hp215
  refine lt_next (l := [10, 11, 12, 13]) (hv := []) rfl rfl (pv_nil _)
    (fc 20 p208 (hd_v rfl fun ρ hρ => ⟨rfl, ov_fldA rfl rfl underlying26 rfl sz23 (by decide) ((hρ 1 (lmem rfl)).trans rfl) hp211 rfl hv212⟩) rfl rfl
    (fc 21 x216 (hd_v rfl fun ρ hρ => ⟨rfl, ov_ldV rfl underlying23 rfl rfl ((hρ 20 (lmem rfl)).trans rfl) hp215 hg217⟩) rfl rfl
    (fc 22 (.int .i64 n218) (hd_v rfl fun ρ hρ => ⟨rfl, ov_len rfl rfl rfl underlying23 ((hρ 21 (lmem rfl)).trans rfl) hv222 hn223⟩) rfl rfl
    (fc 23 (.int .u64 (IntKind.u64.wrap n218)) (hd_v rfl fun ρ hρ => ⟨rfl, opv_conv rfl rfl underlying3 underlying39 ((hρ 22 (lmem rfl)).trans rfl)⟩) rfl rfl
    ffn)))) ?_
  refine lt_call (dt := some 24) rfl rfl (fun ρ hρ => ⟨rfl, opc_of rfl rfl is15 (ma_cons ((hρ 19 (lmem rfl)).trans rfl) (ma_cons ((hρ 23 (lmem rfl)).trans rfl) rfl))⟩) H (fun _ _ h _ => ⟨rfl, h⟩) fun r230 aw231 H => ?_
  refine lt_next (l := []) (hv := []) rfl rfl (pv_nil _)
    ffn ?_
  refine lt_end ?_
  refine ago_seqE (rfl : C6_6 = .seq C6_7 C6_23) ?_
  refine ago_seqE (rfl : C6_7 = .seq C6_8 C6_9) ?_
  refine ago_cut (fun ρ => ρ 1 = p170 ∧ ρ 3 = p174 ∧ True) ⟨rfl, rfl, trivial⟩ (fun ρ ⟨h1, h3, _⟩ => ?_)
  refine ago_regE (rfl : C6_8 = .region 3 R6_3 false) (l := [0, 1, 2, 3]) rfl ?_
  obtain ⟨b233, i234, p232, hp235, hv236, H⟩ := H
  refine lj 25 R6_3_N rfl rfl rfl (ov_fldA rfl rfl underlying26 rfl sz23 (by decide) h1 hp235 rfl hv236) ?_
  obtain ⟨b237, i238, x240, hp239, hg241, H⟩ := H
  refine lj 26 R6_3_N rfl rfl rfl (ov_ldV rfl underlying23 rfl rfl rfl hp239 hg241) ?_
  obtain ⟨q243, l244, c245, n242, hv246, hn247, H⟩ := H
  refine lj 27 R6_3_N rfl rfl rfl (ov_len rfl rfl rfl underlying23 rfl hv246 hn247) ?_
  refine lj 28 R6_3_N rfl rfl rfl (opv_move rfl rfl rfl) ?_
  refine aops_nil ?_
  refine ago_blockE (rfl : C6_9 = .block 0 C6_10) ?_
  refine ago_loopE (rfl : C6_10 = .loop C6_11) ?_
  obtain ⟨n, H⟩ := H
  exact S6_1_ok Q E  n _ p170 p174 x240 n242 0 aw231 h1 h3 rfl rfl rfl H
theorem F6_ok {Q : Value → AW → Prop} {E : List PanicEntry → AW → Prop} (o_0_0 : Int) (o_0_1 : Int) (o_0_2 : ByteArray) (o_0_3 : Value) (o_0_4 : ByteArray) (o_0_5 : Value) (aw : AW) (H : S6_0 Q E o_0_0 o_0_1 o_0_2 o_0_3 o_0_4 o_0_5 aw) : CallP prog 6 [.agg #[.int .i64 o_0_0, .int .i64 o_0_1, .string o_0_2, o_0_3, .string o_0_4, o_0_5]] aw sh6 Q E :=
  callP_of func6 C6_is rfl (Nat.le_of_ble_eq_true rfl) (S6_0_ok Q E _ o_0_0 o_0_1 o_0_2 o_0_3 o_0_4 o_0_5 aw rfl H)
def C8_0 := bodyOf f8
theorem C8_is : f8.body = some C8_0 := by kernel_rfl
def C8_1 := cl C8_0
def R8_0 := regOps C8_1
def C8_2 := cr C8_0
def C8_3 := cl C8_2
def R8_1 := regOps C8_3
def C8_4 := cr C8_2
def C8_5 := cl C8_4
def R8_2 := regOps C8_5
def C8_6 := cr C8_4
def C8_7 := cl C8_6
def R8_3 := regOps C8_7
def C8_8 := cr C8_6
def C8_9 := cl C8_8
def R8_4 := regOps C8_9
def C8_10 := cr C8_8
def C8_11 := cl C8_10
def C8_12 := cl C8_11
def R8_5 := regOps C8_12
def C8_13 := cr C8_11
def C8_14 := cl C8_13
def C8_15 := cl C8_14
def C8_16 := cl C8_15
def C8_17 := cl C8_16
def R8_6 := regOps C8_17
def C8_18 := cr C8_16
def C8_19 := cl C8_18
def C8_20 := cr C8_18
def C8_21 := cr C8_15
def C8_22 := cl C8_21
def C8_23 := cl C8_22
def C8_24 := cl C8_23
def R8_8 := regOps C8_24
def C8_25 := cr C8_23
def C8_26 := cl C8_25
def R8_9 := regOps C8_26
def C8_27 := cr C8_25
def R8_10 := regOps C8_27
def C8_28 := cr C8_21
def R8_7 := regOps C8_28
def C8_29 := cr C8_10
def C8_30 := cl C8_29
def R8_11 := regOps C8_30
def C8_31 := cr C8_29
def C8_32 := cl C8_31
def R8_12 := regOps C8_32
def C8_33 := cr C8_31
def C8_34 := cl C8_33
def C8_35 := cl C8_34
def R8_13 := regOps C8_35
def C8_36 := cr C8_34
def C8_37 := cl C8_36
def C8_38 := cl C8_37
def C8_39 := cl C8_38
def C8_40 := cl C8_39
def R8_14 := regOps C8_40
def C8_41 := cr C8_39
def C8_42 := cl C8_41
def C8_43 := cr C8_41
def C8_44 := cr C8_38
def C8_45 := cl C8_44
def C8_46 := cl C8_45
def C8_47 := cl C8_46
def C8_48 := cl C8_47
def R8_16 := regOps C8_48
def C8_49 := cr C8_47
def C8_50 := cl C8_49
def R8_17 := regOps C8_50
def C8_51 := cr C8_49
def R8_18 := regOps C8_51
def C8_52 := cr C8_46
def R8_19 := regOps C8_52
def C8_53 := cr C8_44
def R8_15 := regOps C8_53
def C8_54 := cr C8_33
def C8_55 := cl C8_54
def R8_20 := regOps C8_55
def C8_56 := cr C8_54
theorem R8_0_N : dstsOk 106 R8_0 = true := by decide +kernel
theorem R8_1_N : dstsOk 106 R8_1 = true := by decide +kernel
theorem R8_2_N : dstsOk 106 R8_2 = true := by decide +kernel
theorem R8_3_N : dstsOk 106 R8_3 = true := by decide +kernel
theorem R8_4_N : dstsOk 106 R8_4 = true := by decide +kernel
theorem R8_5_N : dstsOk 106 R8_5 = true := by decide +kernel
theorem R8_6_N : dstsOk 106 R8_6 = true := by decide +kernel
theorem R8_8_N : dstsOk 106 R8_8 = true := by decide +kernel
theorem R8_9_N : dstsOk 106 R8_9 = true := by decide +kernel
theorem R8_10_N : dstsOk 106 R8_10 = true := by decide +kernel
theorem R8_7_N : dstsOk 106 R8_7 = true := by decide +kernel
theorem R8_11_N : dstsOk 106 R8_11 = true := by decide +kernel
theorem R8_12_N : dstsOk 106 R8_12 = true := by decide +kernel
theorem R8_13_N : dstsOk 106 R8_13 = true := by decide +kernel
theorem R8_14_N : dstsOk 106 R8_14 = true := by decide +kernel
theorem R8_16_N : dstsOk 106 R8_16 = true := by decide +kernel
theorem R8_17_N : dstsOk 106 R8_17 = true := by decide +kernel
theorem R8_18_N : dstsOk 106 R8_18 = true := by decide +kernel
theorem R8_19_N : dstsOk 106 R8_19 = true := by decide +kernel
theorem R8_15_N : dstsOk 106 R8_15 = true := by decide +kernel
theorem R8_20_N : dstsOk 106 R8_20 = true := by decide +kernel
def S8_3 (Q : Value → AW → Prop) (E : List PanicEntry → AW → Prop) (nx2 : Value → Value → Int → AW → Prop) (o_1 : Value) (p_3 : Value) (i_5 : Int) (aw : AW) : Prop :=
  fldA o_1 5 fun p1 =>
  ldV aw p1 fun x9 =>
  ixS x9 i_5 2 fun p11 =>
  fldA p11 1 fun p20 =>
  ldI .i64 aw p20 fun x28 =>
  CallP prog 23 [.int .i64 x28] aw sh23 (fun r30 aw31 =>
  app aw31 5 1 1 p_3 r30 fun v32 aw33 =>
  nx2 o_1 v32 (IntKind.i64.wrap (i_5 + 1)) aw33) E
def S8_2s (Q : Value → AW → Prop) (E : List PanicEntry → AW → Prop)  (nx2 : Value → Value → Int → AW → Prop) (o_1 : Value) (p_3 : Value) (i_5 : Int) (aw : AW) : Prop :=
  fldA o_1 5 fun p35 =>
  ldV aw p35 fun x43 =>
  slen x43 fun n45 =>
  cnd (decide (i_5 < n45)) (fldA o_1 5 fun p52 =>
  ldV aw p52 fun x60 =>
  ixS x60 i_5 2 fun p62 =>
  fldA p62 0 fun p71 =>
  ldB aw p71 fun x79 =>
  cnd x79 (CallP prog 25 [.int .u64 1] aw sh25 (fun r82 aw83 =>
  app aw83 5 1 1 p_3 r82 fun v84 aw85 =>
  S8_3 Q E nx2 o_1 v84 i_5 aw85) E) (CallP prog 25 [.int .u64 0] aw sh25 (fun r87 aw88 =>
  app aw88 5 1 1 p_3 r87 fun v89 aw90 =>
  S8_3 Q E nx2 o_1 v89 i_5 aw90) E)) (Q p_3 aw)
def S8_2 (Q : Value → AW → Prop) (E : List PanicEntry → AW → Prop)  : Nat → Value → Value → Int → AW → Prop
  | 0 => fun _ _ _ _ => False
  | n + 1 => S8_2s Q E  (S8_2 Q E  n)
def S8_1s (Q : Value → AW → Prop) (E : List PanicEntry → AW → Prop)  (nx1 : Value → Value → Int → AW → Prop) (o_1 : Value) (p_3 : Value) (i_4 : Int) (aw : AW) : Prop :=
  fldA o_1 3 fun p92 =>
  ldV aw p92 fun x100 =>
  slen x100 fun n102 =>
  cnd (decide (i_4 < n102)) (fldA o_1 3 fun p109 =>
  ldV aw p109 fun x117 =>
  ixS x117 i_4 3 fun p119 =>
  fldA p119 0 fun p128 =>
  ldS aw p128 fun x136 =>
  toB aw x136 5 fun p138 aw139 =>
  CallP prog 24 [p138] aw139 sh24 (fun r142 aw143 =>
  app aw143 5 1 1 p_3 r142 fun v144 aw145 =>
  fldA o_1 3 fun p147 =>
  ldV aw145 p147 fun x155 =>
  ixS x155 i_4 3 fun p157 =>
  fldA p157 1 fun p166 =>
  ldS aw145 p166 fun x174 =>
  toB aw145 x174 5 fun p176 aw177 =>
  CallP prog 24 [p176] aw177 sh24 (fun r180 aw181 =>
  app aw181 5 1 1 v144 r180 fun v182 aw183 =>
  fldA o_1 3 fun p185 =>
  ldV aw183 p185 fun x193 =>
  ixS x193 i_4 3 fun p195 =>
  fldA p195 2 fun p204 =>
  ldS aw183 p204 fun x212 =>
  toB aw183 x212 5 fun p214 aw215 =>
  CallP prog 24 [p214] aw215 sh24 (fun r218 aw219 =>
  app aw219 5 1 1 v182 r218 fun v220 aw221 =>
  nx1 o_1 v220 (IntKind.i64.wrap (i_4 + 1)) aw221) E) E) E) (fldA o_1 4 fun p223 =>
  ldS aw p223 fun x231 =>
  toB aw x231 5 fun p233 aw234 =>
  CallP prog 24 [p233] aw234 sh24 (fun r237 aw238 =>
  app aw238 5 1 1 p_3 r237 fun v239 aw240 =>
  fldA o_1 5 fun p242 =>
  ldV aw240 p242 fun x250 =>
  slen x250 fun n252 =>
  CallP prog 25 [.int .u64 (IntKind.u64.wrap n252)] aw240 sh25 (fun r258 aw259 =>
  app aw259 5 1 1 v239 r258 fun v260 aw261 =>
  ∃ n, S8_2 Q E  n o_1 v260 0 aw261) E) E)
def S8_1 (Q : Value → AW → Prop) (E : List PanicEntry → AW → Prop)  : Nat → Value → Value → Int → AW → Prop
  | 0 => fun _ _ _ _ => False
  | n + 1 => S8_1s Q E  (S8_1 Q E  n)
def S8_0 (Q : Value → AW → Prop) (E : List PanicEntry → AW → Prop)  (o_0_0 : Int) (o_0_1 : Int) (o_0_2 : ByteArray) (o_0_3 : Value) (o_0_4 : ByteArray) (o_0_5 : Value) (aw : AW) : Prop :=
  alc aw [.int .i64 o_0_0, .int .i64 o_0_1, .string o_0_2, o_0_3, .string o_0_4, o_0_5] 26 0 fun p263 aw264 =>
  fldA p263 0 fun p267 =>
  ldI .i64 aw264 p267 fun x275 =>
  CallP prog 23 [.int .i64 x275] aw264 sh23 (fun r277 aw278 =>
  fldA p263 1 fun p279 =>
  ldI .i64 aw278 p279 fun x287 =>
  CallP prog 23 [.int .i64 x287] aw278 sh23 (fun r289 aw290 =>
  app aw290 5 1 1 r277 r289 fun v291 aw292 =>
  fldA p263 2 fun p294 =>
  ldS aw292 p294 fun x302 =>
  toB aw292 x302 5 fun p304 aw305 =>
  CallP prog 24 [p304] aw305 sh24 (fun r308 aw309 =>
  app aw309 5 1 1 v291 r308 fun v310 aw311 =>
  fldA p263 3 fun p313 =>
  ldV aw311 p313 fun x321 =>
  slen x321 fun n323 =>
  CallP prog 25 [.int .u64 (IntKind.u64.wrap n323)] aw311 sh25 (fun r329 aw330 =>
  app aw330 5 1 1 v310 r329 fun v331 aw332 =>
  ∃ n, S8_1 Q E  n p263 v331 0 aw332) E) E) E) E
theorem S8_3_ok (Q : Value → AW → Prop) (E : List PanicEntry → AW → Prop) (nx2 : Value → Value → Int → AW → Prop) (L2 : ∀ (ρ : Env) (o_1 : Value) (p_3 : Value) (i_5 : Int) (aw : AW) (h1 : ρ 1 = o_1) (h3 : ρ 3 = p_3) (h5 : ρ 5 = .int .i64 i_5), nx2 o_1 p_3 i_5 aw → AGo prog 106 [.code C8_38, .inLoop C8_38, .inBlock 2, .code C8_54] ρ [] aw (RR prog f8 106 sh8 Q E)) (ρ : Env) (o_1 : Value) (p_3 : Value) (i_5 : Int) (aw : AW) (h1 : ρ 1 = o_1) (h3 : ρ 3 = p_3) (h5 : ρ 5 = .int .i64 i_5) (H : S8_3 Q E nx2 o_1 p_3 i_5 aw) :
    AGo prog 106 [.code C8_52, .inBlock 3, .code C8_53, .inLoop C8_38, .inBlock 2, .code C8_54] ρ [] aw (RR prog f8 106 sh8 Q E) := by
  unfold S8_3 at H
  refine ago_regE (rfl : C8_52 = .region 19 R8_19 false) (l := [0, 1, 2, 3, 4, 5, 6, 7, 8, 9]) rfl ?_
  refine lj 96 R8_19_N rfl rfl rfl (opv_move rfl rfl h3) ?_
  obtain ⟨b2, i3, p1, hp4, hv5, H⟩ := H
  refine lj 97 R8_19_N rfl rfl rfl (ov_fldA rfl rfl underlying26 rfl sz24 (by decide) h1 hp4 rfl hv5) ?_
  obtain ⟨b6, i7, x9, hp8, hg10, H⟩ := H
  refine lj 98 R8_19_N rfl rfl rfl (ov_ldV rfl underlying24 rfl rfl rfl hp8 hg10) ?_
  refine lj 99 R8_19_N rfl rfl rfl (opv_move rfl rfl h5) ?_
  obtain ⟨b12, i13, l14, c15, p11, hp16, h017, hj18, hv19, H⟩ := H
  refine lj 100 R8_19_N rfl rfl rfl (ov_ixS rfl rfl rfl underlying24 sz52 rfl rfl hp16 h017 hj18 hv19) ?_
  obtain ⟨b21, i22, p20, hp23, hv24, H⟩ := H
  refine lj 101 R8_19_N rfl rfl rfl (ov_fldA rfl rfl underlying52 rfl sz2 (by decide) rfl hp23 rfl hv24) ?_
  obtain ⟨b25, i26, x28, hp27, hg29, H⟩ := H
  refine lj 102 R8_19_N rfl rfl rfl (ov_ldI rfl underlying2 rfl rfl hp27 hg29) ?_
  refine lc 103 R8_19_N rfl rfl rfl (opc_of rfl rfl is23 (ma_cons rfl rfl)) H (fun _ _ h => ⟨rfl, h⟩) fun r30 aw31 H => ?_
  obtain ⟨v32, aw33, hq34, H⟩ := H
  refine lj 104 R8_19_N rfl rfl rfl (ov_app rfl rfl rfl rfl underlying30 sz5 by5 underlying30 rfl z5 rfl (by decide) (by decide) rfl rfl hq34) ?_
  refine lj 3 R8_19_N rfl rfl rfl (opv_assign rfl rfl rfl) ?_
  refine aops_nil ?_
  refine ago_inBlock ?_
  refine ago_regE (rfl : C8_53 = .region 15 R8_15 false) (l := [0, 1, 2]) rfl ?_
  refine lj 82 R8_15_N rfl rfl rfl (opv_move rfl rfl h5) ?_
  refine lj 83 R8_15_N rfl rfl rfl (opv_add rfl rfl rfl rfl rfl) ?_
  refine lj 5 R8_15_N rfl rfl rfl (opv_assign rfl rfl rfl) ?_
  refine aops_nil ?_
  refine ago_inLoop ?_
  exact L2 _ o_1 v32 (IntKind.i64.wrap (i_5 + 1)) aw33 h1 rfl rfl H
theorem S8_2s_ok (Q : Value → AW → Prop) (E : List PanicEntry → AW → Prop)  (nx2 : Value → Value → Int → AW → Prop) (L2 : ∀ (ρ : Env) (o_1 : Value) (p_3 : Value) (i_5 : Int) (aw : AW) (h1 : ρ 1 = o_1) (h3 : ρ 3 = p_3) (h5 : ρ 5 = .int .i64 i_5), nx2 o_1 p_3 i_5 aw → AGo prog 106 [.code C8_38, .inLoop C8_38, .inBlock 2, .code C8_54] ρ [] aw (RR prog f8 106 sh8 Q E)) (ρ : Env) (o_1 : Value) (p_3 : Value) (i_5 : Int) (aw : AW) (h1 : ρ 1 = o_1) (h3 : ρ 3 = p_3) (h5 : ρ 5 = .int .i64 i_5) (H : S8_2s Q E  nx2 o_1 p_3 i_5 aw) :
    AGo prog 106 [.code C8_38, .inLoop C8_38, .inBlock 2, .code C8_54] ρ [] aw (RR prog f8 106 sh8 Q E) := by
  unfold S8_2s at H
  refine ago_seqE (rfl : C8_38 = .seq C8_39 C8_44) ?_
  refine ago_seqE (rfl : C8_39 = .seq C8_40 C8_41) ?_
  refine ago_regE (rfl : C8_40 = .region 14 R8_14 false) (l := [0, 1, 2, 3, 4]) rfl ?_
  refine lj 77 R8_14_N rfl rfl rfl (opv_move rfl rfl h5) ?_
  obtain ⟨b36, i37, p35, hp38, hv39, H⟩ := H
  refine lj 78 R8_14_N rfl rfl rfl (ov_fldA rfl rfl underlying26 rfl sz24 (by decide) h1 hp38 rfl hv39) ?_
  obtain ⟨b40, i41, x43, hp42, hg44, H⟩ := H
  refine lj 79 R8_14_N rfl rfl rfl (ov_ldV rfl underlying24 rfl rfl rfl hp42 hg44) ?_
  obtain ⟨q46, l47, c48, n45, hv49, hn50, H⟩ := H
  refine lj 80 R8_14_N rfl rfl rfl (ov_len rfl rfl rfl underlying24 rfl hv49 hn50) ?_
  refine lj 81 R8_14_N rfl rfl rfl (opv_lt rfl rfl rfl rfl rfl) ?_
  refine aops_nil ?_
  refine ago_condE  (rfl : C8_41 = .cond (.tmp 81) C8_42 C8_43) rfl rfl (fun hb51 => ?_) (fun hb51 => ?_)
  · replace H := cnd_t H hb51
    refine ago_skipE (rfl : C8_42 = .skip) ?_
    refine ago_seqE (rfl : C8_44 = .seq C8_45 C8_53) ?_
    refine ago_blockE (rfl : C8_45 = .block 3 C8_46) ?_
    refine ago_seqE (rfl : C8_46 = .seq C8_47 C8_52) ?_
    refine ago_seqE (rfl : C8_47 = .seq C8_48 C8_49) ?_
    refine ago_regE (rfl : C8_48 = .region 16 R8_16 false) (l := [0, 1, 2, 3, 4, 5]) rfl ?_
    obtain ⟨b53, i54, p52, hp55, hv56, H⟩ := H
    refine lj 84 R8_16_N rfl rfl rfl (ov_fldA rfl rfl underlying26 rfl sz24 (by decide) h1 hp55 rfl hv56) ?_
    obtain ⟨b57, i58, x60, hp59, hg61, H⟩ := H
    refine lj 85 R8_16_N rfl rfl rfl (ov_ldV rfl underlying24 rfl rfl rfl hp59 hg61) ?_
    refine lj 86 R8_16_N rfl rfl rfl (opv_move rfl rfl h5) ?_
    obtain ⟨b63, i64, l65, c66, p62, hp67, h068, hj69, hv70, H⟩ := H
    refine lj 87 R8_16_N rfl rfl rfl (ov_ixS rfl rfl rfl underlying24 sz52 rfl rfl hp67 h068 hj69 hv70) ?_
    obtain ⟨b72, i73, p71, hp74, hv75, H⟩ := H
    refine lj 88 R8_16_N rfl rfl rfl (ov_fldA rfl rfl underlying52 rfl sz4 (by decide) rfl hp74 rfl hv75) ?_
    obtain ⟨b76, i77, x79, hp78, hg80, H⟩ := H
    refine lj 89 R8_16_N rfl rfl rfl (ov_ldB rfl underlying4 rfl rfl hp78 hg80) ?_
    refine aops_nil ?_
    refine ago_condE  (rfl : C8_49 = .cond (.tmp 89) C8_50 C8_51) rfl rfl (fun hb81 => ?_) (fun hb81 => ?_)
    · replace H := cnd_t H hb81
      refine ago_regE (rfl : C8_50 = .region 17 R8_17 false) (l := [0, 1, 2, 3]) rfl ?_
      refine lj 90 R8_17_N rfl rfl rfl (opv_move rfl rfl h3) ?_
      refine lc 91 R8_17_N rfl rfl rfl (opc_of rfl rfl is25 (ma_cons rfl rfl)) H (fun _ _ h => ⟨rfl, h⟩) fun r82 aw83 H => ?_
      obtain ⟨v84, aw85, hq86, H⟩ := H
      refine lj 92 R8_17_N rfl rfl rfl (ov_app rfl rfl rfl rfl underlying30 sz5 by5 underlying30 rfl z5 rfl (by decide) (by decide) rfl rfl hq86) ?_
      refine lj 3 R8_17_N rfl rfl rfl (opv_assign rfl rfl rfl) ?_
      refine aops_nil ?_
      exact S8_3_ok Q E nx2 L2 _ o_1 v84 i_5 aw85 h1 rfl h5 H
    replace H := cnd_f H hb81
    refine ago_regE (rfl : C8_51 = .region 18 R8_18 false) (l := [0, 1, 2, 3]) rfl ?_
    refine lj 93 R8_18_N rfl rfl rfl (opv_move rfl rfl h3) ?_
    refine lc 94 R8_18_N rfl rfl rfl (opc_of rfl rfl is25 (ma_cons rfl rfl)) H (fun _ _ h => ⟨rfl, h⟩) fun r87 aw88 H => ?_
    obtain ⟨v89, aw90, hq91, H⟩ := H
    refine lj 95 R8_18_N rfl rfl rfl (ov_app rfl rfl rfl rfl underlying30 sz5 by5 underlying30 rfl z5 rfl (by decide) (by decide) rfl rfl hq91) ?_
    refine lj 3 R8_18_N rfl rfl rfl (opv_assign rfl rfl rfl) ?_
    refine aops_nil ?_
    exact S8_3_ok Q E nx2 L2 _ o_1 v89 i_5 aw90 h1 rfl h5 H
  replace H := cnd_f H hb51
  refine ago_exitE (rfl : C8_43 = .exit 2) rfl ?_
  refine ago_seqE (rfl : C8_54 = .seq C8_55 C8_56) ?_
  refine ago_regE (rfl : C8_55 = .region 20 R8_20 false) (l := [0, 1]) rfl ?_
  refine lj 105 R8_20_N rfl rfl rfl (opv_move rfl rfl h3) ?_
  refine lj 2 R8_20_N rfl rfl rfl (opv_assign rfl rfl rfl) ?_
  refine aops_nil ?_
  exact ago_retE (rfl : C8_56 = .ret) (r := p_3) (ares_1 rfl (oneT rfl)) rfl H
theorem S8_2_ok (Q : Value → AW → Prop) (E : List PanicEntry → AW → Prop)  : ∀ (n : Nat) (ρ : Env) (o_1 : Value) (p_3 : Value) (i_5 : Int) (aw : AW) (h1 : ρ 1 = o_1) (h3 : ρ 3 = p_3) (h5 : ρ 5 = .int .i64 i_5), S8_2 Q E  n o_1 p_3 i_5 aw →
    AGo prog 106 [.code C8_38, .inLoop C8_38, .inBlock 2, .code C8_54] ρ [] aw (RR prog f8 106 sh8 Q E)
  | 0, _, _, _, _, _, _, _, _ => fun H => H.elim
  | n + 1, ρ, o_1, p_3, i_5, aw, h1, h3, h5 => fun H => S8_2s_ok Q E  _ (S8_2_ok Q E  n) ρ o_1 p_3 i_5 aw h1 h3 h5 H
theorem S8_1s_ok (Q : Value → AW → Prop) (E : List PanicEntry → AW → Prop)  (nx1 : Value → Value → Int → AW → Prop) (L1 : ∀ (ρ : Env) (o_1 : Value) (p_3 : Value) (i_4 : Int) (aw : AW) (h1 : ρ 1 = o_1) (h3 : ρ 3 = p_3) (h4 : ρ 4 = .int .i64 i_4), nx1 o_1 p_3 i_4 aw → AGo prog 106 [.code C8_15, .inLoop C8_15, .inBlock 0, .code C8_29] ρ [] aw (RR prog f8 106 sh8 Q E)) (ρ : Env) (o_1 : Value) (p_3 : Value) (i_4 : Int) (aw : AW) (h1 : ρ 1 = o_1) (h3 : ρ 3 = p_3) (h4 : ρ 4 = .int .i64 i_4) (H : S8_1s Q E  nx1 o_1 p_3 i_4 aw) :
    AGo prog 106 [.code C8_15, .inLoop C8_15, .inBlock 0, .code C8_29] ρ [] aw (RR prog f8 106 sh8 Q E) := by
  unfold S8_1s at H
  refine ago_seqE (rfl : C8_15 = .seq C8_16 C8_21) ?_
  refine ago_seqE (rfl : C8_16 = .seq C8_17 C8_18) ?_
  refine ago_regE (rfl : C8_17 = .region 6 R8_6 false) (l := [0, 1, 2, 3, 4]) rfl ?_
  refine lj 27 R8_6_N rfl rfl rfl (opv_move rfl rfl h4) ?_
  obtain ⟨b93, i94, p92, hp95, hv96, H⟩ := H
  refine lj 28 R8_6_N rfl rfl rfl (ov_fldA rfl rfl underlying26 rfl sz23 (by decide) h1 hp95 rfl hv96) ?_
  obtain ⟨b97, i98, x100, hp99, hg101, H⟩ := H
  refine lj 29 R8_6_N rfl rfl rfl (ov_ldV rfl underlying23 rfl rfl rfl hp99 hg101) ?_
  obtain ⟨q103, l104, c105, n102, hv106, hn107, H⟩ := H
  refine lj 30 R8_6_N rfl rfl rfl (ov_len rfl rfl rfl underlying23 rfl hv106 hn107) ?_
  refine lj 31 R8_6_N rfl rfl rfl (opv_lt rfl rfl rfl rfl rfl) ?_
  refine aops_nil ?_
  refine ago_condE  (rfl : C8_18 = .cond (.tmp 31) C8_19 C8_20) rfl rfl (fun hb108 => ?_) (fun hb108 => ?_)
  · replace H := cnd_t H hb108
    refine ago_skipE (rfl : C8_19 = .skip) ?_
    refine ago_seqE (rfl : C8_21 = .seq C8_22 C8_28) ?_
    refine ago_blockE (rfl : C8_22 = .block 1 C8_23) ?_
    refine ago_seqE (rfl : C8_23 = .seq C8_24 C8_25) ?_
    refine ago_regE (rfl : C8_24 = .region 8 R8_8 false) (l := [0, 1, 2, 3, 4, 5, 6, 7, 8, 9, 10]) rfl ?_
    refine lj 34 R8_8_N rfl rfl rfl (opv_move rfl rfl h3) ?_
    obtain ⟨b110, i111, p109, hp112, hv113, H⟩ := H
    refine lj 35 R8_8_N rfl rfl rfl (ov_fldA rfl rfl underlying26 rfl sz23 (by decide) h1 hp112 rfl hv113) ?_
    obtain ⟨b114, i115, x117, hp116, hg118, H⟩ := H
    refine lj 36 R8_8_N rfl rfl rfl (ov_ldV rfl underlying23 rfl rfl rfl hp116 hg118) ?_
    refine lj 37 R8_8_N rfl rfl rfl (opv_move rfl rfl h4) ?_
    obtain ⟨b120, i121, l122, c123, p119, hp124, h0125, hj126, hv127, H⟩ := H
    refine lj 38 R8_8_N rfl rfl rfl (ov_ixS rfl rfl rfl underlying23 sz29 rfl rfl hp124 h0125 hj126 hv127) ?_
    obtain ⟨b129, i130, p128, hp131, hv132, H⟩ := H
    refine lj 39 R8_8_N rfl rfl rfl (ov_fldA rfl rfl underlying29 rfl sz9 (by decide) rfl hp131 rfl hv132) ?_
    obtain ⟨b133, i134, x136, hp135, hg137, H⟩ := H
    refine lj 40 R8_8_N rfl rfl rfl (ov_ldS rfl underlying9 rfl rfl hp135 hg137) ?_
    obtain ⟨p138, aw139, hp140, ha141, H⟩ := H
    refine lj 41 R8_8_N rfl rfl rfl (ov_toB rfl rfl underlying9 underlying30 underlying5 rfl hp140 ha141) ?_
    refine lc 42 R8_8_N rfl rfl rfl (opc_of rfl rfl is24 (ma_cons rfl rfl)) H (fun _ _ h => ⟨rfl, h⟩) fun r142 aw143 H => ?_
    obtain ⟨v144, aw145, hq146, H⟩ := H
    refine lj 43 R8_8_N rfl rfl rfl (ov_app rfl rfl rfl rfl underlying30 sz5 by5 underlying30 rfl z5 rfl (by decide) (by decide) rfl rfl hq146) ?_
    refine lj 3 R8_8_N rfl rfl rfl (opv_assign rfl rfl rfl) ?_
    refine aops_nil ?_
    refine ago_seqE (rfl : C8_25 = .seq C8_26 C8_27) ?_
    refine ago_cut (fun ρ => ρ 1 = o_1 ∧ ρ 3 = v144 ∧ ρ 4 = .int .i64 i_4 ∧ True) ⟨h1, rfl, h4, trivial⟩ (fun ρ ⟨h1, h3, h4, _⟩ => ?_)
    refine ago_regE (rfl : C8_26 = .region 9 R8_9 false) (l := [0, 1, 2, 3, 4, 5, 6, 7, 8, 9, 10]) rfl ?_
    refine lj 44 R8_9_N rfl rfl rfl (opv_move rfl rfl h3) ?_
    obtain ⟨b148, i149, p147, hp150, hv151, H⟩ := H
    refine lj 45 R8_9_N rfl rfl rfl (ov_fldA rfl rfl underlying26 rfl sz23 (by decide) h1 hp150 rfl hv151) ?_
    obtain ⟨b152, i153, x155, hp154, hg156, H⟩ := H
    refine lj 46 R8_9_N rfl rfl rfl (ov_ldV rfl underlying23 rfl rfl rfl hp154 hg156) ?_
    refine lj 47 R8_9_N rfl rfl rfl (opv_move rfl rfl h4) ?_
    obtain ⟨b158, i159, l160, c161, p157, hp162, h0163, hj164, hv165, H⟩ := H
    refine lj 48 R8_9_N rfl rfl rfl (ov_ixS rfl rfl rfl underlying23 sz29 rfl rfl hp162 h0163 hj164 hv165) ?_
    obtain ⟨b167, i168, p166, hp169, hv170, H⟩ := H
    refine lj 49 R8_9_N rfl rfl rfl (ov_fldA rfl rfl underlying29 rfl sz9 (by decide) rfl hp169 rfl hv170) ?_
    obtain ⟨b171, i172, x174, hp173, hg175, H⟩ := H
    refine lj 50 R8_9_N rfl rfl rfl (ov_ldS rfl underlying9 rfl rfl hp173 hg175) ?_
    obtain ⟨p176, aw177, hp178, ha179, H⟩ := H
    refine lj 51 R8_9_N rfl rfl rfl (ov_toB rfl rfl underlying9 underlying30 underlying5 rfl hp178 ha179) ?_
    refine lc 52 R8_9_N rfl rfl rfl (opc_of rfl rfl is24 (ma_cons rfl rfl)) H (fun _ _ h => ⟨rfl, h⟩) fun r180 aw181 H => ?_
    obtain ⟨v182, aw183, hq184, H⟩ := H
    refine lj 53 R8_9_N rfl rfl rfl (ov_app rfl rfl rfl rfl underlying30 sz5 by5 underlying30 rfl z5 rfl (by decide) (by decide) rfl rfl hq184) ?_
    refine lj 3 R8_9_N rfl rfl rfl (opv_assign rfl rfl rfl) ?_
    refine aops_nil ?_
    refine ago_regE (rfl : C8_27 = .region 10 R8_10 false) (l := [0, 1, 2, 3, 4, 5, 6, 7, 8, 9, 10]) rfl ?_
    refine lj 54 R8_10_N rfl rfl rfl (opv_move rfl rfl rfl) ?_
    obtain ⟨b186, i187, p185, hp188, hv189, H⟩ := H
    refine lj 55 R8_10_N rfl rfl rfl (ov_fldA rfl rfl underlying26 rfl sz23 (by decide) h1 hp188 rfl hv189) ?_
    obtain ⟨b190, i191, x193, hp192, hg194, H⟩ := H
    refine lj 56 R8_10_N rfl rfl rfl (ov_ldV rfl underlying23 rfl rfl rfl hp192 hg194) ?_
    refine lj 57 R8_10_N rfl rfl rfl (opv_move rfl rfl h4) ?_
    obtain ⟨b196, i197, l198, c199, p195, hp200, h0201, hj202, hv203, H⟩ := H
    refine lj 58 R8_10_N rfl rfl rfl (ov_ixS rfl rfl rfl underlying23 sz29 rfl rfl hp200 h0201 hj202 hv203) ?_
    obtain ⟨b205, i206, p204, hp207, hv208, H⟩ := H
    refine lj 59 R8_10_N rfl rfl rfl (ov_fldA rfl rfl underlying29 rfl sz9 (by decide) rfl hp207 rfl hv208) ?_
    obtain ⟨b209, i210, x212, hp211, hg213, H⟩ := H
    refine lj 60 R8_10_N rfl rfl rfl (ov_ldS rfl underlying9 rfl rfl hp211 hg213) ?_
    obtain ⟨p214, aw215, hp216, ha217, H⟩ := H
    refine lj 61 R8_10_N rfl rfl rfl (ov_toB rfl rfl underlying9 underlying30 underlying5 rfl hp216 ha217) ?_
    refine lc 62 R8_10_N rfl rfl rfl (opc_of rfl rfl is24 (ma_cons rfl rfl)) H (fun _ _ h => ⟨rfl, h⟩) fun r218 aw219 H => ?_
    obtain ⟨v220, aw221, hq222, H⟩ := H
    refine lj 63 R8_10_N rfl rfl rfl (ov_app rfl rfl rfl rfl underlying30 sz5 by5 underlying30 rfl z5 rfl (by decide) (by decide) rfl rfl hq222) ?_
    refine lj 3 R8_10_N rfl rfl rfl (opv_assign rfl rfl rfl) ?_
    refine aops_nil ?_
    refine ago_inBlock ?_
    refine ago_cut (fun ρ => ρ 1 = o_1 ∧ ρ 3 = v220 ∧ ρ 4 = .int .i64 i_4 ∧ True) ⟨h1, rfl, h4, trivial⟩ (fun ρ ⟨h1, h3, h4, _⟩ => ?_)
    refine ago_regE (rfl : C8_28 = .region 7 R8_7 false) (l := [0, 1, 2]) rfl ?_
    refine lj 32 R8_7_N rfl rfl rfl (opv_move rfl rfl h4) ?_
    refine lj 33 R8_7_N rfl rfl rfl (opv_add rfl rfl rfl rfl rfl) ?_
    refine lj 4 R8_7_N rfl rfl rfl (opv_assign rfl rfl rfl) ?_
    refine aops_nil ?_
    refine ago_inLoop ?_
    exact L1 _ o_1 v220 (IntKind.i64.wrap (i_4 + 1)) aw221 h1 h3 rfl H
  replace H := cnd_f H hb108
  refine ago_exitE (rfl : C8_20 = .exit 0) rfl ?_
  refine ago_seqE (rfl : C8_29 = .seq C8_30 C8_31) ?_
  refine ago_regE (rfl : C8_30 = .region 11 R8_11 false) (l := [0, 1, 2, 3, 4, 5, 6]) rfl ?_
  refine lj 64 R8_11_N rfl rfl rfl (opv_move rfl rfl h3) ?_
  obtain ⟨b224, i225, p223, hp226, hv227, H⟩ := H
  refine lj 65 R8_11_N rfl rfl rfl (ov_fldA rfl rfl underlying26 rfl sz9 (by decide) h1 hp226 rfl hv227) ?_
  obtain ⟨b228, i229, x231, hp230, hg232, H⟩ := H
  refine lj 66 R8_11_N rfl rfl rfl (ov_ldS rfl underlying9 rfl rfl hp230 hg232) ?_
  obtain ⟨p233, aw234, hp235, ha236, H⟩ := H
  refine lj 67 R8_11_N rfl rfl rfl (ov_toB rfl rfl underlying9 underlying30 underlying5 rfl hp235 ha236) ?_
  refine lc 68 R8_11_N rfl rfl rfl (opc_of rfl rfl is24 (ma_cons rfl rfl)) H (fun _ _ h => ⟨rfl, h⟩) fun r237 aw238 H => ?_
  obtain ⟨v239, aw240, hq241, H⟩ := H
  refine lj 69 R8_11_N rfl rfl rfl (ov_app rfl rfl rfl rfl underlying30 sz5 by5 underlying30 rfl z5 rfl (by decide) (by decide) rfl rfl hq241) ?_
  refine lj 3 R8_11_N rfl rfl rfl (opv_assign rfl rfl rfl) ?_
  refine aops_nil ?_
  refine ago_seqE (rfl : C8_31 = .seq C8_32 C8_33) ?_
  refine ago_cut (fun ρ => ρ 1 = o_1 ∧ ρ 3 = v239 ∧ True) ⟨h1, rfl, trivial⟩ (fun ρ ⟨h1, h3, _⟩ => ?_)
  refine ago_regE (rfl : C8_32 = .region 12 R8_12 false) (l := [0, 1, 2, 3, 4, 5, 6, 7]) rfl ?_
  refine lj 70 R8_12_N rfl rfl rfl (opv_move rfl rfl h3) ?_
  obtain ⟨b243, i244, p242, hp245, hv246, H⟩ := H
  refine lj 71 R8_12_N rfl rfl rfl (ov_fldA rfl rfl underlying26 rfl sz24 (by decide) h1 hp245 rfl hv246) ?_
  obtain ⟨b247, i248, x250, hp249, hg251, H⟩ := H
  refine lj 72 R8_12_N rfl rfl rfl (ov_ldV rfl underlying24 rfl rfl rfl hp249 hg251) ?_
  obtain ⟨q253, l254, c255, n252, hv256, hn257, H⟩ := H
  refine lj 73 R8_12_N rfl rfl rfl (ov_len rfl rfl rfl underlying24 rfl hv256 hn257) ?_
  refine lj 74 R8_12_N rfl rfl rfl (opv_conv rfl rfl underlying3 underlying39 rfl) ?_
  refine lc 75 R8_12_N rfl rfl rfl (opc_of rfl rfl is25 (ma_cons rfl rfl)) H (fun _ _ h => ⟨rfl, h⟩) fun r258 aw259 H => ?_
  obtain ⟨v260, aw261, hq262, H⟩ := H
  refine lj 76 R8_12_N rfl rfl rfl (ov_app rfl rfl rfl rfl underlying30 sz5 by5 underlying30 rfl z5 rfl (by decide) (by decide) rfl rfl hq262) ?_
  refine lj 3 R8_12_N rfl rfl rfl (opv_assign rfl rfl rfl) ?_
  refine aops_nil ?_
  refine ago_seqE (rfl : C8_33 = .seq C8_34 C8_54) ?_
  refine ago_seqE (rfl : C8_34 = .seq C8_35 C8_36) ?_
  refine ago_regE (rfl : C8_35 = .region 13 R8_13 false) (l := [0]) rfl ?_
  refine lj 5 R8_13_N rfl rfl rfl (opv_assign rfl rfl rfl) ?_
  refine aops_nil ?_
  refine ago_blockE (rfl : C8_36 = .block 2 C8_37) ?_
  refine ago_loopE (rfl : C8_37 = .loop C8_38) ?_
  obtain ⟨n, H⟩ := H
  exact S8_2_ok Q E  n _ o_1 v260 0 aw261 h1 rfl rfl H
theorem S8_1_ok (Q : Value → AW → Prop) (E : List PanicEntry → AW → Prop)  : ∀ (n : Nat) (ρ : Env) (o_1 : Value) (p_3 : Value) (i_4 : Int) (aw : AW) (h1 : ρ 1 = o_1) (h3 : ρ 3 = p_3) (h4 : ρ 4 = .int .i64 i_4), S8_1 Q E  n o_1 p_3 i_4 aw →
    AGo prog 106 [.code C8_15, .inLoop C8_15, .inBlock 0, .code C8_29] ρ [] aw (RR prog f8 106 sh8 Q E)
  | 0, _, _, _, _, _, _, _, _ => fun H => H.elim
  | n + 1, ρ, o_1, p_3, i_4, aw, h1, h3, h4 => fun H => S8_1s_ok Q E  _ (S8_1_ok Q E  n) ρ o_1 p_3 i_4 aw h1 h3 h4 H
theorem S8_0_ok (Q : Value → AW → Prop) (E : List PanicEntry → AW → Prop)  (ρ : Env) (o_0_0 : Int) (o_0_1 : Int) (o_0_2 : ByteArray) (o_0_3 : Value) (o_0_4 : ByteArray) (o_0_5 : Value) (aw : AW) (h0 : ρ 0 = .agg #[.int .i64 o_0_0, .int .i64 o_0_1, .string o_0_2, o_0_3, .string o_0_4, o_0_5]) (H : S8_0 Q E  o_0_0 o_0_1 o_0_2 o_0_3 o_0_4 o_0_5 aw) :
    AGo prog 106 [.code C8_0] ρ [] aw (RR prog f8 106 sh8 Q E) := by
  unfold S8_0 at H
  refine ago_seqE (rfl : C8_0 = .seq C8_1 C8_2) ?_
  refine ago_regE (rfl : C8_1 = .region 0 R8_0 false) (l := [0, 1]) rfl ?_
  obtain ⟨p263, aw264, hp265, ha266, H⟩ := H
  refine lj 1 R8_0_N rfl rfl rfl (ov_box rfl rfl h0 rfl hp265 ha266) ?_
  refine lj 2 R8_0_N rfl rfl rfl (opv_assign rfl rfl rfl) ?_
  refine aops_nil ?_
  refine ago_seqE (rfl : C8_2 = .seq C8_3 C8_4) ?_
  refine ago_regE (rfl : C8_3 = .region 1 R8_1 false) (l := [0, 1, 2, 3]) rfl ?_
  obtain ⟨b268, i269, p267, hp270, hv271, H⟩ := H
  refine lj 6 R8_1_N rfl rfl rfl (ov_fldA rfl rfl underlying26 rfl sz22 (by decide) rfl hp270 rfl hv271) ?_
  obtain ⟨b272, i273, x275, hp274, hg276, H⟩ := H
  refine lj 7 R8_1_N rfl rfl rfl (ov_ldI rfl underlying22 rfl rfl hp274 hg276) ?_
  refine lc 8 R8_1_N rfl rfl rfl (opc_of rfl rfl is23 (ma_cons rfl rfl)) H (fun _ _ h => ⟨rfl, h⟩) fun r277 aw278 H => ?_
  refine lj 3 R8_1_N rfl rfl rfl (opv_assign rfl rfl rfl) ?_
  refine aops_nil ?_
  refine ago_seqE (rfl : C8_4 = .seq C8_5 C8_6) ?_
  refine ago_regE (rfl : C8_5 = .region 2 R8_2 false) (l := [0, 1, 2, 3, 4, 5]) rfl ?_
  refine lj 9 R8_2_N rfl rfl rfl (opv_move rfl rfl rfl) ?_
  obtain ⟨b280, i281, p279, hp282, hv283, H⟩ := H
  refine lj 10 R8_2_N rfl rfl rfl (ov_fldA rfl rfl underlying26 rfl sz3 (by decide) rfl hp282 rfl hv283) ?_
  obtain ⟨b284, i285, x287, hp286, hg288, H⟩ := H
  refine lj 11 R8_2_N rfl rfl rfl (ov_ldI rfl underlying3 rfl rfl hp286 hg288) ?_
  refine lc 12 R8_2_N rfl rfl rfl (opc_of rfl rfl is23 (ma_cons rfl rfl)) H (fun _ _ h => ⟨rfl, h⟩) fun r289 aw290 H => ?_
  obtain ⟨v291, aw292, hq293, H⟩ := H
  refine lj 13 R8_2_N rfl rfl rfl (ov_app rfl rfl rfl rfl underlying30 sz5 by5 underlying30 rfl z5 rfl (by decide) (by decide) rfl rfl hq293) ?_
  refine lj 3 R8_2_N rfl rfl rfl (opv_assign rfl rfl rfl) ?_
  refine aops_nil ?_
  refine ago_seqE (rfl : C8_6 = .seq C8_7 C8_8) ?_
  refine ago_cut (fun ρ => ρ 1 = p263 ∧ ρ 3 = v291 ∧ True) ⟨rfl, rfl, trivial⟩ (fun ρ ⟨h1, h3, _⟩ => ?_)
  refine ago_regE (rfl : C8_7 = .region 3 R8_3 false) (l := [0, 1, 2, 3, 4, 5, 6]) rfl ?_
  refine lj 14 R8_3_N rfl rfl rfl (opv_move rfl rfl h3) ?_
  obtain ⟨b295, i296, p294, hp297, hv298, H⟩ := H
  refine lj 15 R8_3_N rfl rfl rfl (ov_fldA rfl rfl underlying26 rfl sz9 (by decide) h1 hp297 rfl hv298) ?_
  obtain ⟨b299, i300, x302, hp301, hg303, H⟩ := H
  refine lj 16 R8_3_N rfl rfl rfl (ov_ldS rfl underlying9 rfl rfl hp301 hg303) ?_
  obtain ⟨p304, aw305, hp306, ha307, H⟩ := H
  refine lj 17 R8_3_N rfl rfl rfl (ov_toB rfl rfl underlying9 underlying30 underlying5 rfl hp306 ha307) ?_
  refine lc 18 R8_3_N rfl rfl rfl (opc_of rfl rfl is24 (ma_cons rfl rfl)) H (fun _ _ h => ⟨rfl, h⟩) fun r308 aw309 H => ?_
  obtain ⟨v310, aw311, hq312, H⟩ := H
  refine lj 19 R8_3_N rfl rfl rfl (ov_app rfl rfl rfl rfl underlying30 sz5 by5 underlying30 rfl z5 rfl (by decide) (by decide) rfl rfl hq312) ?_
  refine lj 3 R8_3_N rfl rfl rfl (opv_assign rfl rfl rfl) ?_
  refine aops_nil ?_
  refine ago_seqE (rfl : C8_8 = .seq C8_9 C8_10) ?_
  refine ago_regE (rfl : C8_9 = .region 4 R8_4 false) (l := [0, 1, 2, 3, 4, 5, 6, 7]) rfl ?_
  refine lj 20 R8_4_N rfl rfl rfl (opv_move rfl rfl rfl) ?_
  obtain ⟨b314, i315, p313, hp316, hv317, H⟩ := H
  refine lj 21 R8_4_N rfl rfl rfl (ov_fldA rfl rfl underlying26 rfl sz23 (by decide) h1 hp316 rfl hv317) ?_
  obtain ⟨b318, i319, x321, hp320, hg322, H⟩ := H
  refine lj 22 R8_4_N rfl rfl rfl (ov_ldV rfl underlying23 rfl rfl rfl hp320 hg322) ?_
  obtain ⟨q324, l325, c326, n323, hv327, hn328, H⟩ := H
  refine lj 23 R8_4_N rfl rfl rfl (ov_len rfl rfl rfl underlying23 rfl hv327 hn328) ?_
  refine lj 24 R8_4_N rfl rfl rfl (opv_conv rfl rfl underlying3 underlying39 rfl) ?_
  refine lc 25 R8_4_N rfl rfl rfl (opc_of rfl rfl is25 (ma_cons rfl rfl)) H (fun _ _ h => ⟨rfl, h⟩) fun r329 aw330 H => ?_
  obtain ⟨v331, aw332, hq333, H⟩ := H
  refine lj 26 R8_4_N rfl rfl rfl (ov_app rfl rfl rfl rfl underlying30 sz5 by5 underlying30 rfl z5 rfl (by decide) (by decide) rfl rfl hq333) ?_
  refine lj 3 R8_4_N rfl rfl rfl (opv_assign rfl rfl rfl) ?_
  refine aops_nil ?_
  refine ago_seqE (rfl : C8_10 = .seq C8_11 C8_29) ?_
  refine ago_seqE (rfl : C8_11 = .seq C8_12 C8_13) ?_
  refine ago_cut (fun ρ => ρ 1 = p263 ∧ ρ 3 = v331 ∧ True) ⟨h1, rfl, trivial⟩ (fun ρ ⟨h1, h3, _⟩ => ?_)
  refine ago_regE (rfl : C8_12 = .region 5 R8_5 false) (l := [0]) rfl ?_
  refine lj 4 R8_5_N rfl rfl rfl (opv_assign rfl rfl rfl) ?_
  refine aops_nil ?_
  refine ago_blockE (rfl : C8_13 = .block 0 C8_14) ?_
  refine ago_loopE (rfl : C8_14 = .loop C8_15) ?_
  obtain ⟨n, H⟩ := H
  exact S8_1_ok Q E  n _ p263 v331 0 aw332 h1 h3 rfl H
theorem F8_ok {Q : Value → AW → Prop} {E : List PanicEntry → AW → Prop} (o_0_0 : Int) (o_0_1 : Int) (o_0_2 : ByteArray) (o_0_3 : Value) (o_0_4 : ByteArray) (o_0_5 : Value) (aw : AW) (H : S8_0 Q E o_0_0 o_0_1 o_0_2 o_0_3 o_0_4 o_0_5 aw) : CallP prog 8 [.agg #[.int .i64 o_0_0, .int .i64 o_0_1, .string o_0_2, o_0_3, .string o_0_4, o_0_5]] aw sh8 Q E :=
  callP_of func8 C8_is rfl (Nat.le_of_ble_eq_true rfl) (S8_0_ok Q E _ o_0_0 o_0_1 o_0_2 o_0_3 o_0_4 o_0_5 aw rfl H)
end
end Go.Proofs.Tryz
