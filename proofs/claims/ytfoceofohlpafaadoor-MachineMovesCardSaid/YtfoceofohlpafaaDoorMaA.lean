/- Printed by a program of the prover: what the Go functions of this seat do, in steps. -/
import Derived.Test.YtfoceofohlpafaaDoorMaF
set_option linter.unusedSectionVars false
set_option linter.unusedSimpArgs false
set_option linter.unusedVariables false
namespace Go.Proofs.Tryd
open Go Go.Am Go.RowKit
set_option maxHeartbeats 4000000
set_option maxRecDepth 100000
noncomputable section
variable [SymE]
def C28_0 := bodyOf f28
theorem C28_is : f28.body = some C28_0 := by kernel_rfl
def C28_1 := cl C28_0
def R28_0 := regOps C28_1
def C28_2 := cr C28_0
def C28_3 := cl C28_2
def C28_4 := cl C28_3
def R28_1 := regOps C28_4
def C28_5 := cr C28_3
def C28_6 := cl C28_5
def C28_7 := cl C28_6
def R28_2 := regOps C28_7
def C28_8 := cr C28_6
def C28_9 := cr C28_5
def C28_10 := cr C28_2
def C28_11 := cl C28_10
def R28_3 := regOps C28_11
def C28_12 := cr C28_10
theorem R28_0_N : dstsOk 13 R28_0 = true := by decide +kernel
theorem R28_1_N : dstsOk 13 R28_1 = true := by decide +kernel
theorem R28_2_N : dstsOk 13 R28_2 = true := by decide +kernel
theorem R28_3_N : dstsOk 13 R28_3 = true := by decide +kernel
def S28_0 (Q : (Value × Int) → AW → Prop) (E : List PanicEntry → AW → Prop)  (quota_0 : Int) (aw : AW) : Prop :=
  cnd (decide (quota_0 < 1)) (Q ((.pointer none), 1) aw) (cnd (decide (1048576 < quota_0)) (Q ((.pointer none), 1) aw) (alc aw [(.slice none 0 0), .int .i64 quota_0, .int .i64 0] 100 0 fun p4 aw5 =>
  Q (p4, 0) aw5))
theorem S28_0_ok (Q : (Value × Int) → AW → Prop) (E : List PanicEntry → AW → Prop)  (ρ : Env) (quota_0 : Int) (aw : AW) (h0 : ρ 0 = .int .i64 quota_0) (H : S28_0 Q E  quota_0 aw) :
    AGo prog 13 [.code C28_0] ρ [] aw (RR prog f28 13 sh28 Q E) := by
  unfold S28_0 at H
  refine ago_seqE (rfl : C28_0 = .seq C28_1 C28_2) ?_
  refine ago_regE (rfl : C28_1 = .region 0 R28_0 false) (l := [0, 1]) rfl ?_
  refine lj 2 R28_0_N rfl rfl rfl (opv_assign rfl rfl rfl) ?_
  refine lj 3 R28_0_N rfl rfl rfl (opv_assign rfl rfl rfl) ?_
  refine aops_nil ?_
  refine ago_seqE (rfl : C28_2 = .seq C28_3 C28_10) ?_
  refine ago_seqE (rfl : C28_3 = .seq C28_4 C28_5) ?_
  refine ago_regE (rfl : C28_4 = .region 1 R28_1 false) (l := [0, 1, 2, 3, 4, 5]) rfl ?_
  refine lj 4 R28_1_N rfl rfl rfl (opv_move rfl rfl h0) ?_
  refine lj 5 R28_1_N rfl rfl rfl (opv_lt rfl rfl rfl rfl rfl) ?_
  refine lj 6 R28_1_N rfl rfl rfl (opv_move rfl rfl rfl) ?_
  rcases Bool.eq_false_or_eq_true (decide (quota_0 < 1)) with hb1 | hb1
  · replace H := cnd_t H hb1
    refine ls 7 R28_1_N rfl rfl ⟨_, rfl, .inl ⟨_, rfl, gq hb1 rfl⟩⟩ ?_
    refine ls 8 R28_1_N rfl rfl ⟨_, rfl, .inl ⟨_, rfl, gq hb1 rfl⟩⟩ ?_
    refine lj 9 R28_1_N rfl rfl rfl (ov_pickT rfl rfl rfl rfl rfl hb1 rfl) ?_
    refine aops_nil ?_
    refine ago_condE  (rfl : C28_5 = .cond (.tmp 9) C28_6 C28_9) rfl rfl (fun h => ?_) (fun h => tf h)
    refine ago_seqE (rfl : C28_6 = .seq C28_7 C28_8) ?_
    refine ago_regE (rfl : C28_7 = .region 2 R28_2 false) (l := [0, 1]) rfl ?_
    refine lj 2 R28_2_N rfl rfl rfl (opv_assign rfl rfl rfl) ?_
    refine lj 3 R28_2_N rfl rfl rfl (opv_assign rfl rfl rfl) ?_
    refine aops_nil ?_
    exact ago_retE (rfl : C28_8 = .ret) (r := ((.pointer none), 1)) (ares_2 rfl (oneT rfl) (oneT rfl)) rfl H
  · replace H := cnd_f H hb1
    refine lj 7 R28_1_N rfl rfl ⟨_, rfl, .inl ⟨_, rfl, gq hb1 rfl⟩⟩ (opv_move rfl rfl h0) ?_
    refine lj 8 R28_1_N rfl rfl ⟨_, rfl, .inl ⟨_, rfl, gq hb1 rfl⟩⟩ (opv_gt rfl rfl rfl rfl rfl) ?_
    refine lj 9 R28_1_N rfl rfl rfl (ov_pickF rfl rfl rfl rfl rfl hb1 rfl) ?_
    refine aops_nil ?_
    refine ago_condE  (rfl : C28_5 = .cond (.tmp 9) C28_6 C28_9) rfl rfl (fun hb3 => ?_) (fun hb3 => ?_)
    · replace H := cnd_t H hb3
      refine ago_seqE (rfl : C28_6 = .seq C28_7 C28_8) ?_
      refine ago_regE (rfl : C28_7 = .region 2 R28_2 false) (l := [0, 1]) rfl ?_
      refine lj 2 R28_2_N rfl rfl rfl (opv_assign rfl rfl rfl) ?_
      refine lj 3 R28_2_N rfl rfl rfl (opv_assign rfl rfl rfl) ?_
      refine aops_nil ?_
      exact ago_retE (rfl : C28_8 = .ret) (r := ((.pointer none), 1)) (ares_2 rfl (oneT rfl) (oneT rfl)) rfl H
    replace H := cnd_f H hb3
    refine ago_skipE (rfl : C28_9 = .skip) ?_
    refine ago_seqE (rfl : C28_10 = .seq C28_11 C28_12) ?_
    refine ago_regE (rfl : C28_11 = .region 3 R28_3 false) (l := [0, 1, 2, 3, 4]) rfl ?_
    refine lj 10 R28_3_N rfl rfl rfl (opv_move rfl rfl h0) ?_
    refine lj 11 R28_3_N rfl rfl rfl (ov_bld (r := [(.slice none 0 0), .int .i64 quota_0, .int .i64 0]) rfl rfl bo100 (mp_cons rfl rfl) (fillP rfl rfl rfl rfl (fillN rfl))) ?_
    obtain ⟨p4, aw5, hp6, ha7, H⟩ := H
    refine lj 12 R28_3_N rfl rfl rfl (ov_box rfl rfl rfl rfl hp6 ha7) ?_
    refine lj 2 R28_3_N rfl rfl rfl (opv_assign rfl rfl rfl) ?_
    refine lj 3 R28_3_N rfl rfl rfl (opv_assign rfl rfl rfl) ?_
    refine aops_nil ?_
    exact ago_retE (rfl : C28_12 = .ret) (r := (p4, 0)) (ares_2 rfl (oneT rfl) (oneT rfl)) rfl H
theorem F28_ok {Q : (Value × Int) → AW → Prop} {E : List PanicEntry → AW → Prop} (quota_0 : Int) (aw : AW) (H : S28_0 Q E quota_0 aw) : CallP prog 28 [.int .i64 quota_0] aw sh28 Q E :=
  callP_of func28 C28_is rfl (Nat.le_of_ble_eq_true rfl) (S28_0_ok Q E _ quota_0 aw rfl H)
def C30_0 := bodyOf f30
theorem C30_is : f30.body = some C30_0 := by kernel_rfl
def C30_1 := cl C30_0
def R30_0 := regOps C30_1
def C30_2 := cr C30_0
def C30_3 := cl C30_2
def C30_4 := cl C30_3
def R30_1 := regOps C30_4
def C30_5 := cr C30_3
def C30_6 := cl C30_5
def C30_9 := cr C30_5
def C30_10 := cr C30_2
def C30_11 := cl C30_10
def R30_3 := regOps C30_11
def C30_12 := cr C30_10
def C30_13 := cl C30_12
def C30_14 := cl C30_13
def R30_4 := regOps C30_14
def C30_15 := cr C30_13
def C30_16 := cl C30_15
def C30_17 := cl C30_16
def C30_18 := cl C30_17
def R30_5 := regOps C30_18
def C30_19 := cr C30_17
def C30_20 := cl C30_19
def C30_21 := cl C30_20
def C30_22 := cr C30_20
def C30_23 := cr C30_19
def C30_24 := cl C30_23
def C30_25 := cl C30_24
def C30_26 := cl C30_25
def R30_6 := regOps C30_26
def C30_27 := cr C30_25
def R30_7 := regOps C30_27
def C30_28 := cr C30_23
def R30_8 := regOps C30_28
def C30_29 := cr C30_12
def C30_30 := cl C30_29
def C30_31 := cl C30_30
def R30_9 := regOps C30_31
def C30_32 := cr C30_30
def C30_33 := cl C30_32
def C30_36 := cr C30_32
def C30_37 := cr C30_29
def C30_38 := cl C30_37
def R30_11 := regOps C30_38
def C30_39 := cr C30_37
def C30_40 := cl C30_39
def R30_12 := regOps C30_40
def C30_41 := cr C30_39
def C30_42 := cl C30_41
def R30_13 := regOps C30_42
def C30_43 := cr C30_41
theorem R30_0_N : dstsOk 60 R30_0 = true := by decide +kernel
theorem R30_1_N : dstsOk 60 R30_1 = true := by decide +kernel
theorem R30_3_N : dstsOk 60 R30_3 = true := by decide +kernel
theorem R30_4_N : dstsOk 60 R30_4 = true := by decide +kernel
theorem R30_5_N : dstsOk 60 R30_5 = true := by decide +kernel
theorem R30_6_N : dstsOk 60 R30_6 = true := by decide +kernel
theorem R30_7_N : dstsOk 60 R30_7 = true := by decide +kernel
theorem R30_8_N : dstsOk 60 R30_8 = true := by decide +kernel
theorem R30_9_N : dstsOk 60 R30_9 = true := by decide +kernel
theorem R30_11_N : dstsOk 60 R30_11 = true := by decide +kernel
theorem R30_12_N : dstsOk 60 R30_12 = true := by decide +kernel
theorem R30_12_O : linOk R30_12 [0, 1, 2, 3, 4, 5, 6, 7, 11] [(8, [0, 1, 2, 3, 4, 11], []), (9, [0, 1, 2, 3, 4, 11], []), (10, [0, 11], []), (12, [0], [13, 14]), (15, [], [])] = true := by decide +kernel
theorem R30_13_N : dstsOk 60 R30_13 = true := by decide +kernel
def S30_1s (Q : (Int × Int) → AW → Prop) (E : List PanicEntry → AW → Prop)  (nx1 : Value → Int → Value → Value → Int → Int → AW → Prop) (h_0 : Value) (kind_1 : Int) (parts_2 : Value) (l_10 : Value) (t_18 : Int) (t_19 : Int) (aw : AW) : Prop :=
  cnd (decide (t_19 < t_18)) (ixS parts_2 t_19 1 fun p2 =>
  one p2 = true ∧ alcS aw [p2] 107 1 1 fun p11 aw12 =>
  app aw12 107 1 8 l_10 p11 fun v16 aw17 =>
  nx1 h_0 kind_1 parts_2 v16 t_18 (IntKind.i64.wrap (t_19 + 1)) aw17) (slen parts_2 fun n19 =>
  CallP prog 53 [.int .u8 kind_1, .int .i64 n19] aw sh53 (fun r25 aw26 =>
  CallP prog 52 [h_0, .int .i64 r25, l_10] aw26 sh52 (fun r27 aw28 =>
  cnd (!r27) (False) (nck h_0 (fldA h_0 0 fun p31 =>
  ldV aw28 p31 fun x39 =>
  slen x39 fun n41 =>
  nck h_0 (fldA h_0 0 fun p48 =>
  ldV aw28 p48 fun x56 =>
  slen parts_2 fun n58 =>
  CallP prog 54 [.int .u8 kind_1, .int .i64 n58] aw28 sh54 (fun r64 aw65 =>
  again1 aw65 p48 (x56) ∧ alcS aw65 [.int .u64 r64] 26 1 1 fun p66 aw67 =>
  again1 aw67 p48 (x56) ∧ app aw67 26 1 8 x56 p66 fun v70 aw71 =>
  app aw71 26 1 8 v70 parts_2 fun v73 aw74 =>
  nck h_0 (fldA h_0 0 fun p77 =>
  st aw74 p77 [v73] fun aw82 =>
  Q ((IntKind.u64.wrap ((IntKind.u64.wrap n41) * 2 ^ (min (1 : Int).toNat IntKind.u64.bits))), 0) aw82)) E)))) E) E)
def S30_1 (Q : (Int × Int) → AW → Prop) (E : List PanicEntry → AW → Prop)  : Nat → Value → Int → Value → Value → Int → Int → AW → Prop
  | 0 => fun _ _ _ _ _ _ _ => False
  | n + 1 => S30_1s Q E  (S30_1 Q E  n)
def S30_0 (Q : (Int × Int) → AW → Prop) (E : List PanicEntry → AW → Prop)  (h_0 : Value) (kind_1 : Int) (parts_2 : Value) (roots_3 : Value) (aw : AW) : Prop :=
  nilB (.pointer 100) h_0 (.pointer none) fun q89 =>
  cnd q89 (False) (app aw 107 1 8 (.slice none 0 0) roots_3 fun v93 aw94 =>
  slen parts_2 fun n96 =>
  ∃ n, S30_1 Q E  n h_0 kind_1 parts_2 v93 n96 0 aw94)
theorem S30_1s_ok (Q : (Int × Int) → AW → Prop) (E : List PanicEntry → AW → Prop)  (nx1 : Value → Int → Value → Value → Int → Int → AW → Prop) (L1 : ∀ (ρ : Env) (h_0 : Value) (kind_1 : Int) (parts_2 : Value) (l_10 : Value) (t_18 : Int) (t_19 : Int) (aw : AW) (h0 : ρ 0 = h_0) (h1 : ρ 1 = .int .u8 kind_1) (h2 : ρ 2 = parts_2) (h10 : ρ 10 = l_10) (h18 : ρ 18 = .int .i64 t_18) (h19 : ρ 19 = .int .i64 t_19), nx1 h_0 kind_1 parts_2 l_10 t_18 t_19 aw → AGo prog 60 [.code C30_17, .inLoop C30_17, .inBlock 0, .code C30_29] ρ [] aw (RR prog f30 60 sh30 Q E)) (ρ : Env) (h_0 : Value) (kind_1 : Int) (parts_2 : Value) (l_10 : Value) (t_18 : Int) (t_19 : Int) (aw : AW) (h0 : ρ 0 = h_0) (h1 : ρ 1 = .int .u8 kind_1) (h2 : ρ 2 = parts_2) (h10 : ρ 10 = l_10) (h18 : ρ 18 = .int .i64 t_18) (h19 : ρ 19 = .int .i64 t_19) (H : S30_1s Q E  nx1 h_0 kind_1 parts_2 l_10 t_18 t_19 aw) :
    AGo prog 60 [.code C30_17, .inLoop C30_17, .inBlock 0, .code C30_29] ρ [] aw (RR prog f30 60 sh30 Q E) := by
  unfold S30_1s at H
  refine ago_seqE (rfl : C30_17 = .seq C30_18 C30_19) ?_
  refine ago_regE (rfl : C30_18 = .region 5 R30_5 false) (l := [0]) rfl ?_
  refine lj 20 R30_5_N rfl rfl rfl (opv_lt rfl rfl rfl h19 h18) ?_
  refine aops_nil ?_
  refine ago_seqE (rfl : C30_19 = .seq C30_20 C30_23) ?_
  refine ago_condE  (rfl : C30_20 = .cond (.tmp 20) C30_21 C30_22) rfl rfl (fun hb1 => ?_) (fun hb1 => ?_)
  · replace H := cnd_t H hb1
    refine ago_skipE (rfl : C30_21 = .skip) ?_
    refine ago_seqE (rfl : C30_23 = .seq C30_24 C30_28) ?_
    refine ago_blockE (rfl : C30_24 = .block 1 C30_25) ?_
    refine ago_seqE (rfl : C30_25 = .seq C30_26 C30_27) ?_
    refine ago_regE (rfl : C30_26 = .region 6 R30_6 false) (l := [0, 1]) rfl ?_
    refine lj 21 R30_6_N rfl rfl rfl (opv_move rfl rfl h19) ?_
    refine lj 11 R30_6_N rfl rfl rfl (opv_assign rfl rfl rfl) ?_
    refine aops_nil ?_
    refine ago_regE (rfl : C30_27 = .region 7 R30_7 false) (l := [0, 1, 2, 3, 4, 5, 6]) rfl ?_
    refine lj 22 R30_7_N rfl rfl rfl (opv_move rfl rfl h10) ?_
    refine lj 23 R30_7_N rfl rfl rfl (opv_move rfl rfl h2) ?_
    refine lj 24 R30_7_N rfl rfl rfl (opv_move rfl rfl rfl) ?_
    obtain ⟨b3, i4, l5, c6, p2, hp7, h08, hj9, hv10, H⟩ := H
    refine lj 25 R30_7_N rfl rfl rfl (ov_ixS rfl rfl rfl underlying62 sz26 rfl rfl hp7 h08 hj9 hv10) ?_
    obtain ⟨h115, H⟩ := H
    obtain ⟨p11, aw12, hp13, ha14, H⟩ := H
    refine lj 26 R30_7_N rfl rfl rfl (ov_bsA (r := [p2]) (vs := [p2]) rfl rfl underlying80 sz107 z107 rfl rfl rfl rfl rfl (mp_cons rfl rfl) (.one (cells_one h115) .nil) hp13 ha14) ?_
    obtain ⟨v16, aw17, hq18, H⟩ := H
    refine lj 27 R30_7_N rfl rfl rfl (ov_app rfl rfl rfl rfl underlying80 sz107 by107 underlying80 rfl z107 rfl (by decide) (by decide) rfl rfl hq18) ?_
    refine lj 10 R30_7_N rfl rfl rfl (opv_assign rfl rfl rfl) ?_
    refine aops_nil ?_
    refine ago_inBlock ?_
    refine ago_regE (rfl : C30_28 = .region 8 R30_8 false) (l := [0, 1]) rfl ?_
    refine lj 28 R30_8_N rfl rfl rfl (opv_add rfl rfl rfl h19 rfl) ?_
    refine lj 19 R30_8_N rfl rfl rfl (opv_move rfl rfl rfl) ?_
    refine aops_nil ?_
    refine ago_inLoop ?_
    exact L1 _ h_0 kind_1 parts_2 v16 t_18 (IntKind.i64.wrap (t_19 + 1)) aw17 h0 h1 h2 rfl h18 rfl H
  replace H := cnd_f H hb1
  refine ago_exitE (rfl : C30_22 = .exit 0) rfl ?_
  refine ago_seqE (rfl : C30_29 = .seq C30_30 C30_37) ?_
  refine ago_seqE (rfl : C30_30 = .seq C30_31 C30_32) ?_
  refine ago_regE (rfl : C30_31 = .region 9 R30_9 false) (l := [0, 1, 2, 3, 4, 5, 6, 7]) rfl ?_
  refine lj 29 R30_9_N rfl rfl rfl (opv_move rfl rfl h0) ?_
  refine lj 30 R30_9_N rfl rfl rfl (opv_move rfl rfl h1) ?_
  refine lj 31 R30_9_N rfl rfl rfl (opv_move rfl rfl h2) ?_
  obtain ⟨q20, l21, c22, n19, hv23, hn24, H⟩ := H
  refine lj 32 R30_9_N rfl rfl rfl (ov_len rfl rfl rfl underlying62 rfl hv23 hn24) ?_
  refine lc 33 R30_9_N rfl rfl rfl (opc_of rfl rfl is53 (ma_cons rfl (ma_cons rfl rfl))) H (fun _ _ h => ⟨rfl, h⟩) fun r25 aw26 H => ?_
  refine lj 34 R30_9_N rfl rfl rfl (opv_move rfl rfl h10) ?_
  refine lc 35 R30_9_N rfl rfl rfl (opc_of rfl rfl is52 (ma_cons rfl (ma_cons rfl (ma_cons rfl rfl)))) H (fun _ _ h => ⟨rfl, h⟩) fun r27 aw28 H => ?_
  refine lj 36 R30_9_N rfl rfl rfl (opv_not rfl rfl rfl) ?_
  refine aops_nil ?_
  refine ago_condE  (rfl : C30_32 = .cond (.tmp 36) C30_33 C30_36) rfl rfl (fun hb29 => ?_) (fun hb29 => ?_)
  · exact (cnd_t H hb29).elim
  replace H := cnd_f H hb29
  refine ago_skipE (rfl : C30_36 = .skip) ?_
  refine ago_seqE (rfl : C30_37 = .seq C30_38 C30_39) ?_
  refine ago_regE (rfl : C30_38 = .region 11 R30_11 false) (l := [0, 1, 2, 3, 4, 5]) rfl ?_
  refine lj 37 R30_11_N rfl rfl rfl (opv_move rfl rfl h0) ?_
  obtain ⟨hp30, H⟩ := H
  refine lj 38 R30_11_N rfl rfl rfl (ov_nck rfl rfl rfl hp30) ?_
  obtain ⟨b32, i33, p31, hp34, hv35, H⟩ := H
  refine lj 39 R30_11_N rfl rfl rfl (ov_fldA rfl rfl underlying100 rfl sz62 (by decide) rfl hp34 rfl hv35) ?_
  obtain ⟨b36, i37, x39, hp38, hg40, H⟩ := H
  refine lj 40 R30_11_N rfl rfl rfl (ov_ldV rfl underlying62 rfl rfl rfl hp38 hg40) ?_
  obtain ⟨q42, l43, c44, n41, hv45, hn46, H⟩ := H
  refine lj 41 R30_11_N rfl rfl rfl (ov_len rfl rfl rfl underlying62 rfl hv45 hn46) ?_
  refine lj 12 R30_11_N rfl rfl rfl (opv_assign rfl rfl rfl) ?_
  refine aops_nil ?_
  refine ago_seqE (rfl : C30_39 = .seq C30_40 C30_41) ?_
  refine ago_cut (fun ρ => ρ 0 = h_0 ∧ ρ 1 = .int .u8 kind_1 ∧ ρ 2 = parts_2 ∧ ρ 12 = .int .i64 n41 ∧ True) ⟨h0, h1, h2, rfl, trivial⟩ (fun ρ ⟨h0, h1, h2, h12, _⟩ => ?_)
  obtain ⟨hp47, H⟩ := H
  obtain ⟨b49, i50, p48, hp51, hv52, H⟩ := H
  obtain ⟨b53, i54, x56, hp55, hg57, H⟩ := H
  obtain ⟨q59, l60, c61, n58, hv62, hn63, H⟩ := H
  refine ago_drawH (p := [0, 1, 2, 3, 4, 5, 6, 7, 11]) (tl := [(8, [0, 1, 2, 3, 4, 11], []), (9, [0, 1, 2, 3, 4, 11], []), (10, [0, 11], []), (12, [0], [13, 14]), (15, [], [])]) (hv := [(0, h_0), (1, h_0), (2, h_0), (3, p48), (4, x56), (5, Value.int .u8 kind_1), (6, parts_2), (7, Value.int .i64 n58), (11, parts_2)]) (rfl : C30_40 = .region 12 R30_12 true) mixed R30_12_N R30_12_O rfl (pv_cons rfl (pv_cons rfl (pv_cons rfl (pv_cons rfl (pv_cons rfl (pv_cons rfl (pv_cons rfl (pv_cons rfl (pv_cons rfl (pv_nil _))))))))))
    (fc 42 h_0 (hd_v rfl fun ρ hρ => ⟨rfl, opv_move rfl rfl ((hρ 0 (lmem rfl)).trans h0)⟩) rfl rfl
    (fc 43 h_0 (hd_v rfl fun ρ hρ => ⟨rfl, opv_move rfl rfl ((hρ 0 (lmem rfl)).trans h0)⟩) rfl rfl
    (fc 44 h_0 (hd_v rfl fun ρ hρ => ⟨rfl, ov_nck rfl rfl ((hρ 43 (lmem rfl)).trans rfl) hp47⟩) rfl rfl
    (fc 45 p48 (hd_v rfl fun ρ hρ => ⟨rfl, ov_fldA rfl rfl underlying100 rfl sz62 (by decide) ((hρ 44 (lmem rfl)).trans rfl) hp51 rfl hv52⟩) rfl rfl
    (fc 46 x56 (hd_v rfl fun ρ hρ => ⟨rfl, ov_ldV rfl underlying62 rfl rfl ((hρ 45 (lmem rfl)).trans rfl) hp55 hg57⟩) rfl rfl
    (fc 47 (.int .u8 kind_1) (hd_v rfl fun ρ hρ => ⟨rfl, opv_move rfl rfl ((hρ 1 (lmem rfl)).trans h1)⟩) rfl rfl
    (fc 48 parts_2 (hd_v rfl fun ρ hρ => ⟨rfl, opv_move rfl rfl ((hρ 2 (lmem rfl)).trans h2)⟩) rfl rfl
    (fc 49 (.int .i64 n58) (hd_v rfl fun ρ hρ => ⟨rfl, ov_len rfl rfl rfl underlying62 ((hρ 48 (lmem rfl)).trans rfl) hv62 hn63⟩) rfl rfl
    (fc 53 parts_2 (hd_v rfl fun ρ hρ => ⟨rfl, opv_move rfl rfl ((hρ 2 (lmem rfl)).trans h2)⟩) rfl rfl
    ffn))))))))) ?_
  refine lt_call (dt := some 50) rfl rfl (fun ρ hρ => ⟨rfl, opc_of rfl rfl is54 (ma_cons ((hρ 47 (lmem rfl)).trans rfl) (ma_cons ((hρ 49 (lmem rfl)).trans rfl) rfl))⟩) H (fun _ _ h _ => ⟨rfl, h⟩) fun r64 aw65 H => ?_
  obtain ⟨hg57, H⟩ := H
  replace hg57 := hg57 _ _ hp55
  refine lt_next (l := [0, 1, 2, 3, 4, 11]) (hv := []) rfl rfl (pv_nil _)
    (fc 42 h_0 (hd_v rfl fun ρ hρ => ⟨rfl, opv_move rfl rfl ((hρ 0 (lmem rfl)).trans h0)⟩) rfl rfl
    (fc 43 h_0 (hd_v rfl fun ρ hρ => ⟨rfl, opv_move rfl rfl ((hρ 0 (lmem rfl)).trans h0)⟩) rfl rfl
    (fc 44 h_0 (hd_v rfl fun ρ hρ => ⟨rfl, ov_nck rfl rfl ((hρ 43 (lmem rfl)).trans rfl) hp47⟩) rfl rfl
    (fc 45 p48 (hd_v rfl fun ρ hρ => ⟨rfl, ov_fldA rfl rfl underlying100 rfl sz62 (by decide) ((hρ 44 (lmem rfl)).trans rfl) hp51 rfl hv52⟩) rfl rfl
    (fc 46 x56 (hd_v rfl fun ρ hρ => ⟨rfl, ov_ldV rfl underlying62 rfl rfl ((hρ 45 (lmem rfl)).trans rfl) hp55 hg57⟩) rfl rfl
    (fc 53 parts_2 (hd_v rfl fun ρ hρ => ⟨rfl, opv_move rfl rfl ((hρ 2 (lmem rfl)).trans h2)⟩) rfl rfl
    ffn)))))) ?_
  obtain ⟨p66, aw67, hp68, ha69, H⟩ := H
  refine lt_val (dt := some 51) (v := p66) rfl rfl (fun ρ hρ => ⟨rfl, ov_bsA (r := [.int .u64 r64]) (vs := [.int .u64 r64]) rfl rfl underlying62 sz26 z26 rfl rfl rfl rfl rfl (mp_cons ((hρ 50 (lmem rfl)).trans rfl) rfl) (.one rfl .nil) hp68 ha69⟩) ?_
  obtain ⟨hg57, H⟩ := H
  replace hg57 := hg57 _ _ hp55
  refine lt_next (l := [0, 1, 2, 3, 4, 11]) (hv := []) rfl rfl (pv_nil _)
    (fc 42 h_0 (hd_v rfl fun ρ hρ => ⟨rfl, opv_move rfl rfl ((hρ 0 (lmem rfl)).trans h0)⟩) rfl rfl
    (fc 43 h_0 (hd_v rfl fun ρ hρ => ⟨rfl, opv_move rfl rfl ((hρ 0 (lmem rfl)).trans h0)⟩) rfl rfl
    (fc 44 h_0 (hd_v rfl fun ρ hρ => ⟨rfl, ov_nck rfl rfl ((hρ 43 (lmem rfl)).trans rfl) hp47⟩) rfl rfl
    (fc 45 p48 (hd_v rfl fun ρ hρ => ⟨rfl, ov_fldA rfl rfl underlying100 rfl sz62 (by decide) ((hρ 44 (lmem rfl)).trans rfl) hp51 rfl hv52⟩) rfl rfl
    (fc 46 x56 (hd_v rfl fun ρ hρ => ⟨rfl, ov_ldV rfl underlying62 rfl rfl ((hρ 45 (lmem rfl)).trans rfl) hp55 hg57⟩) rfl rfl
    (fc 53 parts_2 (hd_v rfl fun ρ hρ => ⟨rfl, opv_move rfl rfl ((hρ 2 (lmem rfl)).trans h2)⟩) rfl rfl
    ffn)))))) ?_
  obtain ⟨v70, aw71, hq72, H⟩ := H
  refine lt_val (dt := some 52) (v := v70) rfl rfl (fun ρ hρ => ⟨rfl, ov_app rfl rfl rfl rfl underlying62 sz26 by26 underlying62 rfl z26 rfl (by decide) (by decide) ((hρ 46 (lmem rfl)).trans rfl) ((hρ 51 (lmem rfl)).trans rfl) hq72⟩) ?_
  refine lt_next (l := [0, 11]) (hv := []) rfl rfl (pv_nil _)
    (fc 42 h_0 (hd_v rfl fun ρ hρ => ⟨rfl, opv_move rfl rfl ((hρ 0 (lmem rfl)).trans h0)⟩) rfl rfl
    (fc 53 parts_2 (hd_v rfl fun ρ hρ => ⟨rfl, opv_move rfl rfl ((hρ 2 (lmem rfl)).trans h2)⟩) rfl rfl
    ffn)) ?_
  obtain ⟨v73, aw74, hq75, H⟩ := H
  refine lt_val (dt := some 54) (v := v73) rfl rfl (fun ρ hρ => ⟨rfl, ov_app rfl rfl rfl rfl underlying62 sz26 by26 underlying62 rfl z26 rfl (by decide) (by decide) ((hρ 52 (lmem rfl)).trans rfl) ((hρ 53 (lmem rfl)).trans rfl) hq75⟩) ?_
  obtain ⟨hp76, H⟩ := H
  obtain ⟨b78, i79, p77, hp80, hv81, H⟩ := H
  refine lt_next (l := [0, 13, 14]) (hv := [(13, h_0), (14, p77)]) rfl rfl (pv_cons rfl (pv_cons rfl (pv_nil _)))
    (fc 42 h_0 (hd_v rfl fun ρ hρ => ⟨rfl, opv_move rfl rfl ((hρ 0 (lmem rfl)).trans h0)⟩) rfl rfl
    (fc 55 h_0 (hd_v rfl fun ρ hρ => ⟨rfl, ov_nck rfl rfl ((hρ 42 (lmem rfl)).trans rfl) hp76⟩) rfl rfl
    (fc 56 p77 (hd_v rfl fun ρ hρ => ⟨rfl, ov_fldA rfl rfl underlying100 rfl sz62 (by decide) ((hρ 55 (lmem rfl)).trans rfl) hp80 rfl hv81⟩) rfl rfl
    ffn))) ?_
  obtain ⟨b83, i84, aw82, hp85, hw86, ho87, ha88, H⟩ := H
  refine lt_val (dt := none) (v := undef) rfl rfl (fun ρ hρ => ⟨rfl, ov_st rfl rfl rfl ((hρ 56 (lmem rfl)).trans rfl) ((hρ 54 (lmem rfl)).trans rfl) (cells_all ho87) sz62 hp85 hw86 ho87 ha88⟩) ?_
  refine lt_next (l := []) (hv := []) rfl rfl (pv_nil _)
    ffn ?_
  refine lt_end ?_
  refine ago_seqE (rfl : C30_41 = .seq C30_42 C30_43) ?_
  refine ago_cut (fun ρ => ρ 12 = .int .i64 n41 ∧ True) ⟨h12, trivial⟩ (fun ρ ⟨h12, _⟩ => ?_)
  refine ago_regE (rfl : C30_42 = .region 13 R30_13 false) (l := [0, 1, 2, 3, 4]) rfl ?_
  refine lj 57 R30_13_N rfl rfl rfl (opv_move rfl rfl h12) ?_
  refine lj 58 R30_13_N rfl rfl rfl (opv_conv rfl rfl underlying3 underlying26 rfl) ?_
  refine lj 59 R30_13_N rfl rfl rfl (opv_shl rfl rfl rfl rfl rfl (by decide)) ?_
  refine lj 8 R30_13_N rfl rfl rfl (opv_assign rfl rfl rfl) ?_
  refine lj 9 R30_13_N rfl rfl rfl (opv_assign rfl rfl rfl) ?_
  refine aops_nil ?_
  exact ago_retE (rfl : C30_43 = .ret) (r := ((IntKind.u64.wrap ((IntKind.u64.wrap n41) * 2 ^ (min (1 : Int).toNat IntKind.u64.bits))), 0)) (ares_2 rfl (oneT rfl) (oneT rfl)) rfl H
theorem S30_1_ok (Q : (Int × Int) → AW → Prop) (E : List PanicEntry → AW → Prop)  : ∀ (n : Nat) (ρ : Env) (h_0 : Value) (kind_1 : Int) (parts_2 : Value) (l_10 : Value) (t_18 : Int) (t_19 : Int) (aw : AW) (h0 : ρ 0 = h_0) (h1 : ρ 1 = .int .u8 kind_1) (h2 : ρ 2 = parts_2) (h10 : ρ 10 = l_10) (h18 : ρ 18 = .int .i64 t_18) (h19 : ρ 19 = .int .i64 t_19), S30_1 Q E  n h_0 kind_1 parts_2 l_10 t_18 t_19 aw →
    AGo prog 60 [.code C30_17, .inLoop C30_17, .inBlock 0, .code C30_29] ρ [] aw (RR prog f30 60 sh30 Q E)
  | 0, _, _, _, _, _, _, _, _, _, _, _, _, _, _ => fun H => H.elim
  | n + 1, ρ, h_0, kind_1, parts_2, l_10, t_18, t_19, aw, h0, h1, h2, h10, h18, h19 => fun H => S30_1s_ok Q E  _ (S30_1_ok Q E  n) ρ h_0 kind_1 parts_2 l_10 t_18 t_19 aw h0 h1 h2 h10 h18 h19 H
theorem S30_0_ok (Q : (Int × Int) → AW → Prop) (E : List PanicEntry → AW → Prop)  (ρ : Env) (h_0 : Value) (kind_1 : Int) (parts_2 : Value) (roots_3 : Value) (aw : AW) (h0 : ρ 0 = h_0) (h1 : ρ 1 = .int .u8 kind_1) (h2 : ρ 2 = parts_2) (h3 : ρ 3 = roots_3) (H : S30_0 Q E  h_0 kind_1 parts_2 roots_3 aw) :
    AGo prog 60 [.code C30_0] ρ [] aw (RR prog f30 60 sh30 Q E) := by
  unfold S30_0 at H
  refine ago_seqE (rfl : C30_0 = .seq C30_1 C30_2) ?_
  refine ago_regE (rfl : C30_1 = .region 0 R30_0 false) (l := [0, 1]) rfl ?_
  refine lj 8 R30_0_N rfl rfl rfl (opv_assign rfl rfl rfl) ?_
  refine lj 9 R30_0_N rfl rfl rfl (opv_assign rfl rfl rfl) ?_
  refine aops_nil ?_
  refine ago_seqE (rfl : C30_2 = .seq C30_3 C30_10) ?_
  refine ago_seqE (rfl : C30_3 = .seq C30_4 C30_5) ?_
  refine ago_regE (rfl : C30_4 = .region 1 R30_1 false) (l := [0, 1]) rfl ?_
  refine lj 13 R30_1_N rfl rfl rfl (opv_move rfl rfl h0) ?_
  obtain ⟨q89, hf90, hq91, H⟩ := H
  refine lj 14 R30_1_N rfl rfl rfl (ov_eqNil rfl rfl underlying50 rfl hf90 hq91) ?_
  refine aops_nil ?_
  refine ago_condE  (rfl : C30_5 = .cond (.tmp 14) C30_6 C30_9) rfl rfl (fun hb92 => ?_) (fun hb92 => ?_)
  · exact (cnd_t H hb92).elim
  replace H := cnd_f H hb92
  refine ago_skipE (rfl : C30_9 = .skip) ?_
  refine ago_seqE (rfl : C30_10 = .seq C30_11 C30_12) ?_
  refine ago_regE (rfl : C30_11 = .region 3 R30_3 false) (l := [0, 1, 2]) rfl ?_
  refine lj 15 R30_3_N rfl rfl rfl (opv_move rfl rfl h3) ?_
  obtain ⟨v93, aw94, hq95, H⟩ := H
  refine lj 16 R30_3_N rfl rfl rfl (ov_app rfl rfl rfl rfl underlying80 sz107 by107 underlying80 rfl z107 rfl (by decide) (by decide) rfl rfl hq95) ?_
  refine lj 10 R30_3_N rfl rfl rfl (opv_assign rfl rfl rfl) ?_
  refine aops_nil ?_
  refine ago_seqE (rfl : C30_12 = .seq C30_13 C30_29) ?_
  refine ago_seqE (rfl : C30_13 = .seq C30_14 C30_15) ?_
  refine ago_regE (rfl : C30_14 = .region 4 R30_4 false) (l := [0, 1, 2]) rfl ?_
  refine lj 17 R30_4_N rfl rfl rfl (opv_move rfl rfl h2) ?_
  obtain ⟨q97, l98, c99, n96, hv100, hn101, H⟩ := H
  refine lj 18 R30_4_N rfl rfl rfl (ov_len rfl rfl rfl underlying62 rfl hv100 hn101) ?_
  refine lj 19 R30_4_N rfl rfl rfl (opv_move rfl rfl rfl) ?_
  refine aops_nil ?_
  refine ago_blockE (rfl : C30_15 = .block 0 C30_16) ?_
  refine ago_loopE (rfl : C30_16 = .loop C30_17) ?_
  obtain ⟨n, H⟩ := H
  exact S30_1_ok Q E  n _ h_0 kind_1 parts_2 v93 n96 0 aw94 h0 h1 h2 rfl rfl rfl H
theorem F30_ok {Q : (Int × Int) → AW → Prop} {E : List PanicEntry → AW → Prop} (h_0 : Value) (kind_1 : Int) (parts_2 : Value) (roots_3 : Value) (aw : AW) (H : S30_0 Q E h_0 kind_1 parts_2 roots_3 aw) : CallP prog 30 [h_0, .int .u8 kind_1, parts_2, roots_3] aw sh30 Q E :=
  callP_of func30 C30_is rfl (Nat.le_of_ble_eq_true rfl) (S30_0_ok Q E _ h_0 kind_1 parts_2 roots_3 aw rfl rfl rfl rfl H)
def C38_0 := bodyOf f38
theorem C38_is : f38.body = some C38_0 := by kernel_rfl
def C38_1 := cl C38_0
def R38_0 := regOps C38_1
def C38_2 := cr C38_0
def C38_3 := cl C38_2
def C38_4 := cl C38_3
def R38_1 := regOps C38_4
def C38_5 := cr C38_3
def C38_6 := cl C38_5
def R38_2 := regOps C38_6
def C38_7 := cr C38_5
def C38_8 := cl C38_7
def C38_9 := cl C38_8
def R38_3 := regOps C38_9
def C38_10 := cr C38_8
def C38_11 := cr C38_7
def C38_12 := cr C38_2
def C38_13 := cl C38_12
def R38_4 := regOps C38_13
def C38_14 := cr C38_12
theorem R38_0_N : dstsOk 19 R38_0 = true := by decide +kernel
theorem R38_1_N : dstsOk 19 R38_1 = true := by decide +kernel
theorem R38_2_N : dstsOk 19 R38_2 = true := by decide +kernel
theorem R38_3_N : dstsOk 19 R38_3 = true := by decide +kernel
theorem R38_4_N : dstsOk 19 R38_4 = true := by decide +kernel
def S38_0 (Q : Int → AW → Prop) (E : List PanicEntry → AW → Prop)  (h_0 : Value) (w_1 : Int) (aw : AW) : Prop :=
  CallP prog 41 [h_0, .int .u64 w_1] aw sh41 (fun r1 aw2 =>
  cnd (decide (0 ≤ r1)) (nck h_0 (fldA h_0 0 fun p5 =>
  ldV aw2 p5 fun x13 =>
  ixS x13 r1 1 fun p15 =>
  ldI .u64 aw2 p15 fun x27 =>
  Q (IntKind.u8.wrap x27) aw2)) (Q 0 aw2)) E
theorem S38_0_ok (Q : Int → AW → Prop) (E : List PanicEntry → AW → Prop)  (ρ : Env) (h_0 : Value) (w_1 : Int) (aw : AW) (h0 : ρ 0 = h_0) (h1 : ρ 1 = .int .u64 w_1) (H : S38_0 Q E  h_0 w_1 aw) :
    AGo prog 19 [.code C38_0] ρ [] aw (RR prog f38 19 sh38 Q E) := by
  unfold S38_0 at H
  refine ago_seqE (rfl : C38_0 = .seq C38_1 C38_2) ?_
  refine ago_regE (rfl : C38_1 = .region 0 R38_0 false) (l := [0]) rfl ?_
  refine lj 4 R38_0_N rfl rfl rfl (opv_assign rfl rfl rfl) ?_
  refine aops_nil ?_
  refine ago_seqE (rfl : C38_2 = .seq C38_3 C38_12) ?_
  refine ago_seqE (rfl : C38_3 = .seq C38_4 C38_5) ?_
  refine ago_regE (rfl : C38_4 = .region 1 R38_1 false) (l := [0, 1, 2, 3]) rfl ?_
  refine lj 6 R38_1_N rfl rfl rfl (opv_move rfl rfl h0) ?_
  refine lj 7 R38_1_N rfl rfl rfl (opv_move rfl rfl h1) ?_
  refine lc 8 R38_1_N rfl rfl rfl (opc_of rfl rfl is41 (ma_cons rfl (ma_cons rfl rfl))) H (fun _ _ h => ⟨rfl, h⟩) fun r1 aw2 H => ?_
  refine lj 5 R38_1_N rfl rfl rfl (opv_assign rfl rfl rfl) ?_
  refine aops_nil ?_
  refine ago_seqE (rfl : C38_5 = .seq C38_6 C38_7) ?_
  refine ago_regE (rfl : C38_6 = .region 2 R38_2 false) (l := [0, 1]) rfl ?_
  refine lj 9 R38_2_N rfl rfl rfl (opv_move rfl rfl rfl) ?_
  refine lj 10 R38_2_N rfl rfl rfl (opv_ge rfl rfl rfl rfl rfl) ?_
  refine aops_nil ?_
  refine ago_condE  (rfl : C38_7 = .cond (.tmp 10) C38_8 C38_11) rfl rfl (fun hb3 => ?_) (fun hb3 => ?_)
  · replace H := cnd_t H hb3
    refine ago_seqE (rfl : C38_8 = .seq C38_9 C38_10) ?_
    refine ago_regE (rfl : C38_9 = .region 3 R38_3 false) (l := [0, 1, 2, 3, 4, 5, 6, 7, 8]) rfl ?_
    refine lj 11 R38_3_N rfl rfl rfl (opv_move rfl rfl h0) ?_
    obtain ⟨hp4, H⟩ := H
    refine lj 12 R38_3_N rfl rfl rfl (ov_nck rfl rfl rfl hp4) ?_
    obtain ⟨b6, i7, p5, hp8, hv9, H⟩ := H
    refine lj 13 R38_3_N rfl rfl rfl (ov_fldA rfl rfl underlying100 rfl sz62 (by decide) rfl hp8 rfl hv9) ?_
    obtain ⟨b10, i11, x13, hp12, hg14, H⟩ := H
    refine lj 14 R38_3_N rfl rfl rfl (ov_ldV rfl underlying62 rfl rfl rfl hp12 hg14) ?_
    refine lj 15 R38_3_N rfl rfl rfl (opv_move rfl rfl rfl) ?_
    obtain ⟨b16, i17, l18, c19, p15, hp20, h021, hj22, hv23, H⟩ := H
    refine lj 16 R38_3_N rfl rfl rfl (ov_ixS rfl rfl rfl underlying62 sz26 rfl rfl hp20 h021 hj22 hv23) ?_
    obtain ⟨b24, i25, x27, hp26, hg28, H⟩ := H
    refine lj 17 R38_3_N rfl rfl rfl (ov_ldI rfl underlying26 rfl rfl hp26 hg28) ?_
    refine lj 18 R38_3_N rfl rfl rfl (opv_conv rfl rfl underlying26 underlying5 rfl) ?_
    refine lj 4 R38_3_N rfl rfl rfl (opv_assign rfl rfl rfl) ?_
    refine aops_nil ?_
    exact ago_retE (rfl : C38_10 = .ret) (r := (IntKind.u8.wrap x27)) (ares_1 rfl (oneT rfl)) rfl H
  replace H := cnd_f H hb3
  refine ago_skipE (rfl : C38_11 = .skip) ?_
  refine ago_seqE (rfl : C38_12 = .seq C38_13 C38_14) ?_
  refine ago_regE (rfl : C38_13 = .region 4 R38_4 false) (l := [0]) rfl ?_
  refine lj 4 R38_4_N rfl rfl rfl (opv_assign rfl rfl rfl) ?_
  refine aops_nil ?_
  exact ago_retE (rfl : C38_14 = .ret) (r := 0) (ares_1 rfl (oneT rfl)) rfl H
theorem F38_ok {Q : Int → AW → Prop} {E : List PanicEntry → AW → Prop} (h_0 : Value) (w_1 : Int) (aw : AW) (H : S38_0 Q E h_0 w_1 aw) : CallP prog 38 [h_0, .int .u64 w_1] aw sh38 Q E :=
  callP_of func38 C38_is rfl (Nat.le_of_ble_eq_true rfl) (S38_0_ok Q E _ h_0 w_1 aw rfl rfl H)
def C39_0 := bodyOf f39
theorem C39_is : f39.body = some C39_0 := by kernel_rfl
def C39_1 := cl C39_0
def R39_0 := regOps C39_1
def C39_2 := cr C39_0
def C39_3 := cl C39_2
def C39_4 := cl C39_3
def R39_1 := regOps C39_4
def C39_5 := cr C39_3
def C39_6 := cl C39_5
def R39_2 := regOps C39_6
def C39_7 := cr C39_5
def C39_8 := cl C39_7
def C39_9 := cl C39_8
def R39_3 := regOps C39_9
def C39_10 := cr C39_8
def C39_11 := cr C39_7
def C39_12 := cr C39_2
def C39_13 := cl C39_12
def R39_4 := regOps C39_13
def C39_14 := cr C39_12
theorem R39_0_N : dstsOk 20 R39_0 = true := by decide +kernel
theorem R39_1_N : dstsOk 20 R39_1 = true := by decide +kernel
theorem R39_2_N : dstsOk 20 R39_2 = true := by decide +kernel
theorem R39_3_N : dstsOk 20 R39_3 = true := by decide +kernel
theorem R39_4_N : dstsOk 20 R39_4 = true := by decide +kernel
def S39_0 (Q : Int → AW → Prop) (E : List PanicEntry → AW → Prop)  (h_0 : Value) (w_1 : Int) (aw : AW) : Prop :=
  CallP prog 41 [h_0, .int .u64 w_1] aw sh41 (fun r1 aw2 =>
  cnd (decide (0 ≤ r1)) (nck h_0 (fldA h_0 0 fun p5 =>
  ldV aw2 p5 fun x13 =>
  ixS x13 r1 1 fun p15 =>
  ldI .u64 aw2 p15 fun x27 =>
  Q (IntKind.i64.wrap (Int.fdiv x27 (2 ^ (min (8 : Int).toNat IntKind.u64.bits)))) aw2)) (Q 0 aw2)) E
theorem S39_0_ok (Q : Int → AW → Prop) (E : List PanicEntry → AW → Prop)  (ρ : Env) (h_0 : Value) (w_1 : Int) (aw : AW) (h0 : ρ 0 = h_0) (h1 : ρ 1 = .int .u64 w_1) (H : S39_0 Q E  h_0 w_1 aw) :
    AGo prog 20 [.code C39_0] ρ [] aw (RR prog f39 20 sh39 Q E) := by
  unfold S39_0 at H
  refine ago_seqE (rfl : C39_0 = .seq C39_1 C39_2) ?_
  refine ago_regE (rfl : C39_1 = .region 0 R39_0 false) (l := [0]) rfl ?_
  refine lj 4 R39_0_N rfl rfl rfl (opv_assign rfl rfl rfl) ?_
  refine aops_nil ?_
  refine ago_seqE (rfl : C39_2 = .seq C39_3 C39_12) ?_
  refine ago_seqE (rfl : C39_3 = .seq C39_4 C39_5) ?_
  refine ago_regE (rfl : C39_4 = .region 1 R39_1 false) (l := [0, 1, 2, 3]) rfl ?_
  refine lj 6 R39_1_N rfl rfl rfl (opv_move rfl rfl h0) ?_
  refine lj 7 R39_1_N rfl rfl rfl (opv_move rfl rfl h1) ?_
  refine lc 8 R39_1_N rfl rfl rfl (opc_of rfl rfl is41 (ma_cons rfl (ma_cons rfl rfl))) H (fun _ _ h => ⟨rfl, h⟩) fun r1 aw2 H => ?_
  refine lj 5 R39_1_N rfl rfl rfl (opv_assign rfl rfl rfl) ?_
  refine aops_nil ?_
  refine ago_seqE (rfl : C39_5 = .seq C39_6 C39_7) ?_
  refine ago_regE (rfl : C39_6 = .region 2 R39_2 false) (l := [0, 1]) rfl ?_
  refine lj 9 R39_2_N rfl rfl rfl (opv_move rfl rfl rfl) ?_
  refine lj 10 R39_2_N rfl rfl rfl (opv_ge rfl rfl rfl rfl rfl) ?_
  refine aops_nil ?_
  refine ago_condE  (rfl : C39_7 = .cond (.tmp 10) C39_8 C39_11) rfl rfl (fun hb3 => ?_) (fun hb3 => ?_)
  · replace H := cnd_t H hb3
    refine ago_seqE (rfl : C39_8 = .seq C39_9 C39_10) ?_
    refine ago_regE (rfl : C39_9 = .region 3 R39_3 false) (l := [0, 1, 2, 3, 4, 5, 6, 7, 8, 9]) rfl ?_
    refine lj 11 R39_3_N rfl rfl rfl (opv_move rfl rfl h0) ?_
    obtain ⟨hp4, H⟩ := H
    refine lj 12 R39_3_N rfl rfl rfl (ov_nck rfl rfl rfl hp4) ?_
    obtain ⟨b6, i7, p5, hp8, hv9, H⟩ := H
    refine lj 13 R39_3_N rfl rfl rfl (ov_fldA rfl rfl underlying100 rfl sz62 (by decide) rfl hp8 rfl hv9) ?_
    obtain ⟨b10, i11, x13, hp12, hg14, H⟩ := H
    refine lj 14 R39_3_N rfl rfl rfl (ov_ldV rfl underlying62 rfl rfl rfl hp12 hg14) ?_
    refine lj 15 R39_3_N rfl rfl rfl (opv_move rfl rfl rfl) ?_
    obtain ⟨b16, i17, l18, c19, p15, hp20, h021, hj22, hv23, H⟩ := H
    refine lj 16 R39_3_N rfl rfl rfl (ov_ixS rfl rfl rfl underlying62 sz26 rfl rfl hp20 h021 hj22 hv23) ?_
    obtain ⟨b24, i25, x27, hp26, hg28, H⟩ := H
    refine lj 17 R39_3_N rfl rfl rfl (ov_ldI rfl underlying26 rfl rfl hp26 hg28) ?_
    refine lj 18 R39_3_N rfl rfl rfl (opv_shr rfl rfl rfl rfl rfl (by decide)) ?_
    refine lj 19 R39_3_N rfl rfl rfl (opv_conv rfl rfl underlying26 underlying3 rfl) ?_
    refine lj 4 R39_3_N rfl rfl rfl (opv_assign rfl rfl rfl) ?_
    refine aops_nil ?_
    exact ago_retE (rfl : C39_10 = .ret) (r := (IntKind.i64.wrap (Int.fdiv x27 (2 ^ (min (8 : Int).toNat IntKind.u64.bits))))) (ares_1 rfl (oneT rfl)) rfl H
  replace H := cnd_f H hb3
  refine ago_skipE (rfl : C39_11 = .skip) ?_
  refine ago_seqE (rfl : C39_12 = .seq C39_13 C39_14) ?_
  refine ago_regE (rfl : C39_13 = .region 4 R39_4 false) (l := [0]) rfl ?_
  refine lj 4 R39_4_N rfl rfl rfl (opv_assign rfl rfl rfl) ?_
  refine aops_nil ?_
  exact ago_retE (rfl : C39_14 = .ret) (r := 0) (ares_1 rfl (oneT rfl)) rfl H
theorem F39_ok {Q : Int → AW → Prop} {E : List PanicEntry → AW → Prop} (h_0 : Value) (w_1 : Int) (aw : AW) (H : S39_0 Q E h_0 w_1 aw) : CallP prog 39 [h_0, .int .u64 w_1] aw sh39 Q E :=
  callP_of func39 C39_is rfl (Nat.le_of_ble_eq_true rfl) (S39_0_ok Q E _ h_0 w_1 aw rfl rfl H)
def C41_0 := bodyOf f41
theorem C41_is : f41.body = some C41_0 := by kernel_rfl
def C41_1 := cl C41_0
def R41_0 := regOps C41_1
def C41_2 := cr C41_0
def C41_3 := cl C41_2
def C41_4 := cl C41_3
def R41_1 := regOps C41_4
def C41_5 := cr C41_3
def C41_6 := cl C41_5
def C41_7 := cl C41_6
def R41_2 := regOps C41_7
def C41_8 := cr C41_6
def C41_9 := cr C41_5
def C41_10 := cr C41_2
def C41_11 := cl C41_10
def R41_3 := regOps C41_11
def C41_12 := cr C41_10
theorem R41_0_N : dstsOk 25 R41_0 = true := by decide +kernel
theorem R41_1_N : dstsOk 25 R41_1 = true := by decide +kernel
theorem R41_2_N : dstsOk 25 R41_2 = true := by decide +kernel
theorem R41_3_N : dstsOk 25 R41_3 = true := by decide +kernel
def S41_0 (Q : Int → AW → Prop) (E : List PanicEntry → AW → Prop)  (h_0 : Value) (w_1 : Int) (aw : AW) : Prop :=
  nilB (.pointer 100) h_0 (.pointer none) fun q1 =>
  cnd q1 (Q (-1) aw) (CallP prog 49 [.int .u64 w_1] aw sh49 (fun r6 aw7 =>
  cnd r6 (Q (-1) aw7) (nck h_0 (fldA h_0 0 fun p11 =>
  ldV aw7 p11 fun x19 =>
  slen x19 fun n21 =>
  cnd (decide ((IntKind.u64.wrap n21) ≤ (Int.fdiv w_1 (2 ^ (min (1 : Int).toNat IntKind.u64.bits))))) (Q (-1) aw7) (Q (IntKind.i64.wrap (Int.fdiv w_1 (2 ^ (min (1 : Int).toNat IntKind.u64.bits)))) aw7)))) E)
theorem S41_0_ok (Q : Int → AW → Prop) (E : List PanicEntry → AW → Prop)  (ρ : Env) (h_0 : Value) (w_1 : Int) (aw : AW) (h0 : ρ 0 = h_0) (h1 : ρ 1 = .int .u64 w_1) (H : S41_0 Q E  h_0 w_1 aw) :
    AGo prog 25 [.code C41_0] ρ [] aw (RR prog f41 25 sh41 Q E) := by
  unfold S41_0 at H
  refine ago_seqE (rfl : C41_0 = .seq C41_1 C41_2) ?_
  refine ago_regE (rfl : C41_1 = .region 0 R41_0 false) (l := [0]) rfl ?_
  refine lj 4 R41_0_N rfl rfl rfl (opv_assign rfl rfl rfl) ?_
  refine aops_nil ?_
  refine ago_seqE (rfl : C41_2 = .seq C41_3 C41_10) ?_
  refine ago_seqE (rfl : C41_3 = .seq C41_4 C41_5) ?_
  refine ago_regE (rfl : C41_4 = .region 1 R41_1 false) (l := [0, 1, 2, 3, 4, 5, 6, 7, 8, 9, 10, 11, 12, 13, 14, 15, 16]) rfl ?_
  refine lj 5 R41_1_N rfl rfl rfl (opv_move rfl rfl h0) ?_
  obtain ⟨q1, hf2, hq3, H⟩ := H
  refine lj 6 R41_1_N rfl rfl rfl (ov_eqNil rfl rfl underlying50 rfl hf2 hq3) ?_
  refine lj 7 R41_1_N rfl rfl rfl (opv_move rfl rfl rfl) ?_
  rcases Bool.eq_false_or_eq_true q1 with hb4 | hb4
  · replace H := cnd_t H hb4
    refine ls 8 R41_1_N rfl rfl ⟨_, rfl, .inl ⟨_, rfl, gq hb4 rfl⟩⟩ ?_
    refine ls 9 R41_1_N rfl rfl ⟨_, rfl, .inl ⟨_, rfl, gq hb4 rfl⟩⟩ ?_
    refine lj 10 R41_1_N rfl rfl rfl (ov_pickT rfl rfl rfl rfl rfl hb4 rfl) ?_
    refine lj 11 R41_1_N rfl rfl rfl (opv_move rfl rfl rfl) ?_
    refine ls 12 R41_1_N rfl rfl ⟨_, rfl, .inl ⟨_, rfl, gq rfl rfl⟩⟩ ?_
    refine ls 13 R41_1_N rfl rfl ⟨_, rfl, .inl ⟨_, rfl, gq rfl rfl⟩⟩ ?_
    refine ls 14 R41_1_N rfl rfl ⟨_, rfl, .inl ⟨_, rfl, gq rfl rfl⟩⟩ ?_
    refine ls 15 R41_1_N rfl rfl ⟨_, rfl, .inl ⟨_, rfl, gq rfl rfl⟩⟩ ?_
    refine ls 16 R41_1_N rfl rfl ⟨_, rfl, .inl ⟨_, rfl, gq rfl rfl⟩⟩ ?_
    refine ls 17 R41_1_N rfl rfl ⟨_, rfl, .inl ⟨_, rfl, gq rfl rfl⟩⟩ ?_
    refine ls 18 R41_1_N rfl rfl ⟨_, rfl, .inl ⟨_, rfl, gq rfl rfl⟩⟩ ?_
    refine ls 19 R41_1_N rfl rfl ⟨_, rfl, .inl ⟨_, rfl, gq rfl rfl⟩⟩ ?_
    refine ls 20 R41_1_N rfl rfl ⟨_, rfl, .inl ⟨_, rfl, gq rfl rfl⟩⟩ ?_
    refine lj 21 R41_1_N rfl rfl rfl (ov_pickT rfl rfl rfl rfl rfl rfl rfl) ?_
    refine aops_nil ?_
    refine ago_condE  (rfl : C41_5 = .cond (.tmp 21) C41_6 C41_9) rfl rfl (fun h => ?_) (fun h => tf h)
    refine ago_seqE (rfl : C41_6 = .seq C41_7 C41_8) ?_
    refine ago_regE (rfl : C41_7 = .region 2 R41_2 false) (l := [0]) rfl ?_
    refine lj 4 R41_2_N rfl rfl rfl (opv_assign rfl rfl rfl) ?_
    refine aops_nil ?_
    exact ago_retE (rfl : C41_8 = .ret) (r := (-1)) (ares_1 rfl (oneT rfl)) rfl H
  · replace H := cnd_f H hb4
    refine lj 8 R41_1_N rfl rfl ⟨_, rfl, .inl ⟨_, rfl, gq hb4 rfl⟩⟩ (opv_move rfl rfl h1) ?_
    refine lc 9 R41_1_N rfl rfl ⟨_, rfl, .inl ⟨_, rfl, gq hb4 rfl⟩⟩ (opc_of rfl rfl is49 (ma_cons rfl rfl)) H (fun _ _ h => ⟨rfl, h⟩) fun r6 aw7 H => ?_
    refine lj 10 R41_1_N rfl rfl rfl (ov_pickF rfl rfl rfl rfl rfl hb4 rfl) ?_
    refine lj 11 R41_1_N rfl rfl rfl (opv_move rfl rfl rfl) ?_
    rcases Bool.eq_false_or_eq_true r6 with hb8 | hb8
    · replace H := cnd_t H hb8
      refine ls 12 R41_1_N rfl rfl ⟨_, rfl, .inl ⟨_, rfl, gq hb8 rfl⟩⟩ ?_
      refine ls 13 R41_1_N rfl rfl ⟨_, rfl, .inl ⟨_, rfl, gq hb8 rfl⟩⟩ ?_
      refine ls 14 R41_1_N rfl rfl ⟨_, rfl, .inl ⟨_, rfl, gq hb8 rfl⟩⟩ ?_
      refine ls 15 R41_1_N rfl rfl ⟨_, rfl, .inl ⟨_, rfl, gq hb8 rfl⟩⟩ ?_
      refine ls 16 R41_1_N rfl rfl ⟨_, rfl, .inl ⟨_, rfl, gq hb8 rfl⟩⟩ ?_
      refine ls 17 R41_1_N rfl rfl ⟨_, rfl, .inl ⟨_, rfl, gq hb8 rfl⟩⟩ ?_
      refine ls 18 R41_1_N rfl rfl ⟨_, rfl, .inl ⟨_, rfl, gq hb8 rfl⟩⟩ ?_
      refine ls 19 R41_1_N rfl rfl ⟨_, rfl, .inl ⟨_, rfl, gq hb8 rfl⟩⟩ ?_
      refine ls 20 R41_1_N rfl rfl ⟨_, rfl, .inl ⟨_, rfl, gq hb8 rfl⟩⟩ ?_
      refine lj 21 R41_1_N rfl rfl rfl (ov_pickT rfl rfl rfl rfl rfl hb8 rfl) ?_
      refine aops_nil ?_
      refine ago_condE  (rfl : C41_5 = .cond (.tmp 21) C41_6 C41_9) rfl rfl (fun h => ?_) (fun h => tf h)
      refine ago_seqE (rfl : C41_6 = .seq C41_7 C41_8) ?_
      refine ago_regE (rfl : C41_7 = .region 2 R41_2 false) (l := [0]) rfl ?_
      refine lj 4 R41_2_N rfl rfl rfl (opv_assign rfl rfl rfl) ?_
      refine aops_nil ?_
      exact ago_retE (rfl : C41_8 = .ret) (r := (-1)) (ares_1 rfl (oneT rfl)) rfl H
    · replace H := cnd_f H hb8
      refine lj 12 R41_1_N rfl rfl ⟨_, rfl, .inl ⟨_, rfl, gq hb8 rfl⟩⟩ (opv_move rfl rfl h1) ?_
      refine lj 13 R41_1_N rfl rfl ⟨_, rfl, .inl ⟨_, rfl, gq hb8 rfl⟩⟩ (opv_shr rfl rfl rfl rfl rfl (by decide)) ?_
      refine lj 14 R41_1_N rfl rfl ⟨_, rfl, .inl ⟨_, rfl, gq hb8 rfl⟩⟩ (opv_move rfl rfl h0) ?_
      obtain ⟨hp10, H⟩ := H
      refine lj 15 R41_1_N rfl rfl ⟨_, rfl, .inl ⟨_, rfl, gq hb8 rfl⟩⟩ (ov_nck rfl rfl rfl hp10) ?_
      obtain ⟨b12, i13, p11, hp14, hv15, H⟩ := H
      refine lj 16 R41_1_N rfl rfl ⟨_, rfl, .inl ⟨_, rfl, gq hb8 rfl⟩⟩ (ov_fldA rfl rfl underlying100 rfl sz62 (by decide) rfl hp14 rfl hv15) ?_
      obtain ⟨b16, i17, x19, hp18, hg20, H⟩ := H
      refine lj 17 R41_1_N rfl rfl ⟨_, rfl, .inl ⟨_, rfl, gq hb8 rfl⟩⟩ (ov_ldV rfl underlying62 rfl rfl rfl hp18 hg20) ?_
      obtain ⟨q22, l23, c24, n21, hv25, hn26, H⟩ := H
      refine lj 18 R41_1_N rfl rfl ⟨_, rfl, .inl ⟨_, rfl, gq hb8 rfl⟩⟩ (ov_len rfl rfl rfl underlying62 rfl hv25 hn26) ?_
      refine lj 19 R41_1_N rfl rfl ⟨_, rfl, .inl ⟨_, rfl, gq hb8 rfl⟩⟩ (opv_conv rfl rfl underlying3 underlying26 rfl) ?_
      refine lj 20 R41_1_N rfl rfl ⟨_, rfl, .inl ⟨_, rfl, gq hb8 rfl⟩⟩ (opv_ge rfl rfl rfl rfl rfl) ?_
      refine lj 21 R41_1_N rfl rfl rfl (ov_pickF rfl rfl rfl rfl rfl hb8 rfl) ?_
      refine aops_nil ?_
      refine ago_condE  (rfl : C41_5 = .cond (.tmp 21) C41_6 C41_9) rfl rfl (fun hb27 => ?_) (fun hb27 => ?_)
      · replace H := cnd_t H hb27
        refine ago_seqE (rfl : C41_6 = .seq C41_7 C41_8) ?_
        refine ago_regE (rfl : C41_7 = .region 2 R41_2 false) (l := [0]) rfl ?_
        refine lj 4 R41_2_N rfl rfl rfl (opv_assign rfl rfl rfl) ?_
        refine aops_nil ?_
        exact ago_retE (rfl : C41_8 = .ret) (r := (-1)) (ares_1 rfl (oneT rfl)) rfl H
      replace H := cnd_f H hb27
      refine ago_skipE (rfl : C41_9 = .skip) ?_
      refine ago_seqE (rfl : C41_10 = .seq C41_11 C41_12) ?_
      refine ago_cut (fun ρ => ρ 1 = .int .u64 w_1 ∧ True) ⟨h1, trivial⟩ (fun ρ ⟨h1, _⟩ => ?_)
      refine ago_regE (rfl : C41_11 = .region 3 R41_3 false) (l := [0, 1, 2, 3]) rfl ?_
      refine lj 22 R41_3_N rfl rfl rfl (opv_move rfl rfl h1) ?_
      refine lj 23 R41_3_N rfl rfl rfl (opv_shr rfl rfl rfl rfl rfl (by decide)) ?_
      refine lj 24 R41_3_N rfl rfl rfl (opv_conv rfl rfl underlying26 underlying3 rfl) ?_
      refine lj 4 R41_3_N rfl rfl rfl (opv_assign rfl rfl rfl) ?_
      refine aops_nil ?_
      exact ago_retE (rfl : C41_12 = .ret) (r := (IntKind.i64.wrap (Int.fdiv w_1 (2 ^ (min (1 : Int).toNat IntKind.u64.bits))))) (ares_1 rfl (oneT rfl)) rfl H
theorem F41_ok {Q : Int → AW → Prop} {E : List PanicEntry → AW → Prop} (h_0 : Value) (w_1 : Int) (aw : AW) (H : S41_0 Q E h_0 w_1 aw) : CallP prog 41 [h_0, .int .u64 w_1] aw sh41 Q E :=
  callP_of func41 C41_is rfl (Nat.le_of_ble_eq_true rfl) (S41_0_ok Q E _ h_0 w_1 aw rfl rfl H)
def C52_0 := bodyOf f52
theorem C52_is : f52.body = some C52_0 := by kernel_rfl
def C52_1 := cl C52_0
def R52_0 := regOps C52_1
def C52_2 := cr C52_0
def C52_3 := cl C52_2
def C52_4 := cl C52_3
def R52_1 := regOps C52_4
def C52_5 := cr C52_3
def C52_6 := cl C52_5
def C52_7 := cr C52_5
def C52_8 := cr C52_2
def C52_9 := cl C52_8
def R52_3 := regOps C52_9
def C52_10 := cr C52_8
theorem R52_0_N : dstsOk 34 R52_0 = true := by decide +kernel
theorem R52_1_N : dstsOk 34 R52_1 = true := by decide +kernel
theorem R52_1_O : linOk R52_1 [0, 1, 2, 3, 4, 5, 6, 7, 8, 9, 10, 11] [] = true := by decide +kernel
theorem R52_3_N : dstsOk 34 R52_3 = true := by decide +kernel
theorem R52_3_O : linOk R52_3 [0, 1, 2, 3, 4, 5, 6, 7, 8, 9, 10, 11, 12] [] = true := by decide +kernel
def S52_1 (Q : Bool → AW → Prop) (E : List PanicEntry → AW → Prop)  (h_0 : Value) (n_1 : Int) (aw : AW) : Prop :=
  nck h_0 (fldA h_0 1 fun p2 =>
  ldI .i64 aw p2 fun x10 =>
  nck h_0 (fldA h_0 0 fun p13 =>
  ldV aw p13 fun x21 =>
  slen x21 fun n23 =>
  Q (decide (n_1 ≤ (IntKind.i64.wrap (x10 - n23)))) aw))
def S52_0 (Q : Bool → AW → Prop) (E : List PanicEntry → AW → Prop)  (h_0 : Value) (n_1 : Int) (roots_2 : Value) (aw : AW) : Prop :=
  nck h_0 (fldA h_0 1 fun p30 =>
  ldI .i64 aw p30 fun x38 =>
  nck h_0 (fldA h_0 0 fun p41 =>
  ldV aw p41 fun x49 =>
  slen x49 fun n51 =>
  cnd (decide ((IntKind.i64.wrap (x38 - n51)) < n_1)) (False) (S52_1 Q E  h_0 n_1 aw)))
theorem S52_1_ok (Q : Bool → AW → Prop) (E : List PanicEntry → AW → Prop)  (ρ : Env) (h_0 : Value) (n_1 : Int) (aw : AW) (h0 : ρ 0 = h_0) (h1 : ρ 1 = .int .i64 n_1) (H : S52_1 Q E  h_0 n_1 aw) :
    AGo prog 34 [.code C52_8] ρ [] aw (RR prog f52 34 sh52 Q E) := by
  unfold S52_1 at H
  refine ago_seqE (rfl : C52_8 = .seq C52_9 C52_10) ?_
  obtain ⟨hp1, H⟩ := H
  obtain ⟨b3, i4, p2, hp5, hv6, H⟩ := H
  obtain ⟨b7, i8, x10, hp9, hg11, H⟩ := H
  obtain ⟨hp12, H⟩ := H
  obtain ⟨b14, i15, p13, hp16, hv17, H⟩ := H
  obtain ⟨b18, i19, x21, hp20, hg22, H⟩ := H
  obtain ⟨q24, l25, c26, n23, hv27, hn28, H⟩ := H
  refine ago_drawH (p := [0, 1, 2, 3, 4, 5, 6, 7, 8, 9, 10, 11, 12]) (tl := []) (hv := [(0, Value.int .i64 n_1), (1, h_0), (2, h_0), (3, p2), (4, Value.int .i64 x10), (5, h_0), (6, h_0), (7, p13), (8, x21), (9, Value.int .i64 n23), (10, Value.int .i64 (IntKind.i64.wrap (x10 - n23))), (11, Value.bool (decide (n_1 ≤ (IntKind.i64.wrap (x10 - n23))))), (12, Value.bool (decide (n_1 ≤ (IntKind.i64.wrap (x10 - n23)))))]) (rfl : C52_9 = .region 3 R52_3 true) mixed R52_3_N R52_3_O rfl (pv_cons rfl (pv_cons rfl (pv_cons rfl (pv_cons rfl (pv_cons rfl (pv_cons rfl (pv_cons rfl (pv_cons rfl (pv_cons rfl (pv_cons rfl (pv_cons rfl (pv_cons rfl (pv_cons rfl (pv_nil _))))))))))))))
    (fc 22 (.int .i64 n_1) (hd_v rfl fun ρ hρ => ⟨rfl, opv_move rfl rfl ((hρ 1 (lmem rfl)).trans h1)⟩) rfl rfl
    (fc 23 h_0 (hd_v rfl fun ρ hρ => ⟨rfl, opv_move rfl rfl ((hρ 0 (lmem rfl)).trans h0)⟩) rfl rfl
    (fc 24 h_0 (hd_v rfl fun ρ hρ => ⟨rfl, ov_nck rfl rfl ((hρ 23 (lmem rfl)).trans rfl) hp1⟩) rfl rfl
    (fc 25 p2 (hd_v rfl fun ρ hρ => ⟨rfl, ov_fldA rfl rfl underlying100 rfl sz3 (by decide) ((hρ 24 (lmem rfl)).trans rfl) hp5 rfl hv6⟩) rfl rfl
    (fc 26 (.int .i64 x10) (hd_v rfl fun ρ hρ => ⟨rfl, ov_ldI rfl underlying3 rfl ((hρ 25 (lmem rfl)).trans rfl) hp9 hg11⟩) rfl rfl
    (fc 27 h_0 (hd_v rfl fun ρ hρ => ⟨rfl, opv_move rfl rfl ((hρ 0 (lmem rfl)).trans h0)⟩) rfl rfl
    (fc 28 h_0 (hd_v rfl fun ρ hρ => ⟨rfl, ov_nck rfl rfl ((hρ 27 (lmem rfl)).trans rfl) hp12⟩) rfl rfl
    (fc 29 p13 (hd_v rfl fun ρ hρ => ⟨rfl, ov_fldA rfl rfl underlying100 rfl sz62 (by decide) ((hρ 28 (lmem rfl)).trans rfl) hp16 rfl hv17⟩) rfl rfl
    (fc 30 x21 (hd_v rfl fun ρ hρ => ⟨rfl, ov_ldV rfl underlying62 rfl rfl ((hρ 29 (lmem rfl)).trans rfl) hp20 hg22⟩) rfl rfl
    (fc 31 (.int .i64 n23) (hd_v rfl fun ρ hρ => ⟨rfl, ov_len rfl rfl rfl underlying62 ((hρ 30 (lmem rfl)).trans rfl) hv27 hn28⟩) rfl rfl
    (fc 32 (.int .i64 (IntKind.i64.wrap (x10 - n23))) (hd_v rfl fun ρ hρ => ⟨rfl, opv_sub rfl rfl rfl ((hρ 26 (lmem rfl)).trans rfl) ((hρ 31 (lmem rfl)).trans rfl)⟩) rfl rfl
    (fc 33 (.bool (decide (n_1 ≤ (IntKind.i64.wrap (x10 - n23))))) (hd_v rfl fun ρ hρ => ⟨rfl, opv_le rfl rfl rfl ((hρ 22 (lmem rfl)).trans rfl) ((hρ 32 (lmem rfl)).trans rfl)⟩) rfl rfl
    (fc 6 (.bool (decide (n_1 ≤ (IntKind.i64.wrap (x10 - n23))))) (hd_v rfl fun ρ hρ => ⟨rfl, opv_assign rfl rfl ((hρ 33 (lmem rfl)).trans rfl)⟩) rfl rfl
    ffn))))))))))))) ?_
  refine lt_end ?_
  exact ago_retE (rfl : C52_10 = .ret) (r := (decide (n_1 ≤ (IntKind.i64.wrap (x10 - n23))))) (ares_1 rfl (oneT rfl)) rfl H
theorem S52_0_ok (Q : Bool → AW → Prop) (E : List PanicEntry → AW → Prop)  (ρ : Env) (h_0 : Value) (n_1 : Int) (roots_2 : Value) (aw : AW) (h0 : ρ 0 = h_0) (h1 : ρ 1 = .int .i64 n_1) (h2 : ρ 2 = roots_2) (H : S52_0 Q E  h_0 n_1 roots_2 aw) :
    AGo prog 34 [.code C52_0] ρ [] aw (RR prog f52 34 sh52 Q E) := by
  unfold S52_0 at H
  refine ago_seqE (rfl : C52_0 = .seq C52_1 C52_2) ?_
  refine ago_regE (rfl : C52_1 = .region 0 R52_0 false) (l := [0]) rfl ?_
  refine lj 6 R52_0_N rfl rfl rfl (opv_assign rfl rfl rfl) ?_
  refine aops_nil ?_
  refine ago_seqE (rfl : C52_2 = .seq C52_3 C52_8) ?_
  refine ago_seqE (rfl : C52_3 = .seq C52_4 C52_5) ?_
  obtain ⟨hp29, H⟩ := H
  obtain ⟨b31, i32, p30, hp33, hv34, H⟩ := H
  obtain ⟨b35, i36, x38, hp37, hg39, H⟩ := H
  obtain ⟨hp40, H⟩ := H
  obtain ⟨b42, i43, p41, hp44, hv45, H⟩ := H
  obtain ⟨b46, i47, x49, hp48, hg50, H⟩ := H
  obtain ⟨q52, l53, c54, n51, hv55, hn56, H⟩ := H
  refine ago_drawH (p := [0, 1, 2, 3, 4, 5, 6, 7, 8, 9, 10, 11]) (tl := []) (hv := [(0, Value.int .i64 n_1), (1, h_0), (2, h_0), (3, p30), (4, Value.int .i64 x38), (5, h_0), (6, h_0), (7, p41), (8, x49), (9, Value.int .i64 n51), (10, Value.int .i64 (IntKind.i64.wrap (x38 - n51))), (11, Value.bool (decide ((IntKind.i64.wrap (x38 - n51)) < n_1)))]) (rfl : C52_4 = .region 1 R52_1 true) mixed R52_1_N R52_1_O rfl (pv_cons rfl (pv_cons rfl (pv_cons rfl (pv_cons rfl (pv_cons rfl (pv_cons rfl (pv_cons rfl (pv_cons rfl (pv_cons rfl (pv_cons rfl (pv_cons rfl (pv_cons rfl (pv_nil _)))))))))))))
    (fc 7 (.int .i64 n_1) (hd_v rfl fun ρ hρ => ⟨rfl, opv_move rfl rfl ((hρ 1 (lmem rfl)).trans h1)⟩) rfl rfl
    (fc 8 h_0 (hd_v rfl fun ρ hρ => ⟨rfl, opv_move rfl rfl ((hρ 0 (lmem rfl)).trans h0)⟩) rfl rfl
    (fc 9 h_0 (hd_v rfl fun ρ hρ => ⟨rfl, ov_nck rfl rfl ((hρ 8 (lmem rfl)).trans rfl) hp29⟩) rfl rfl
    (fc 10 p30 (hd_v rfl fun ρ hρ => ⟨rfl, ov_fldA rfl rfl underlying100 rfl sz3 (by decide) ((hρ 9 (lmem rfl)).trans rfl) hp33 rfl hv34⟩) rfl rfl
    (fc 11 (.int .i64 x38) (hd_v rfl fun ρ hρ => ⟨rfl, ov_ldI rfl underlying3 rfl ((hρ 10 (lmem rfl)).trans rfl) hp37 hg39⟩) rfl rfl
    (fc 12 h_0 (hd_v rfl fun ρ hρ => ⟨rfl, opv_move rfl rfl ((hρ 0 (lmem rfl)).trans h0)⟩) rfl rfl
    (fc 13 h_0 (hd_v rfl fun ρ hρ => ⟨rfl, ov_nck rfl rfl ((hρ 12 (lmem rfl)).trans rfl) hp40⟩) rfl rfl
    (fc 14 p41 (hd_v rfl fun ρ hρ => ⟨rfl, ov_fldA rfl rfl underlying100 rfl sz62 (by decide) ((hρ 13 (lmem rfl)).trans rfl) hp44 rfl hv45⟩) rfl rfl
    (fc 15 x49 (hd_v rfl fun ρ hρ => ⟨rfl, ov_ldV rfl underlying62 rfl rfl ((hρ 14 (lmem rfl)).trans rfl) hp48 hg50⟩) rfl rfl
    (fc 16 (.int .i64 n51) (hd_v rfl fun ρ hρ => ⟨rfl, ov_len rfl rfl rfl underlying62 ((hρ 15 (lmem rfl)).trans rfl) hv55 hn56⟩) rfl rfl
    (fc 17 (.int .i64 (IntKind.i64.wrap (x38 - n51))) (hd_v rfl fun ρ hρ => ⟨rfl, opv_sub rfl rfl rfl ((hρ 11 (lmem rfl)).trans rfl) ((hρ 16 (lmem rfl)).trans rfl)⟩) rfl rfl
    (fc 18 (.bool (decide ((IntKind.i64.wrap (x38 - n51)) < n_1))) (hd_v rfl fun ρ hρ => ⟨rfl, opv_gt rfl rfl rfl ((hρ 7 (lmem rfl)).trans rfl) ((hρ 17 (lmem rfl)).trans rfl)⟩) rfl rfl
    ffn)))))))))))) ?_
  refine lt_end ?_
  refine ago_condE  (rfl : C52_5 = .cond (.tmp 18) C52_6 C52_7) rfl rfl (fun hb57 => ?_) (fun hb57 => ?_)
  · exact (cnd_t H hb57).elim
  replace H := cnd_f H hb57
  refine ago_skipE (rfl : C52_7 = .skip) ?_
  exact S52_1_ok Q E  _ h_0 n_1 aw h0 h1 H
theorem F52_ok {Q : Bool → AW → Prop} {E : List PanicEntry → AW → Prop} (h_0 : Value) (n_1 : Int) (roots_2 : Value) (aw : AW) (H : S52_0 Q E h_0 n_1 roots_2 aw) : CallP prog 52 [h_0, .int .i64 n_1, roots_2] aw sh52 Q E :=
  callP_of func52 C52_is rfl (Nat.le_of_ble_eq_true rfl) (S52_0_ok Q E _ h_0 n_1 roots_2 aw rfl rfl rfl H)
def C53_0 := bodyOf f53
theorem C53_is : f53.body = some C53_0 := by kernel_rfl
def C53_1 := cl C53_0
def R53_0 := regOps C53_1
def C53_2 := cr C53_0
def C53_3 := cl C53_2
def C53_4 := cl C53_3
def R53_1 := regOps C53_4
def C53_5 := cr C53_3
def C53_6 := cl C53_5
def C53_7 := cl C53_6
def R53_2 := regOps C53_7
def C53_8 := cr C53_6
def C53_9 := cr C53_5
def C53_10 := cr C53_2
def C53_11 := cl C53_10
def R53_3 := regOps C53_11
def C53_12 := cr C53_10
theorem R53_0_N : dstsOk 13 R53_0 = true := by decide +kernel
theorem R53_1_N : dstsOk 13 R53_1 = true := by decide +kernel
theorem R53_2_N : dstsOk 13 R53_2 = true := by decide +kernel
theorem R53_3_N : dstsOk 13 R53_3 = true := by decide +kernel
def S53_0 (Q : Int → AW → Prop) (E : List PanicEntry → AW → Prop)  (kind_0 : Int) (n_1 : Int) (aw : AW) : Prop :=
  cnd (decide (kind_0 = 3)) (Q (IntKind.i64.wrap (1 + (IntKind.i64.wrap (Int.tdiv (IntKind.i64.wrap (n_1 + 7)) 8)))) aw) (Q (IntKind.i64.wrap (1 + n_1)) aw)
theorem S53_0_ok (Q : Int → AW → Prop) (E : List PanicEntry → AW → Prop)  (ρ : Env) (kind_0 : Int) (n_1 : Int) (aw : AW) (h0 : ρ 0 = .int .u8 kind_0) (h1 : ρ 1 = .int .i64 n_1) (H : S53_0 Q E  kind_0 n_1 aw) :
    AGo prog 13 [.code C53_0] ρ [] aw (RR prog f53 13 sh53 Q E) := by
  unfold S53_0 at H
  refine ago_seqE (rfl : C53_0 = .seq C53_1 C53_2) ?_
  refine ago_regE (rfl : C53_1 = .region 0 R53_0 false) (l := [0]) rfl ?_
  refine lj 4 R53_0_N rfl rfl rfl (opv_assign rfl rfl rfl) ?_
  refine aops_nil ?_
  refine ago_seqE (rfl : C53_2 = .seq C53_3 C53_10) ?_
  refine ago_seqE (rfl : C53_3 = .seq C53_4 C53_5) ?_
  refine ago_regE (rfl : C53_4 = .region 1 R53_1 false) (l := [0, 1]) rfl ?_
  refine lj 5 R53_1_N rfl rfl rfl (opv_move rfl rfl h0) ?_
  refine lj 6 R53_1_N rfl rfl rfl (opv_eqI rfl rfl rfl rfl rfl) ?_
  refine aops_nil ?_
  refine ago_condE  (rfl : C53_5 = .cond (.tmp 6) C53_6 C53_9) rfl rfl (fun hb1 => ?_) (fun hb1 => ?_)
  · replace H := cnd_t H hb1
    refine ago_seqE (rfl : C53_6 = .seq C53_7 C53_8) ?_
    refine ago_regE (rfl : C53_7 = .region 2 R53_2 false) (l := [0, 1, 2, 3, 4]) rfl ?_
    refine lj 7 R53_2_N rfl rfl rfl (opv_move rfl rfl h1) ?_
    refine lj 8 R53_2_N rfl rfl rfl (opv_add rfl rfl rfl rfl rfl) ?_
    refine lj 9 R53_2_N rfl rfl rfl (opv_quo rfl rfl rfl rfl rfl (by decide)) ?_
    refine lj 10 R53_2_N rfl rfl rfl (opv_add rfl rfl rfl rfl rfl) ?_
    refine lj 4 R53_2_N rfl rfl rfl (opv_assign rfl rfl rfl) ?_
    refine aops_nil ?_
    exact ago_retE (rfl : C53_8 = .ret) (r := (IntKind.i64.wrap (1 + (IntKind.i64.wrap (Int.tdiv (IntKind.i64.wrap (n_1 + 7)) 8))))) (ares_1 rfl (oneT rfl)) rfl H
  replace H := cnd_f H hb1
  refine ago_skipE (rfl : C53_9 = .skip) ?_
  refine ago_seqE (rfl : C53_10 = .seq C53_11 C53_12) ?_
  refine ago_regE (rfl : C53_11 = .region 3 R53_3 false) (l := [0, 1, 2]) rfl ?_
  refine lj 11 R53_3_N rfl rfl rfl (opv_move rfl rfl h1) ?_
  refine lj 12 R53_3_N rfl rfl rfl (opv_add rfl rfl rfl rfl rfl) ?_
  refine lj 4 R53_3_N rfl rfl rfl (opv_assign rfl rfl rfl) ?_
  refine aops_nil ?_
  exact ago_retE (rfl : C53_12 = .ret) (r := (IntKind.i64.wrap (1 + n_1))) (ares_1 rfl (oneT rfl)) rfl H
theorem F53_ok {Q : Int → AW → Prop} {E : List PanicEntry → AW → Prop} (kind_0 : Int) (n_1 : Int) (aw : AW) (H : S53_0 Q E kind_0 n_1 aw) : CallP prog 53 [.int .u8 kind_0, .int .i64 n_1] aw sh53 Q E :=
  callP_of func53 C53_is rfl (Nat.le_of_ble_eq_true rfl) (S53_0_ok Q E _ kind_0 n_1 aw rfl rfl H)
def C54_0 := bodyOf f54
theorem C54_is : f54.body = some C54_0 := by kernel_rfl
def C54_1 := cl C54_0
def R54_0 := regOps C54_1
def C54_2 := cr C54_0
def C54_3 := cl C54_2
def R54_1 := regOps C54_3
def C54_4 := cr C54_2
theorem R54_0_N : dstsOk 11 R54_0 = true := by decide +kernel
theorem R54_1_N : dstsOk 11 R54_1 = true := by decide +kernel
def S54_0 (Q : Int → AW → Prop) (E : List PanicEntry → AW → Prop)  (kind_0 : Int) (n_1 : Int) (aw : AW) : Prop :=
  Q (bitsOf .or .u64 (IntKind.u64.wrap ((IntKind.u64.wrap n_1) * 2 ^ (min (8 : Int).toNat IntKind.u64.bits))) (IntKind.u64.wrap kind_0)) aw
theorem S54_0_ok (Q : Int → AW → Prop) (E : List PanicEntry → AW → Prop)  (ρ : Env) (kind_0 : Int) (n_1 : Int) (aw : AW) (h0 : ρ 0 = .int .u8 kind_0) (h1 : ρ 1 = .int .i64 n_1) (H : S54_0 Q E  kind_0 n_1 aw) :
    AGo prog 11 [.code C54_0] ρ [] aw (RR prog f54 11 sh54 Q E) := by
  unfold S54_0 at H
  refine ago_seqE (rfl : C54_0 = .seq C54_1 C54_2) ?_
  refine ago_regE (rfl : C54_1 = .region 0 R54_0 false) (l := [0]) rfl ?_
  refine lj 4 R54_0_N rfl rfl rfl (opv_assign rfl rfl rfl) ?_
  refine aops_nil ?_
  refine ago_seqE (rfl : C54_2 = .seq C54_3 C54_4) ?_
  refine ago_regE (rfl : C54_3 = .region 1 R54_1 false) (l := [0, 1, 2, 3, 4, 5, 6]) rfl ?_
  refine lj 5 R54_1_N rfl rfl rfl (opv_move rfl rfl h1) ?_
  refine lj 6 R54_1_N rfl rfl rfl (opv_conv rfl rfl underlying3 underlying26 rfl) ?_
  refine lj 7 R54_1_N rfl rfl rfl (opv_shl rfl rfl rfl rfl rfl (by decide)) ?_
  refine lj 8 R54_1_N rfl rfl rfl (opv_move rfl rfl h0) ?_
  refine lj 9 R54_1_N rfl rfl rfl (opv_conv rfl rfl underlying5 underlying26 rfl) ?_
  refine lj 10 R54_1_N rfl rfl rfl (opv_or rfl rfl rfl rfl rfl) ?_
  refine lj 4 R54_1_N rfl rfl rfl (opv_assign rfl rfl rfl) ?_
  refine aops_nil ?_
  exact ago_retE (rfl : C54_4 = .ret) (r := (bitsOf .or .u64 (IntKind.u64.wrap ((IntKind.u64.wrap n_1) * 2 ^ (min (8 : Int).toNat IntKind.u64.bits))) (IntKind.u64.wrap kind_0))) (ares_1 rfl (oneT rfl)) rfl H
theorem F54_ok {Q : Int → AW → Prop} {E : List PanicEntry → AW → Prop} (kind_0 : Int) (n_1 : Int) (aw : AW) (H : S54_0 Q E kind_0 n_1 aw) : CallP prog 54 [.int .u8 kind_0, .int .i64 n_1] aw sh54 Q E :=
  callP_of func54 C54_is rfl (Nat.le_of_ble_eq_true rfl) (S54_0_ok Q E _ kind_0 n_1 aw rfl rfl H)
def C19_0 := bodyOf f19
theorem C19_is : f19.body = some C19_0 := by kernel_rfl
def C19_1 := cl C19_0
def R19_0 := regOps C19_1
def C19_2 := cr C19_0
def C19_3 := cl C19_2
def C19_4 := cl C19_3
def R19_1 := regOps C19_4
def C19_5 := cr C19_3
def C19_6 := cl C19_5
def C19_7 := cl C19_6
def R19_2 := regOps C19_7
def C19_8 := cr C19_6
def C19_9 := cr C19_5
def C19_10 := cr C19_2
def C19_11 := cl C19_10
def R19_3 := regOps C19_11
def C19_12 := cr C19_10
def C19_13 := cl C19_12
def C19_14 := cl C19_13
def R19_4 := regOps C19_14
def C19_15 := cr C19_13
def C19_16 := cl C19_15
def C19_17 := cl C19_16
def C19_18 := cl C19_17
def R19_5 := regOps C19_18
def C19_19 := cr C19_17
def C19_20 := cl C19_19
def C19_21 := cl C19_20
def C19_22 := cr C19_20
def C19_23 := cr C19_19
def C19_24 := cl C19_23
def C19_25 := cl C19_24
def C19_26 := cl C19_25
def R19_6 := regOps C19_26
def C19_27 := cr C19_25
def R19_7 := regOps C19_27
def C19_28 := cr C19_23
def R19_8 := regOps C19_28
def C19_29 := cr C19_12
def C19_30 := cl C19_29
def R19_9 := regOps C19_30
def C19_31 := cr C19_29
theorem R19_0_N : dstsOk 38 R19_0 = true := by decide +kernel
theorem R19_1_N : dstsOk 38 R19_1 = true := by decide +kernel
theorem R19_2_N : dstsOk 38 R19_2 = true := by decide +kernel
theorem R19_3_N : dstsOk 38 R19_3 = true := by decide +kernel
theorem R19_4_N : dstsOk 38 R19_4 = true := by decide +kernel
theorem R19_5_N : dstsOk 38 R19_5 = true := by decide +kernel
theorem R19_6_N : dstsOk 38 R19_6 = true := by decide +kernel
theorem R19_7_N : dstsOk 38 R19_7 = true := by decide +kernel
theorem R19_7_O : linOk R19_7 [0, 1, 2, 3, 4, 5, 8, 9, 13, 14, 15] [(6, [0, 1, 2, 3, 8, 9, 13, 14, 15], [7, 10, 11, 12, 16, 17]), (18, [], [])] = true := by decide +kernel
theorem R19_8_N : dstsOk 38 R19_8 = true := by decide +kernel
theorem R19_9_N : dstsOk 38 R19_9 = true := by decide +kernel
def S19_1s (Q : ByteArray → AW → Prop) (E : List PanicEntry → AW → Prop)  (nx1 : Value → Int → Value → Int → Int → AW → Prop) (h_0 : Value) (w_1 : Int) (b_5 : Value) (t_13 : Int) (t_14 : Int) (aw : AW) : Prop :=
  cnd (decide (t_14 < t_13)) (nck h_0 (fldA h_0 0 fun p3 =>
  ldV aw p3 fun x11 =>
  CallP prog 41 [h_0, .int .u64 w_1] aw sh41 (fun r13 aw14 =>
  again1 aw14 p3 (x11) ∧ ixS x11 (IntKind.i64.wrap ((IntKind.i64.wrap (r13 + 1)) + (IntKind.i64.wrap (Int.tdiv t_14 8)))) 1 fun p15 =>
  ldI .u64 aw14 p15 fun x27 =>
  0 ≤ (IntKind.i64.wrap (8 * (Int.tmod t_14 8))) ∧ CallP prog 40 [b_5, .int .u8 (IntKind.u8.wrap (Int.fdiv x27 (2 ^ (min (IntKind.i64.wrap (8 * (Int.tmod t_14 8))).toNat IntKind.u64.bits))))] aw14 sh40 (fun r30 aw31 =>
  nx1 h_0 w_1 b_5 t_13 (IntKind.i64.wrap (t_14 + 1)) aw31) E) E)) (CallP prog 42 [b_5] aw sh42 (fun r32 aw33 =>
  Q r32 aw33) E)
def S19_1 (Q : ByteArray → AW → Prop) (E : List PanicEntry → AW → Prop)  : Nat → Value → Int → Value → Int → Int → AW → Prop
  | 0 => fun _ _ _ _ _ _ => False
  | n + 1 => S19_1s Q E  (S19_1 Q E  n)
def S19_0 (Q : ByteArray → AW → Prop) (E : List PanicEntry → AW → Prop)  (h_0 : Value) (w_1 : Int) (aw : AW) : Prop :=
  CallP prog 38 [h_0, .int .u64 w_1] aw sh38 (fun r34 aw35 =>
  cnd (!decide (r34 = 3)) (Q (⟨#[]⟩ : ByteArray) aw35) (alc aw35 [(.slice none 0 0), .int .i64 0, .int .i8 0] 94 0 fun p37 aw38 =>
  CallP prog 39 [h_0, .int .u64 w_1] aw38 sh39 (fun r41 aw42 =>
  ∃ n, S19_1 Q E  n h_0 w_1 p37 r41 0 aw42) E)) E
theorem S19_1s_ok (Q : ByteArray → AW → Prop) (E : List PanicEntry → AW → Prop)  (nx1 : Value → Int → Value → Int → Int → AW → Prop) (L1 : ∀ (ρ : Env) (h_0 : Value) (w_1 : Int) (b_5 : Value) (t_13 : Int) (t_14 : Int) (aw : AW) (h0 : ρ 0 = h_0) (h1 : ρ 1 = .int .u64 w_1) (h5 : ρ 5 = b_5) (h13 : ρ 13 = .int .i64 t_13) (h14 : ρ 14 = .int .i64 t_14), nx1 h_0 w_1 b_5 t_13 t_14 aw → AGo prog 38 [.code C19_17, .inLoop C19_17, .inBlock 0, .code C19_29] ρ [] aw (RR prog f19 38 sh19 Q E)) (ρ : Env) (h_0 : Value) (w_1 : Int) (b_5 : Value) (t_13 : Int) (t_14 : Int) (aw : AW) (h0 : ρ 0 = h_0) (h1 : ρ 1 = .int .u64 w_1) (h5 : ρ 5 = b_5) (h13 : ρ 13 = .int .i64 t_13) (h14 : ρ 14 = .int .i64 t_14) (H : S19_1s Q E  nx1 h_0 w_1 b_5 t_13 t_14 aw) :
    AGo prog 38 [.code C19_17, .inLoop C19_17, .inBlock 0, .code C19_29] ρ [] aw (RR prog f19 38 sh19 Q E) := by
  unfold S19_1s at H
  refine ago_seqE (rfl : C19_17 = .seq C19_18 C19_19) ?_
  refine ago_regE (rfl : C19_18 = .region 5 R19_5 false) (l := [0]) rfl ?_
  refine lj 15 R19_5_N rfl rfl rfl (opv_lt rfl rfl rfl h14 h13) ?_
  refine aops_nil ?_
  refine ago_seqE (rfl : C19_19 = .seq C19_20 C19_23) ?_
  refine ago_condE  (rfl : C19_20 = .cond (.tmp 15) C19_21 C19_22) rfl rfl (fun hb1 => ?_) (fun hb1 => ?_)
  · replace H := cnd_t H hb1
    refine ago_skipE (rfl : C19_21 = .skip) ?_
    refine ago_seqE (rfl : C19_23 = .seq C19_24 C19_28) ?_
    refine ago_blockE (rfl : C19_24 = .block 1 C19_25) ?_
    refine ago_seqE (rfl : C19_25 = .seq C19_26 C19_27) ?_
    refine ago_regE (rfl : C19_26 = .region 6 R19_6 false) (l := [0, 1]) rfl ?_
    refine lj 16 R19_6_N rfl rfl rfl (opv_move rfl rfl h14) ?_
    refine lj 6 R19_6_N rfl rfl rfl (opv_assign rfl rfl rfl) ?_
    refine aops_nil ?_
    obtain ⟨hp2, H⟩ := H
    obtain ⟨b4, i5, p3, hp6, hv7, H⟩ := H
    obtain ⟨b8, i9, x11, hp10, hg12, H⟩ := H
    refine ago_drawH (p := [0, 1, 2, 3, 4, 5, 8, 9, 13, 14, 15]) (tl := [(6, [0, 1, 2, 3, 8, 9, 13, 14, 15], [7, 10, 11, 12, 16, 17]), (18, [], [])]) (hv := [(0, h_0), (1, h_0), (2, p3), (3, x11), (4, h_0), (5, Value.int .u64 w_1), (8, Value.int .i64 t_14), (9, Value.int .i64 (IntKind.i64.wrap (Int.tdiv t_14 8))), (13, Value.int .i64 t_14), (14, Value.int .i64 (Int.tmod t_14 8)), (15, Value.int .i64 (IntKind.i64.wrap (8 * (Int.tmod t_14 8))))]) (rfl : C19_27 = .region 7 R19_7 true) mixed R19_7_N R19_7_O rfl (pv_cons rfl (pv_cons rfl (pv_cons rfl (pv_cons rfl (pv_cons rfl (pv_cons rfl (pv_cons rfl (pv_cons rfl (pv_cons rfl (pv_cons rfl (pv_cons rfl (pv_nil _))))))))))))
      (fc 17 h_0 (hd_v rfl fun ρ hρ => ⟨rfl, opv_move rfl rfl ((hρ 0 (lmem rfl)).trans h0)⟩) rfl rfl
      (fc 18 h_0 (hd_v rfl fun ρ hρ => ⟨rfl, ov_nck rfl rfl ((hρ 17 (lmem rfl)).trans rfl) hp2⟩) rfl rfl
      (fc 19 p3 (hd_v rfl fun ρ hρ => ⟨rfl, ov_fldA rfl rfl underlying100 rfl sz62 (by decide) ((hρ 18 (lmem rfl)).trans rfl) hp6 rfl hv7⟩) rfl rfl
      (fc 20 x11 (hd_v rfl fun ρ hρ => ⟨rfl, ov_ldV rfl underlying62 rfl rfl ((hρ 19 (lmem rfl)).trans rfl) hp10 hg12⟩) rfl rfl
      (fc 21 h_0 (hd_v rfl fun ρ hρ => ⟨rfl, opv_move rfl rfl ((hρ 0 (lmem rfl)).trans h0)⟩) rfl rfl
      (fc 22 (.int .u64 w_1) (hd_v rfl fun ρ hρ => ⟨rfl, opv_move rfl rfl ((hρ 1 (lmem rfl)).trans h1)⟩) rfl rfl
      (fc 25 (.int .i64 t_14) (hd_v rfl fun ρ hρ => ⟨rfl, opv_move rfl rfl ((hρ 6 (lmem rfl)).trans rfl)⟩) rfl rfl
      (fc 26 (.int .i64 (IntKind.i64.wrap (Int.tdiv t_14 8))) (hd_v rfl fun ρ hρ => ⟨rfl, opv_quo rfl rfl rfl ((hρ 25 (lmem rfl)).trans rfl) rfl (by decide)⟩) rfl rfl
      (fc 30 (.int .i64 t_14) (hd_v rfl fun ρ hρ => ⟨rfl, opv_move rfl rfl ((hρ 6 (lmem rfl)).trans rfl)⟩) rfl rfl
      (fc 31 (.int .i64 (Int.tmod t_14 8)) (hd_v rfl fun ρ hρ => ⟨rfl, opv_rem rfl rfl rfl ((hρ 30 (lmem rfl)).trans rfl) rfl (by decide)⟩) rfl rfl
      (fc 32 (.int .i64 (IntKind.i64.wrap (8 * (Int.tmod t_14 8)))) (hd_v rfl fun ρ hρ => ⟨rfl, opv_mul rfl rfl rfl rfl ((hρ 31 (lmem rfl)).trans rfl)⟩) rfl rfl
      ffn))))))))))) ?_
    refine lt_call (dt := some 23) rfl rfl (fun ρ hρ => ⟨rfl, opc_of rfl rfl is41 (ma_cons ((hρ 21 (lmem rfl)).trans rfl) (ma_cons ((hρ 22 (lmem rfl)).trans rfl) rfl))⟩) H (fun _ _ h _ => ⟨rfl, h⟩) fun r13 aw14 H => ?_
    obtain ⟨hg12, H⟩ := H
    replace hg12 := hg12 _ _ hp10
    obtain ⟨b16, i17, l18, c19, p15, hp20, h021, hj22, hv23, H⟩ := H
    obtain ⟨b24, i25, x27, hp26, hg28, H⟩ := H
    obtain ⟨hz29, H⟩ := H
    refine lt_next (l := [0, 1, 2, 3, 8, 9, 13, 14, 15, 7, 10, 11, 12, 16, 17]) (hv := [(7, Value.int .i64 (IntKind.i64.wrap (r13 + 1))), (10, Value.int .i64 (IntKind.i64.wrap ((IntKind.i64.wrap (r13 + 1)) + (IntKind.i64.wrap (Int.tdiv t_14 8))))), (11, p15), (12, Value.int .u64 x27), (16, Value.int .u64 (Int.fdiv x27 (2 ^ (min (IntKind.i64.wrap (8 * (Int.tmod t_14 8))).toNat IntKind.u64.bits)))), (17, Value.int .u8 (IntKind.u8.wrap (Int.fdiv x27 (2 ^ (min (IntKind.i64.wrap (8 * (Int.tmod t_14 8))).toNat IntKind.u64.bits)))))]) rfl rfl (pv_cons rfl (pv_cons rfl (pv_cons rfl (pv_cons rfl (pv_cons rfl (pv_cons rfl (pv_nil _)))))))
      (fc 17 h_0 (hd_v rfl fun ρ hρ => ⟨rfl, opv_move rfl rfl ((hρ 0 (lmem rfl)).trans h0)⟩) rfl rfl
      (fc 18 h_0 (hd_v rfl fun ρ hρ => ⟨rfl, ov_nck rfl rfl ((hρ 17 (lmem rfl)).trans rfl) hp2⟩) rfl rfl
      (fc 19 p3 (hd_v rfl fun ρ hρ => ⟨rfl, ov_fldA rfl rfl underlying100 rfl sz62 (by decide) ((hρ 18 (lmem rfl)).trans rfl) hp6 rfl hv7⟩) rfl rfl
      (fc 20 x11 (hd_v rfl fun ρ hρ => ⟨rfl, ov_ldV rfl underlying62 rfl rfl ((hρ 19 (lmem rfl)).trans rfl) hp10 hg12⟩) rfl rfl
      (fc 25 (.int .i64 t_14) (hd_v rfl fun ρ hρ => ⟨rfl, opv_move rfl rfl ((hρ 6 (lmem rfl)).trans rfl)⟩) rfl rfl
      (fc 26 (.int .i64 (IntKind.i64.wrap (Int.tdiv t_14 8))) (hd_v rfl fun ρ hρ => ⟨rfl, opv_quo rfl rfl rfl ((hρ 25 (lmem rfl)).trans rfl) rfl (by decide)⟩) rfl rfl
      (fc 30 (.int .i64 t_14) (hd_v rfl fun ρ hρ => ⟨rfl, opv_move rfl rfl ((hρ 6 (lmem rfl)).trans rfl)⟩) rfl rfl
      (fc 31 (.int .i64 (Int.tmod t_14 8)) (hd_v rfl fun ρ hρ => ⟨rfl, opv_rem rfl rfl rfl ((hρ 30 (lmem rfl)).trans rfl) rfl (by decide)⟩) rfl rfl
      (fc 32 (.int .i64 (IntKind.i64.wrap (8 * (Int.tmod t_14 8)))) (hd_v rfl fun ρ hρ => ⟨rfl, opv_mul rfl rfl rfl rfl ((hρ 31 (lmem rfl)).trans rfl)⟩) rfl rfl
      (fc 24 (.int .i64 (IntKind.i64.wrap (r13 + 1))) (hd_v rfl fun ρ hρ => ⟨rfl, opv_add rfl rfl rfl ((hρ 23 (lmem rfl)).trans rfl) rfl⟩) rfl rfl
      (fc 27 (.int .i64 (IntKind.i64.wrap ((IntKind.i64.wrap (r13 + 1)) + (IntKind.i64.wrap (Int.tdiv t_14 8))))) (hd_v rfl fun ρ hρ => ⟨rfl, opv_add rfl rfl rfl ((hρ 24 (lmem rfl)).trans rfl) ((hρ 26 (lmem rfl)).trans rfl)⟩) rfl rfl
      (fc 28 p15 (hd_v rfl fun ρ hρ => ⟨rfl, ov_ixS rfl rfl rfl underlying62 sz26 ((hρ 20 (lmem rfl)).trans rfl) ((hρ 27 (lmem rfl)).trans rfl) hp20 h021 hj22 hv23⟩) rfl rfl
      (fc 29 (.int .u64 x27) (hd_v rfl fun ρ hρ => ⟨rfl, ov_ldI rfl underlying26 rfl ((hρ 28 (lmem rfl)).trans rfl) hp26 hg28⟩) rfl rfl
      (fc 33 (.int .u64 (Int.fdiv x27 (2 ^ (min (IntKind.i64.wrap (8 * (Int.tmod t_14 8))).toNat IntKind.u64.bits)))) (hd_v rfl fun ρ hρ => ⟨rfl, opv_shr rfl rfl rfl ((hρ 29 (lmem rfl)).trans rfl) ((hρ 32 (lmem rfl)).trans rfl) hz29⟩) rfl rfl
      (fc 34 (.int .u8 (IntKind.u8.wrap (Int.fdiv x27 (2 ^ (min (IntKind.i64.wrap (8 * (Int.tmod t_14 8))).toNat IntKind.u64.bits))))) (hd_v rfl fun ρ hρ => ⟨rfl, opv_conv rfl rfl underlying26 underlying5 ((hρ 33 (lmem rfl)).trans rfl)⟩) rfl rfl
      ffn))))))))))))))) ?_
    refine lt_call (dt := some 35) rfl rfl (fun ρ hρ => ⟨rfl, opc_of rfl rfl is40 (ma_cons ((hρ 5 (lmem rfl)).trans h5) (ma_cons ((hρ 34 (lmem rfl)).trans rfl) rfl))⟩) H (fun _ _ h _ => ⟨rfl, h⟩) fun r30 aw31 H => ?_
    refine lt_next (l := []) (hv := []) rfl rfl (pv_nil _)
      ffn ?_
    refine lt_end ?_
    refine ago_inBlock ?_
    refine ago_cut (fun ρ => ρ 0 = h_0 ∧ ρ 1 = .int .u64 w_1 ∧ ρ 5 = b_5 ∧ ρ 13 = .int .i64 t_13 ∧ ρ 14 = .int .i64 t_14 ∧ True) ⟨h0, h1, h5, h13, h14, trivial⟩ (fun ρ ⟨h0, h1, h5, h13, h14, _⟩ => ?_)
    refine ago_regE (rfl : C19_28 = .region 8 R19_8 false) (l := [0, 1]) rfl ?_
    refine lj 36 R19_8_N rfl rfl rfl (opv_add rfl rfl rfl h14 rfl) ?_
    refine lj 14 R19_8_N rfl rfl rfl (opv_move rfl rfl rfl) ?_
    refine aops_nil ?_
    refine ago_inLoop ?_
    exact L1 _ h_0 w_1 b_5 t_13 (IntKind.i64.wrap (t_14 + 1)) aw31 h0 h1 h5 h13 rfl H
  replace H := cnd_f H hb1
  refine ago_exitE (rfl : C19_22 = .exit 0) rfl ?_
  refine ago_seqE (rfl : C19_29 = .seq C19_30 C19_31) ?_
  refine ago_regE (rfl : C19_30 = .region 9 R19_9 false) (l := [0, 1]) rfl ?_
  refine lc 37 R19_9_N rfl rfl rfl (opc_of rfl rfl is42 (ma_cons h5 rfl)) H (fun _ _ h => ⟨rfl, h⟩) fun r32 aw33 H => ?_
  refine lj 4 R19_9_N rfl rfl rfl (opv_assign rfl rfl rfl) ?_
  refine aops_nil ?_
  exact ago_retE (rfl : C19_31 = .ret) (r := r32) (ares_1 rfl (oneT rfl)) rfl H
theorem S19_1_ok (Q : ByteArray → AW → Prop) (E : List PanicEntry → AW → Prop)  : ∀ (n : Nat) (ρ : Env) (h_0 : Value) (w_1 : Int) (b_5 : Value) (t_13 : Int) (t_14 : Int) (aw : AW) (h0 : ρ 0 = h_0) (h1 : ρ 1 = .int .u64 w_1) (h5 : ρ 5 = b_5) (h13 : ρ 13 = .int .i64 t_13) (h14 : ρ 14 = .int .i64 t_14), S19_1 Q E  n h_0 w_1 b_5 t_13 t_14 aw →
    AGo prog 38 [.code C19_17, .inLoop C19_17, .inBlock 0, .code C19_29] ρ [] aw (RR prog f19 38 sh19 Q E)
  | 0, _, _, _, _, _, _, _, _, _, _, _, _ => fun H => H.elim
  | n + 1, ρ, h_0, w_1, b_5, t_13, t_14, aw, h0, h1, h5, h13, h14 => fun H => S19_1s_ok Q E  _ (S19_1_ok Q E  n) ρ h_0 w_1 b_5 t_13 t_14 aw h0 h1 h5 h13 h14 H
theorem S19_0_ok (Q : ByteArray → AW → Prop) (E : List PanicEntry → AW → Prop)  (ρ : Env) (h_0 : Value) (w_1 : Int) (aw : AW) (h0 : ρ 0 = h_0) (h1 : ρ 1 = .int .u64 w_1) (H : S19_0 Q E  h_0 w_1 aw) :
    AGo prog 38 [.code C19_0] ρ [] aw (RR prog f19 38 sh19 Q E) := by
  unfold S19_0 at H
  refine ago_seqE (rfl : C19_0 = .seq C19_1 C19_2) ?_
  refine ago_regE (rfl : C19_1 = .region 0 R19_0 false) (l := [0]) rfl ?_
  refine lj 4 R19_0_N rfl rfl rfl (opv_assign rfl rfl rfl) ?_
  refine aops_nil ?_
  refine ago_seqE (rfl : C19_2 = .seq C19_3 C19_10) ?_
  refine ago_seqE (rfl : C19_3 = .seq C19_4 C19_5) ?_
  refine ago_regE (rfl : C19_4 = .region 1 R19_1 false) (l := [0, 1, 2, 3]) rfl ?_
  refine lj 7 R19_1_N rfl rfl rfl (opv_move rfl rfl h0) ?_
  refine lj 8 R19_1_N rfl rfl rfl (opv_move rfl rfl h1) ?_
  refine lc 9 R19_1_N rfl rfl rfl (opc_of rfl rfl is38 (ma_cons rfl (ma_cons rfl rfl))) H (fun _ _ h => ⟨rfl, h⟩) fun r34 aw35 H => ?_
  refine lj 10 R19_1_N rfl rfl rfl (opv_neI rfl rfl rfl rfl rfl) ?_
  refine aops_nil ?_
  refine ago_condE  (rfl : C19_5 = .cond (.tmp 10) C19_6 C19_9) rfl rfl (fun hb36 => ?_) (fun hb36 => ?_)
  · replace H := cnd_t H hb36
    refine ago_seqE (rfl : C19_6 = .seq C19_7 C19_8) ?_
    refine ago_regE (rfl : C19_7 = .region 2 R19_2 false) (l := [0]) rfl ?_
    refine lj 4 R19_2_N rfl rfl rfl (opv_assign rfl rfl rfl) ?_
    refine aops_nil ?_
    exact ago_retE (rfl : C19_8 = .ret) (r := (⟨#[]⟩ : ByteArray)) (ares_1 rfl (oneT rfl)) rfl H
  replace H := cnd_f H hb36
  refine ago_skipE (rfl : C19_9 = .skip) ?_
  refine ago_seqE (rfl : C19_10 = .seq C19_11 C19_12) ?_
  refine ago_regE (rfl : C19_11 = .region 3 R19_3 false) (l := [0]) rfl ?_
  obtain ⟨p37, aw38, hp39, ha40, H⟩ := H
  refine lj 5 R19_3_N rfl rfl rfl (ov_alloc rfl z94 rfl rfl hp39 ha40) ?_
  refine aops_nil ?_
  refine ago_seqE (rfl : C19_12 = .seq C19_13 C19_29) ?_
  refine ago_seqE (rfl : C19_13 = .seq C19_14 C19_15) ?_
  refine ago_regE (rfl : C19_14 = .region 4 R19_4 false) (l := [0, 1, 2, 3]) rfl ?_
  refine lj 11 R19_4_N rfl rfl rfl (opv_move rfl rfl h0) ?_
  refine lj 12 R19_4_N rfl rfl rfl (opv_move rfl rfl h1) ?_
  refine lc 13 R19_4_N rfl rfl rfl (opc_of rfl rfl is39 (ma_cons rfl (ma_cons rfl rfl))) H (fun _ _ h => ⟨rfl, h⟩) fun r41 aw42 H => ?_
  refine lj 14 R19_4_N rfl rfl rfl (opv_move rfl rfl rfl) ?_
  refine aops_nil ?_
  refine ago_blockE (rfl : C19_15 = .block 0 C19_16) ?_
  refine ago_loopE (rfl : C19_16 = .loop C19_17) ?_
  obtain ⟨n, H⟩ := H
  exact S19_1_ok Q E  n _ h_0 w_1 p37 r41 0 aw42 h0 h1 rfl rfl rfl H
theorem F19_ok {Q : ByteArray → AW → Prop} {E : List PanicEntry → AW → Prop} (h_0 : Value) (w_1 : Int) (aw : AW) (H : S19_0 Q E h_0 w_1 aw) : CallP prog 19 [h_0, .int .u64 w_1] aw sh19 Q E :=
  callP_of func19 C19_is rfl (Nat.le_of_ble_eq_true rfl) (S19_0_ok Q E _ h_0 w_1 aw rfl rfl H)
def C23_0 := bodyOf f23
theorem C23_is : f23.body = some C23_0 := by kernel_rfl
def C23_1 := cl C23_0
def R23_0 := regOps C23_1
def C23_2 := cr C23_0
def C23_3 := cl C23_2
def C23_4 := cl C23_3
def R23_1 := regOps C23_4
def C23_5 := cr C23_3
def C23_6 := cl C23_5
def C23_7 := cl C23_6
def R23_2 := regOps C23_7
def C23_8 := cr C23_6
def C23_9 := cr C23_5
def C23_10 := cr C23_2
def C23_11 := cl C23_10
def R23_3 := regOps C23_11
def C23_12 := cr C23_10
theorem R23_0_N : dstsOk 10 R23_0 = true := by decide +kernel
theorem R23_1_N : dstsOk 10 R23_1 = true := by decide +kernel
theorem R23_2_N : dstsOk 10 R23_2 = true := by decide +kernel
theorem R23_3_N : dstsOk 10 R23_3 = true := by decide +kernel
def S23_0 (Q : Int → AW → Prop) (E : List PanicEntry → AW → Prop)  (h_0 : Value) (aw : AW) : Prop :=
  nilB (.pointer 100) h_0 (.pointer none) fun q1 =>
  cnd q1 (Q 0 aw) (nck h_0 (fldA h_0 0 fun p6 =>
  ldV aw p6 fun x14 =>
  slen x14 fun n16 =>
  Q n16 aw))
theorem S23_0_ok (Q : Int → AW → Prop) (E : List PanicEntry → AW → Prop)  (ρ : Env) (h_0 : Value) (aw : AW) (h0 : ρ 0 = h_0) (H : S23_0 Q E  h_0 aw) :
    AGo prog 10 [.code C23_0] ρ [] aw (RR prog f23 10 sh23 Q E) := by
  unfold S23_0 at H
  refine ago_seqE (rfl : C23_0 = .seq C23_1 C23_2) ?_
  refine ago_regE (rfl : C23_1 = .region 0 R23_0 false) (l := [0]) rfl ?_
  refine lj 2 R23_0_N rfl rfl rfl (opv_assign rfl rfl rfl) ?_
  refine aops_nil ?_
  refine ago_seqE (rfl : C23_2 = .seq C23_3 C23_10) ?_
  refine ago_seqE (rfl : C23_3 = .seq C23_4 C23_5) ?_
  refine ago_regE (rfl : C23_4 = .region 1 R23_1 false) (l := [0, 1]) rfl ?_
  refine lj 3 R23_1_N rfl rfl rfl (opv_move rfl rfl h0) ?_
  obtain ⟨q1, hf2, hq3, H⟩ := H
  refine lj 4 R23_1_N rfl rfl rfl (ov_eqNil rfl rfl underlying50 rfl hf2 hq3) ?_
  refine aops_nil ?_
  refine ago_condE  (rfl : C23_5 = .cond (.tmp 4) C23_6 C23_9) rfl rfl (fun hb4 => ?_) (fun hb4 => ?_)
  · replace H := cnd_t H hb4
    refine ago_seqE (rfl : C23_6 = .seq C23_7 C23_8) ?_
    refine ago_regE (rfl : C23_7 = .region 2 R23_2 false) (l := [0]) rfl ?_
    refine lj 2 R23_2_N rfl rfl rfl (opv_assign rfl rfl rfl) ?_
    refine aops_nil ?_
    exact ago_retE (rfl : C23_8 = .ret) (r := 0) (ares_1 rfl (oneT rfl)) rfl H
  replace H := cnd_f H hb4
  refine ago_skipE (rfl : C23_9 = .skip) ?_
  refine ago_seqE (rfl : C23_10 = .seq C23_11 C23_12) ?_
  refine ago_regE (rfl : C23_11 = .region 3 R23_3 false) (l := [0, 1, 2, 3, 4, 5]) rfl ?_
  refine lj 5 R23_3_N rfl rfl rfl (opv_move rfl rfl h0) ?_
  obtain ⟨hp5, H⟩ := H
  refine lj 6 R23_3_N rfl rfl rfl (ov_nck rfl rfl rfl hp5) ?_
  obtain ⟨b7, i8, p6, hp9, hv10, H⟩ := H
  refine lj 7 R23_3_N rfl rfl rfl (ov_fldA rfl rfl underlying100 rfl sz62 (by decide) rfl hp9 rfl hv10) ?_
  obtain ⟨b11, i12, x14, hp13, hg15, H⟩ := H
  refine lj 8 R23_3_N rfl rfl rfl (ov_ldV rfl underlying62 rfl rfl rfl hp13 hg15) ?_
  obtain ⟨q17, l18, c19, n16, hv20, hn21, H⟩ := H
  refine lj 9 R23_3_N rfl rfl rfl (ov_len rfl rfl rfl underlying62 rfl hv20 hn21) ?_
  refine lj 2 R23_3_N rfl rfl rfl (opv_assign rfl rfl rfl) ?_
  refine aops_nil ?_
  exact ago_retE (rfl : C23_12 = .ret) (r := n16) (ares_1 rfl (oneT rfl)) rfl H
theorem F23_ok {Q : Int → AW → Prop} {E : List PanicEntry → AW → Prop} (h_0 : Value) (aw : AW) (H : S23_0 Q E h_0 aw) : CallP prog 23 [h_0] aw sh23 Q E :=
  callP_of func23 C23_is rfl (Nat.le_of_ble_eq_true rfl) (S23_0_ok Q E _ h_0 aw rfl H)
def C68_0 := bodyOf f68
theorem C68_is : f68.body = some C68_0 := by kernel_rfl
def C68_1 := cl C68_0
def R68_0 := regOps C68_1
def C68_2 := cr C68_0
def C68_3 := cl C68_2
def C68_4 := cl C68_3
def R68_1 := regOps C68_4
def C68_5 := cr C68_3
def C68_6 := cl C68_5
def C68_9 := cr C68_5
def C68_10 := cr C68_2
def C68_11 := cl C68_10
def C68_12 := cl C68_11
def R68_3 := regOps C68_12
def C68_13 := cr C68_11
def C68_14 := cl C68_13
def C68_17 := cr C68_13
def C68_18 := cr C68_10
def C68_19 := cl C68_18
def R68_5 := regOps C68_19
def C68_20 := cr C68_18
def C68_21 := cl C68_20
def R68_6 := regOps C68_21
def C68_22 := cr C68_20
def C68_23 := cl C68_22
def C68_24 := cl C68_23
def R68_7 := regOps C68_24
def C68_25 := cr C68_23
def C68_26 := cl C68_25
def C68_27 := cl C68_26
def C68_28 := cl C68_27
def C68_29 := cl C68_28
def R68_8 := regOps C68_29
def C68_30 := cr C68_28
def C68_31 := cl C68_30
def C68_32 := cr C68_30
def C68_33 := cr C68_27
def C68_34 := cl C68_33
def C68_35 := cl C68_34
def C68_36 := cl C68_35
def R68_10 := regOps C68_36
def C68_37 := cr C68_35
def C68_38 := cl C68_37
def C68_39 := cl C68_38
def R68_11 := regOps C68_39
def C68_40 := cr C68_38
def C68_41 := cl C68_40
def C68_42 := cl C68_41
def C68_43 := cl C68_42
def C68_44 := cl C68_43
def R68_12 := regOps C68_44
def C68_45 := cr C68_43
def C68_46 := cl C68_45
def C68_47 := cr C68_45
def C68_48 := cr C68_42
def C68_49 := cl C68_48
def C68_50 := cl C68_49
def R68_14 := regOps C68_50
def C68_51 := cr C68_48
def R68_13 := regOps C68_51
def C68_52 := cr C68_37
def R68_15 := regOps C68_52
def C68_53 := cr C68_33
def R68_9 := regOps C68_53
def C68_54 := cr C68_22
def C68_55 := cl C68_54
def R68_16 := regOps C68_55
def C68_56 := cr C68_54
theorem R68_0_N : dstsOk 80 R68_0 = true := by decide +kernel
theorem R68_1_N : dstsOk 80 R68_1 = true := by decide +kernel
theorem R68_3_N : dstsOk 80 R68_3 = true := by decide +kernel
theorem R68_5_N : dstsOk 80 R68_5 = true := by decide +kernel
theorem R68_6_N : dstsOk 80 R68_6 = true := by decide +kernel
theorem R68_6_O : linOk R68_6 [0, 1, 2, 3, 4, 5, 6] [(7, [0, 1, 2, 3, 4], []), (8, [0, 1, 2, 3, 4], []), (9, [0], [10, 11]), (12, [], [])] = true := by decide +kernel
theorem R68_7_N : dstsOk 80 R68_7 = true := by decide +kernel
theorem R68_8_N : dstsOk 80 R68_8 = true := by decide +kernel
theorem R68_10_N : dstsOk 80 R68_10 = true := by decide +kernel
theorem R68_11_N : dstsOk 80 R68_11 = true := by decide +kernel
theorem R68_12_N : dstsOk 80 R68_12 = true := by decide +kernel
theorem R68_14_N : dstsOk 80 R68_14 = true := by decide +kernel
theorem R68_13_N : dstsOk 80 R68_13 = true := by decide +kernel
theorem R68_15_N : dstsOk 80 R68_15 = true := by decide +kernel
theorem R68_9_N : dstsOk 80 R68_9 = true := by decide +kernel
theorem R68_16_N : dstsOk 80 R68_16 = true := by decide +kernel
def S68_3 (Q : (Int × Int) → AW → Prop) (E : List PanicEntry → AW → Prop) (nx1 : Value → ByteArray → Int → Int → AW → Prop) (nx2 : Value → ByteArray → Int → Int → Int → Int → AW → Prop) (h_0 : Value) (s_1 : ByteArray) (at_8 : Int) (i_9 : Int) (w_10 : Int) (k_11 : Int) (t_53 : Bool) (aw : AW) : Prop :=
  cnd t_53 (chr s_1 (IntKind.i64.wrap (i_9 + k_11)) fun c2 =>
  0 ≤ (IntKind.i64.wrap (8 * k_11)) ∧ nx2 h_0 s_1 at_8 i_9 (bitsOf .or .u64 w_10 (IntKind.u64.wrap ((IntKind.u64.wrap c2) * 2 ^ (min (IntKind.i64.wrap (8 * k_11)).toNat IntKind.u64.bits)))) (IntKind.i64.wrap (k_11 + 1)) aw) (nck h_0 (fldA h_0 0 fun p8 =>
  ldV aw p8 fun x16 =>
  alcS aw [.int .u64 w_10] 26 1 1 fun p18 aw19 =>
  app aw19 26 1 8 x16 p18 fun v22 aw23 =>
  nck h_0 (fldA h_0 0 fun p26 =>
  st aw23 p26 [v22] fun aw31 =>
  nx1 h_0 s_1 at_8 (IntKind.i64.wrap (i_9 + 8)) aw31)))
def S68_2s (Q : (Int × Int) → AW → Prop) (E : List PanicEntry → AW → Prop) (nx1 : Value → ByteArray → Int → Int → AW → Prop) (nx2 : Value → ByteArray → Int → Int → Int → Int → AW → Prop) (h_0 : Value) (s_1 : ByteArray) (at_8 : Int) (i_9 : Int) (w_10 : Int) (k_11 : Int) (aw : AW) : Prop :=
  cnd (decide (k_11 < 8)) (S68_3 Q E nx1 nx2 h_0 s_1 at_8 i_9 w_10 k_11 (decide ((IntKind.i64.wrap (i_9 + k_11)) < (s_1.size : Int))) aw) (S68_3 Q E nx1 nx2 h_0 s_1 at_8 i_9 w_10 k_11 false aw)
def S68_2 (Q : (Int × Int) → AW → Prop) (E : List PanicEntry → AW → Prop) (nx1 : Value → ByteArray → Int → Int → AW → Prop) : Nat → Value → ByteArray → Int → Int → Int → Int → AW → Prop
  | 0 => fun _ _ _ _ _ _ _ => False
  | n + 1 => S68_2s Q E nx1 (S68_2 Q E nx1 n)
def S68_1s (Q : (Int × Int) → AW → Prop) (E : List PanicEntry → AW → Prop)  (nx1 : Value → ByteArray → Int → Int → AW → Prop) (h_0 : Value) (s_1 : ByteArray) (at_8 : Int) (i_9 : Int) (aw : AW) : Prop :=
  cnd (decide (i_9 < (s_1.size : Int))) (∃ n, S68_2 Q E nx1 n h_0 s_1 at_8 i_9 0 0 aw) (Q ((IntKind.u64.wrap ((IntKind.u64.wrap at_8) * 2 ^ (min (1 : Int).toNat IntKind.u64.bits))), 0) aw)
def S68_1 (Q : (Int × Int) → AW → Prop) (E : List PanicEntry → AW → Prop)  : Nat → Value → ByteArray → Int → Int → AW → Prop
  | 0 => fun _ _ _ _ _ => False
  | n + 1 => S68_1s Q E  (S68_1 Q E  n)
def S68_0 (Q : (Int × Int) → AW → Prop) (E : List PanicEntry → AW → Prop)  (h_0 : Value) (s_1 : ByteArray) (roots_2 : Value) (aw : AW) : Prop :=
  nilB (.pointer 100) h_0 (.pointer none) fun q40 =>
  cnd q40 (False) (CallP prog 53 [.int .u8 3, .int .i64 (s_1.size : Int)] aw sh53 (fun r44 aw45 =>
  CallP prog 52 [h_0, .int .i64 r44, roots_2] aw45 sh52 (fun r46 aw47 =>
  cnd (!r46) (False) (nck h_0 (fldA h_0 0 fun p50 =>
  ldV aw47 p50 fun x58 =>
  slen x58 fun n60 =>
  nck h_0 (fldA h_0 0 fun p67 =>
  ldV aw47 p67 fun x75 =>
  CallP prog 54 [.int .u8 3, .int .i64 (s_1.size : Int)] aw47 sh54 (fun r77 aw78 =>
  again1 aw78 p67 (x75) ∧ alcS aw78 [.int .u64 r77] 26 1 1 fun p79 aw80 =>
  again1 aw80 p67 (x75) ∧ app aw80 26 1 8 x75 p79 fun v83 aw84 =>
  nck h_0 (fldA h_0 0 fun p87 =>
  st aw84 p87 [v83] fun aw92 =>
  ∃ n, S68_1 Q E  n h_0 s_1 n60 0 aw92)) E)))) E) E)
theorem S68_3_ok (Q : (Int × Int) → AW → Prop) (E : List PanicEntry → AW → Prop) (nx1 : Value → ByteArray → Int → Int → AW → Prop) (L1 : ∀ (ρ : Env) (h_0 : Value) (s_1 : ByteArray) (at_8 : Int) (i_9 : Int) (aw : AW) (h0 : ρ 0 = h_0) (h1 : ρ 1 = .string s_1) (h8 : ρ 8 = .int .i64 at_8) (h9 : ρ 9 = .int .i64 i_9), nx1 h_0 s_1 at_8 i_9 aw → AGo prog 80 [.code C68_27, .inLoop C68_27, .inBlock 0, .code C68_54] ρ [] aw (RR prog f68 80 sh68 Q E)) (nx2 : Value → ByteArray → Int → Int → Int → Int → AW → Prop) (L2 : ∀ (ρ : Env) (h_0 : Value) (s_1 : ByteArray) (at_8 : Int) (i_9 : Int) (w_10 : Int) (k_11 : Int) (aw : AW) (h0 : ρ 0 = h_0) (h1 : ρ 1 = .string s_1) (h8 : ρ 8 = .int .i64 at_8) (h9 : ρ 9 = .int .i64 i_9) (h10 : ρ 10 = .int .u64 w_10) (h11 : ρ 11 = .int .i64 k_11), nx2 h_0 s_1 at_8 i_9 w_10 k_11 aw → AGo prog 80 [.code C68_42, .inLoop C68_42, .inBlock 2, .code C68_52, .inBlock 1, .code C68_53, .inLoop C68_27, .inBlock 0, .code C68_54] ρ [] aw (RR prog f68 80 sh68 Q E)) (ρ : Env) (h_0 : Value) (s_1 : ByteArray) (at_8 : Int) (i_9 : Int) (w_10 : Int) (k_11 : Int) (t_53 : Bool) (aw : AW) (h0 : ρ 0 = h_0) (h1 : ρ 1 = .string s_1) (h8 : ρ 8 = .int .i64 at_8) (h9 : ρ 9 = .int .i64 i_9) (h10 : ρ 10 = .int .u64 w_10) (h11 : ρ 11 = .int .i64 k_11) (h53 : ρ 53 = .bool t_53) (H : S68_3 Q E nx1 nx2 h_0 s_1 at_8 i_9 w_10 k_11 t_53 aw) :
    AGo prog 80 [.code C68_45, .code C68_48, .inLoop C68_42, .inBlock 2, .code C68_52, .inBlock 1, .code C68_53, .inLoop C68_27, .inBlock 0, .code C68_54] ρ [] aw (RR prog f68 80 sh68 Q E) := by
  unfold S68_3 at H
  refine ago_condE  (rfl : C68_45 = .cond (.tmp 53) C68_46 C68_47) rfl h53 (fun hb1 => ?_) (fun hb1 => ?_)
  · replace H := cnd_t H hb1
    refine ago_skipE (rfl : C68_46 = .skip) ?_
    refine ago_seqE (rfl : C68_48 = .seq C68_49 C68_51) ?_
    refine ago_blockE (rfl : C68_49 = .block 3 C68_50) ?_
    refine ago_regE (rfl : C68_50 = .region 14 R68_14 false) (l := [0, 1, 2, 3, 4, 5, 6, 7, 8, 9, 10, 11]) rfl ?_
    refine lj 56 R68_14_N rfl rfl rfl (opv_move rfl rfl h10) ?_
    refine lj 57 R68_14_N rfl rfl rfl (opv_move rfl rfl h1) ?_
    refine lj 58 R68_14_N rfl rfl rfl (opv_move rfl rfl h9) ?_
    refine lj 59 R68_14_N rfl rfl rfl (opv_move rfl rfl h11) ?_
    refine lj 60 R68_14_N rfl rfl rfl (opv_add rfl rfl rfl rfl rfl) ?_
    obtain ⟨c2, h03, hj4, hv5, H⟩ := H
    refine lj 61 R68_14_N rfl rfl rfl (ov_chr rfl rfl rfl underlying9 rfl rfl h03 hj4 hv5) ?_
    refine lj 62 R68_14_N rfl rfl rfl (opv_conv rfl rfl underlying5 underlying26 rfl) ?_
    refine lj 63 R68_14_N rfl rfl rfl (opv_move rfl rfl h11) ?_
    refine lj 64 R68_14_N rfl rfl rfl (opv_mul rfl rfl rfl rfl rfl) ?_
    obtain ⟨hz6, H⟩ := H
    refine lj 65 R68_14_N rfl rfl rfl (opv_shl rfl rfl rfl rfl rfl hz6) ?_
    refine lj 66 R68_14_N rfl rfl rfl (opv_or rfl rfl rfl rfl rfl) ?_
    refine lj 10 R68_14_N rfl rfl rfl (opv_assign rfl rfl rfl) ?_
    refine aops_nil ?_
    refine ago_inBlock ?_
    refine ago_cut (fun ρ => ρ 0 = h_0 ∧ ρ 1 = .string s_1 ∧ ρ 8 = .int .i64 at_8 ∧ ρ 9 = .int .i64 i_9 ∧ ρ 10 = .int .u64 (bitsOf .or .u64 w_10 (IntKind.u64.wrap ((IntKind.u64.wrap c2) * 2 ^ (min (IntKind.i64.wrap (8 * k_11)).toNat IntKind.u64.bits)))) ∧ ρ 11 = .int .i64 k_11 ∧ True) ⟨h0, h1, h8, h9, rfl, h11, trivial⟩ (fun ρ ⟨h0, h1, h8, h9, h10, h11, _⟩ => ?_)
    refine ago_regE (rfl : C68_51 = .region 13 R68_13 false) (l := [0, 1, 2]) rfl ?_
    refine lj 54 R68_13_N rfl rfl rfl (opv_move rfl rfl h11) ?_
    refine lj 55 R68_13_N rfl rfl rfl (opv_add rfl rfl rfl rfl rfl) ?_
    refine lj 11 R68_13_N rfl rfl rfl (opv_assign rfl rfl rfl) ?_
    refine aops_nil ?_
    refine ago_inLoop ?_
    exact L2 _ h_0 s_1 at_8 i_9 (bitsOf .or .u64 w_10 (IntKind.u64.wrap ((IntKind.u64.wrap c2) * 2 ^ (min (IntKind.i64.wrap (8 * k_11)).toNat IntKind.u64.bits)))) (IntKind.i64.wrap (k_11 + 1)) aw h0 h1 h8 h9 h10 rfl H
  replace H := cnd_f H hb1
  refine ago_exitE (rfl : C68_47 = .exit 2) rfl ?_
  refine ago_regE (rfl : C68_52 = .region 15 R68_15 false) (l := [0, 1, 2, 3, 4, 5, 6, 7, 8, 9, 10]) rfl ?_
  refine lj 67 R68_15_N rfl rfl rfl (opv_move rfl rfl h0) ?_
  refine lj 68 R68_15_N rfl rfl rfl (opv_move rfl rfl h0) ?_
  obtain ⟨hp7, H⟩ := H
  refine lj 69 R68_15_N rfl rfl rfl (ov_nck rfl rfl rfl hp7) ?_
  obtain ⟨b9, i10, p8, hp11, hv12, H⟩ := H
  refine lj 70 R68_15_N rfl rfl rfl (ov_fldA rfl rfl underlying100 rfl sz62 (by decide) rfl hp11 rfl hv12) ?_
  obtain ⟨b13, i14, x16, hp15, hg17, H⟩ := H
  refine lj 71 R68_15_N rfl rfl rfl (ov_ldV rfl underlying62 rfl rfl rfl hp15 hg17) ?_
  refine lj 72 R68_15_N rfl rfl rfl (opv_move rfl rfl h10) ?_
  obtain ⟨p18, aw19, hp20, ha21, H⟩ := H
  refine lj 73 R68_15_N rfl rfl rfl (ov_bsA (r := [.int .u64 w_10]) (vs := [.int .u64 w_10]) rfl rfl underlying62 sz26 z26 rfl rfl rfl rfl rfl (mp_cons rfl rfl) (.one rfl .nil) hp20 ha21) ?_
  obtain ⟨v22, aw23, hq24, H⟩ := H
  refine lj 74 R68_15_N rfl rfl rfl (ov_app rfl rfl rfl rfl underlying62 sz26 by26 underlying62 rfl z26 rfl (by decide) (by decide) rfl rfl hq24) ?_
  obtain ⟨hp25, H⟩ := H
  refine lj 75 R68_15_N rfl rfl rfl (ov_nck rfl rfl rfl hp25) ?_
  obtain ⟨b27, i28, p26, hp29, hv30, H⟩ := H
  refine lj 76 R68_15_N rfl rfl rfl (ov_fldA rfl rfl underlying100 rfl sz62 (by decide) rfl hp29 rfl hv30) ?_
  obtain ⟨b32, i33, aw31, hp34, hw35, ho36, ha37, H⟩ := H
  refine lk (dt := none) R68_15_N rfl rfl rfl (ov_st rfl rfl rfl rfl rfl (cells_all ho36) sz62 hp34 hw35 ho36 ha37) ?_
  refine aops_nil ?_
  refine ago_inBlock ?_
  refine ago_regE (rfl : C68_53 = .region 9 R68_9 false) (l := [0, 1, 2]) rfl ?_
  refine lj 42 R68_9_N rfl rfl rfl (opv_move rfl rfl h9) ?_
  refine lj 43 R68_9_N rfl rfl rfl (opv_add rfl rfl rfl rfl rfl) ?_
  refine lj 9 R68_9_N rfl rfl rfl (opv_assign rfl rfl rfl) ?_
  refine aops_nil ?_
  refine ago_inLoop ?_
  exact L1 _ h_0 s_1 at_8 (IntKind.i64.wrap (i_9 + 8)) aw31 h0 h1 h8 rfl H
theorem S68_2s_ok (Q : (Int × Int) → AW → Prop) (E : List PanicEntry → AW → Prop) (nx1 : Value → ByteArray → Int → Int → AW → Prop) (L1 : ∀ (ρ : Env) (h_0 : Value) (s_1 : ByteArray) (at_8 : Int) (i_9 : Int) (aw : AW) (h0 : ρ 0 = h_0) (h1 : ρ 1 = .string s_1) (h8 : ρ 8 = .int .i64 at_8) (h9 : ρ 9 = .int .i64 i_9), nx1 h_0 s_1 at_8 i_9 aw → AGo prog 80 [.code C68_27, .inLoop C68_27, .inBlock 0, .code C68_54] ρ [] aw (RR prog f68 80 sh68 Q E)) (nx2 : Value → ByteArray → Int → Int → Int → Int → AW → Prop) (L2 : ∀ (ρ : Env) (h_0 : Value) (s_1 : ByteArray) (at_8 : Int) (i_9 : Int) (w_10 : Int) (k_11 : Int) (aw : AW) (h0 : ρ 0 = h_0) (h1 : ρ 1 = .string s_1) (h8 : ρ 8 = .int .i64 at_8) (h9 : ρ 9 = .int .i64 i_9) (h10 : ρ 10 = .int .u64 w_10) (h11 : ρ 11 = .int .i64 k_11), nx2 h_0 s_1 at_8 i_9 w_10 k_11 aw → AGo prog 80 [.code C68_42, .inLoop C68_42, .inBlock 2, .code C68_52, .inBlock 1, .code C68_53, .inLoop C68_27, .inBlock 0, .code C68_54] ρ [] aw (RR prog f68 80 sh68 Q E)) (ρ : Env) (h_0 : Value) (s_1 : ByteArray) (at_8 : Int) (i_9 : Int) (w_10 : Int) (k_11 : Int) (aw : AW) (h0 : ρ 0 = h_0) (h1 : ρ 1 = .string s_1) (h8 : ρ 8 = .int .i64 at_8) (h9 : ρ 9 = .int .i64 i_9) (h10 : ρ 10 = .int .u64 w_10) (h11 : ρ 11 = .int .i64 k_11) (H : S68_2s Q E nx1 nx2 h_0 s_1 at_8 i_9 w_10 k_11 aw) :
    AGo prog 80 [.code C68_42, .inLoop C68_42, .inBlock 2, .code C68_52, .inBlock 1, .code C68_53, .inLoop C68_27, .inBlock 0, .code C68_54] ρ [] aw (RR prog f68 80 sh68 Q E) := by
  unfold S68_2s at H
  refine ago_seqE (rfl : C68_42 = .seq C68_43 C68_48) ?_
  refine ago_seqE (rfl : C68_43 = .seq C68_44 C68_45) ?_
  refine ago_regE (rfl : C68_44 = .region 12 R68_12 false) (l := [0, 1, 2, 3, 4, 5, 6, 7, 8, 9]) rfl ?_
  refine lj 44 R68_12_N rfl rfl rfl (opv_move rfl rfl h11) ?_
  refine lj 45 R68_12_N rfl rfl rfl (opv_lt rfl rfl rfl rfl rfl) ?_
  refine lj 46 R68_12_N rfl rfl rfl (opv_move rfl rfl rfl) ?_
  rcases Bool.eq_false_or_eq_true (decide (k_11 < 8)) with hb38 | hb38
  · replace H := cnd_t H hb38
    refine lj 47 R68_12_N rfl rfl ⟨_, rfl, .inl ⟨_, rfl, gq hb38 rfl⟩⟩ (opv_move rfl rfl h9) ?_
    refine lj 48 R68_12_N rfl rfl ⟨_, rfl, .inl ⟨_, rfl, gq hb38 rfl⟩⟩ (opv_move rfl rfl h11) ?_
    refine lj 49 R68_12_N rfl rfl ⟨_, rfl, .inl ⟨_, rfl, gq hb38 rfl⟩⟩ (opv_add rfl rfl rfl rfl rfl) ?_
    refine lj 50 R68_12_N rfl rfl ⟨_, rfl, .inl ⟨_, rfl, gq hb38 rfl⟩⟩ (opv_move rfl rfl h1) ?_
    refine lj 51 R68_12_N rfl rfl ⟨_, rfl, .inl ⟨_, rfl, gq hb38 rfl⟩⟩ (opv_lenS rfl rfl rfl underlying9 rfl) ?_
    refine lj 52 R68_12_N rfl rfl ⟨_, rfl, .inl ⟨_, rfl, gq hb38 rfl⟩⟩ (opv_lt rfl rfl rfl rfl rfl) ?_
    refine lj 53 R68_12_N rfl rfl rfl (ov_pickT rfl rfl rfl rfl rfl hb38 rfl) ?_
    refine aops_nil ?_
    exact S68_3_ok Q E nx1 L1 nx2 L2 _ h_0 s_1 at_8 i_9 w_10 k_11 (decide ((IntKind.i64.wrap (i_9 + k_11)) < (s_1.size : Int))) aw h0 h1 h8 h9 h10 h11 rfl H
  · replace H := cnd_f H hb38
    refine ls 47 R68_12_N rfl rfl ⟨_, rfl, .inl ⟨_, rfl, gq hb38 rfl⟩⟩ ?_
    refine ls 48 R68_12_N rfl rfl ⟨_, rfl, .inl ⟨_, rfl, gq hb38 rfl⟩⟩ ?_
    refine ls 49 R68_12_N rfl rfl ⟨_, rfl, .inl ⟨_, rfl, gq hb38 rfl⟩⟩ ?_
    refine ls 50 R68_12_N rfl rfl ⟨_, rfl, .inl ⟨_, rfl, gq hb38 rfl⟩⟩ ?_
    refine ls 51 R68_12_N rfl rfl ⟨_, rfl, .inl ⟨_, rfl, gq hb38 rfl⟩⟩ ?_
    refine ls 52 R68_12_N rfl rfl ⟨_, rfl, .inl ⟨_, rfl, gq hb38 rfl⟩⟩ ?_
    refine lj 53 R68_12_N rfl rfl rfl (ov_pickF rfl rfl rfl rfl rfl hb38 rfl) ?_
    refine aops_nil ?_
    exact S68_3_ok Q E nx1 L1 nx2 L2 _ h_0 s_1 at_8 i_9 w_10 k_11 false aw h0 h1 h8 h9 h10 h11 rfl H
theorem S68_2_ok (Q : (Int × Int) → AW → Prop) (E : List PanicEntry → AW → Prop) (nx1 : Value → ByteArray → Int → Int → AW → Prop) (L1 : ∀ (ρ : Env) (h_0 : Value) (s_1 : ByteArray) (at_8 : Int) (i_9 : Int) (aw : AW) (h0 : ρ 0 = h_0) (h1 : ρ 1 = .string s_1) (h8 : ρ 8 = .int .i64 at_8) (h9 : ρ 9 = .int .i64 i_9), nx1 h_0 s_1 at_8 i_9 aw → AGo prog 80 [.code C68_27, .inLoop C68_27, .inBlock 0, .code C68_54] ρ [] aw (RR prog f68 80 sh68 Q E)) : ∀ (n : Nat) (ρ : Env) (h_0 : Value) (s_1 : ByteArray) (at_8 : Int) (i_9 : Int) (w_10 : Int) (k_11 : Int) (aw : AW) (h0 : ρ 0 = h_0) (h1 : ρ 1 = .string s_1) (h8 : ρ 8 = .int .i64 at_8) (h9 : ρ 9 = .int .i64 i_9) (h10 : ρ 10 = .int .u64 w_10) (h11 : ρ 11 = .int .i64 k_11), S68_2 Q E nx1 n h_0 s_1 at_8 i_9 w_10 k_11 aw →
    AGo prog 80 [.code C68_42, .inLoop C68_42, .inBlock 2, .code C68_52, .inBlock 1, .code C68_53, .inLoop C68_27, .inBlock 0, .code C68_54] ρ [] aw (RR prog f68 80 sh68 Q E)
  | 0, _, _, _, _, _, _, _, _, _, _, _, _, _, _ => fun H => H.elim
  | n + 1, ρ, h_0, s_1, at_8, i_9, w_10, k_11, aw, h0, h1, h8, h9, h10, h11 => fun H => S68_2s_ok Q E nx1 L1 _ (S68_2_ok Q E nx1 L1 n) ρ h_0 s_1 at_8 i_9 w_10 k_11 aw h0 h1 h8 h9 h10 h11 H
theorem S68_1s_ok (Q : (Int × Int) → AW → Prop) (E : List PanicEntry → AW → Prop)  (nx1 : Value → ByteArray → Int → Int → AW → Prop) (L1 : ∀ (ρ : Env) (h_0 : Value) (s_1 : ByteArray) (at_8 : Int) (i_9 : Int) (aw : AW) (h0 : ρ 0 = h_0) (h1 : ρ 1 = .string s_1) (h8 : ρ 8 = .int .i64 at_8) (h9 : ρ 9 = .int .i64 i_9), nx1 h_0 s_1 at_8 i_9 aw → AGo prog 80 [.code C68_27, .inLoop C68_27, .inBlock 0, .code C68_54] ρ [] aw (RR prog f68 80 sh68 Q E)) (ρ : Env) (h_0 : Value) (s_1 : ByteArray) (at_8 : Int) (i_9 : Int) (aw : AW) (h0 : ρ 0 = h_0) (h1 : ρ 1 = .string s_1) (h8 : ρ 8 = .int .i64 at_8) (h9 : ρ 9 = .int .i64 i_9) (H : S68_1s Q E  nx1 h_0 s_1 at_8 i_9 aw) :
    AGo prog 80 [.code C68_27, .inLoop C68_27, .inBlock 0, .code C68_54] ρ [] aw (RR prog f68 80 sh68 Q E) := by
  unfold S68_1s at H
  refine ago_seqE (rfl : C68_27 = .seq C68_28 C68_33) ?_
  refine ago_seqE (rfl : C68_28 = .seq C68_29 C68_30) ?_
  refine ago_regE (rfl : C68_29 = .region 8 R68_8 false) (l := [0, 1, 2, 3]) rfl ?_
  refine lj 38 R68_8_N rfl rfl rfl (opv_move rfl rfl h9) ?_
  refine lj 39 R68_8_N rfl rfl rfl (opv_move rfl rfl h1) ?_
  refine lj 40 R68_8_N rfl rfl rfl (opv_lenS rfl rfl rfl underlying9 rfl) ?_
  refine lj 41 R68_8_N rfl rfl rfl (opv_lt rfl rfl rfl rfl rfl) ?_
  refine aops_nil ?_
  refine ago_condE  (rfl : C68_30 = .cond (.tmp 41) C68_31 C68_32) rfl rfl (fun hb39 => ?_) (fun hb39 => ?_)
  · replace H := cnd_t H hb39
    refine ago_skipE (rfl : C68_31 = .skip) ?_
    refine ago_seqE (rfl : C68_33 = .seq C68_34 C68_53) ?_
    refine ago_blockE (rfl : C68_34 = .block 1 C68_35) ?_
    refine ago_seqE (rfl : C68_35 = .seq C68_36 C68_37) ?_
    refine ago_regE (rfl : C68_36 = .region 10 R68_10 false) (l := [0]) rfl ?_
    refine lj 10 R68_10_N rfl rfl rfl (opv_assign rfl rfl rfl) ?_
    refine aops_nil ?_
    refine ago_seqE (rfl : C68_37 = .seq C68_38 C68_52) ?_
    refine ago_seqE (rfl : C68_38 = .seq C68_39 C68_40) ?_
    refine ago_regE (rfl : C68_39 = .region 11 R68_11 false) (l := [0]) rfl ?_
    refine lj 11 R68_11_N rfl rfl rfl (opv_assign rfl rfl rfl) ?_
    refine aops_nil ?_
    refine ago_blockE (rfl : C68_40 = .block 2 C68_41) ?_
    refine ago_loopE (rfl : C68_41 = .loop C68_42) ?_
    obtain ⟨n, H⟩ := H
    exact S68_2_ok Q E nx1 L1 n _ h_0 s_1 at_8 i_9 0 0 aw h0 h1 h8 h9 rfl rfl H
  replace H := cnd_f H hb39
  refine ago_exitE (rfl : C68_32 = .exit 0) rfl ?_
  refine ago_seqE (rfl : C68_54 = .seq C68_55 C68_56) ?_
  refine ago_regE (rfl : C68_55 = .region 16 R68_16 false) (l := [0, 1, 2, 3, 4]) rfl ?_
  refine lj 77 R68_16_N rfl rfl rfl (opv_move rfl rfl h8) ?_
  refine lj 78 R68_16_N rfl rfl rfl (opv_conv rfl rfl underlying3 underlying26 rfl) ?_
  refine lj 79 R68_16_N rfl rfl rfl (opv_shl rfl rfl rfl rfl rfl (by decide)) ?_
  refine lj 6 R68_16_N rfl rfl rfl (opv_assign rfl rfl rfl) ?_
  refine lj 7 R68_16_N rfl rfl rfl (opv_assign rfl rfl rfl) ?_
  refine aops_nil ?_
  exact ago_retE (rfl : C68_56 = .ret) (r := ((IntKind.u64.wrap ((IntKind.u64.wrap at_8) * 2 ^ (min (1 : Int).toNat IntKind.u64.bits))), 0)) (ares_2 rfl (oneT rfl) (oneT rfl)) rfl H
theorem S68_1_ok (Q : (Int × Int) → AW → Prop) (E : List PanicEntry → AW → Prop)  : ∀ (n : Nat) (ρ : Env) (h_0 : Value) (s_1 : ByteArray) (at_8 : Int) (i_9 : Int) (aw : AW) (h0 : ρ 0 = h_0) (h1 : ρ 1 = .string s_1) (h8 : ρ 8 = .int .i64 at_8) (h9 : ρ 9 = .int .i64 i_9), S68_1 Q E  n h_0 s_1 at_8 i_9 aw →
    AGo prog 80 [.code C68_27, .inLoop C68_27, .inBlock 0, .code C68_54] ρ [] aw (RR prog f68 80 sh68 Q E)
  | 0, _, _, _, _, _, _, _, _, _, _ => fun H => H.elim
  | n + 1, ρ, h_0, s_1, at_8, i_9, aw, h0, h1, h8, h9 => fun H => S68_1s_ok Q E  _ (S68_1_ok Q E  n) ρ h_0 s_1 at_8 i_9 aw h0 h1 h8 h9 H
theorem S68_0_ok (Q : (Int × Int) → AW → Prop) (E : List PanicEntry → AW → Prop)  (ρ : Env) (h_0 : Value) (s_1 : ByteArray) (roots_2 : Value) (aw : AW) (h0 : ρ 0 = h_0) (h1 : ρ 1 = .string s_1) (h2 : ρ 2 = roots_2) (H : S68_0 Q E  h_0 s_1 roots_2 aw) :
    AGo prog 80 [.code C68_0] ρ [] aw (RR prog f68 80 sh68 Q E) := by
  unfold S68_0 at H
  refine ago_seqE (rfl : C68_0 = .seq C68_1 C68_2) ?_
  refine ago_regE (rfl : C68_1 = .region 0 R68_0 false) (l := [0, 1]) rfl ?_
  refine lj 6 R68_0_N rfl rfl rfl (opv_assign rfl rfl rfl) ?_
  refine lj 7 R68_0_N rfl rfl rfl (opv_assign rfl rfl rfl) ?_
  refine aops_nil ?_
  refine ago_seqE (rfl : C68_2 = .seq C68_3 C68_10) ?_
  refine ago_seqE (rfl : C68_3 = .seq C68_4 C68_5) ?_
  refine ago_regE (rfl : C68_4 = .region 1 R68_1 false) (l := [0, 1]) rfl ?_
  refine lj 12 R68_1_N rfl rfl rfl (opv_move rfl rfl h0) ?_
  obtain ⟨q40, hf41, hq42, H⟩ := H
  refine lj 13 R68_1_N rfl rfl rfl (ov_eqNil rfl rfl underlying50 rfl hf41 hq42) ?_
  refine aops_nil ?_
  refine ago_condE  (rfl : C68_5 = .cond (.tmp 13) C68_6 C68_9) rfl rfl (fun hb43 => ?_) (fun hb43 => ?_)
  · exact (cnd_t H hb43).elim
  replace H := cnd_f H hb43
  refine ago_skipE (rfl : C68_9 = .skip) ?_
  refine ago_seqE (rfl : C68_10 = .seq C68_11 C68_18) ?_
  refine ago_seqE (rfl : C68_11 = .seq C68_12 C68_13) ?_
  refine ago_regE (rfl : C68_12 = .region 3 R68_3 false) (l := [0, 1, 2, 3, 4, 5, 6]) rfl ?_
  refine lj 14 R68_3_N rfl rfl rfl (opv_move rfl rfl h0) ?_
  refine lj 15 R68_3_N rfl rfl rfl (opv_move rfl rfl h1) ?_
  refine lj 16 R68_3_N rfl rfl rfl (opv_lenS rfl rfl rfl underlying9 rfl) ?_
  refine lc 17 R68_3_N rfl rfl rfl (opc_of rfl rfl is53 (ma_cons rfl (ma_cons rfl rfl))) H (fun _ _ h => ⟨rfl, h⟩) fun r44 aw45 H => ?_
  refine lj 18 R68_3_N rfl rfl rfl (opv_move rfl rfl h2) ?_
  refine lc 19 R68_3_N rfl rfl rfl (opc_of rfl rfl is52 (ma_cons rfl (ma_cons rfl (ma_cons rfl rfl)))) H (fun _ _ h => ⟨rfl, h⟩) fun r46 aw47 H => ?_
  refine lj 20 R68_3_N rfl rfl rfl (opv_not rfl rfl rfl) ?_
  refine aops_nil ?_
  refine ago_condE  (rfl : C68_13 = .cond (.tmp 20) C68_14 C68_17) rfl rfl (fun hb48 => ?_) (fun hb48 => ?_)
  · exact (cnd_t H hb48).elim
  replace H := cnd_f H hb48
  refine ago_skipE (rfl : C68_17 = .skip) ?_
  refine ago_seqE (rfl : C68_18 = .seq C68_19 C68_20) ?_
  refine ago_regE (rfl : C68_19 = .region 5 R68_5 false) (l := [0, 1, 2, 3, 4, 5]) rfl ?_
  refine lj 21 R68_5_N rfl rfl rfl (opv_move rfl rfl h0) ?_
  obtain ⟨hp49, H⟩ := H
  refine lj 22 R68_5_N rfl rfl rfl (ov_nck rfl rfl rfl hp49) ?_
  obtain ⟨b51, i52, p50, hp53, hv54, H⟩ := H
  refine lj 23 R68_5_N rfl rfl rfl (ov_fldA rfl rfl underlying100 rfl sz62 (by decide) rfl hp53 rfl hv54) ?_
  obtain ⟨b55, i56, x58, hp57, hg59, H⟩ := H
  refine lj 24 R68_5_N rfl rfl rfl (ov_ldV rfl underlying62 rfl rfl rfl hp57 hg59) ?_
  obtain ⟨q61, l62, c63, n60, hv64, hn65, H⟩ := H
  refine lj 25 R68_5_N rfl rfl rfl (ov_len rfl rfl rfl underlying62 rfl hv64 hn65) ?_
  refine lj 8 R68_5_N rfl rfl rfl (opv_assign rfl rfl rfl) ?_
  refine aops_nil ?_
  refine ago_seqE (rfl : C68_20 = .seq C68_21 C68_22) ?_
  refine ago_cut (fun ρ => ρ 0 = h_0 ∧ ρ 1 = .string s_1 ∧ ρ 8 = .int .i64 n60 ∧ True) ⟨h0, h1, rfl, trivial⟩ (fun ρ ⟨h0, h1, h8, _⟩ => ?_)
  obtain ⟨hp66, H⟩ := H
  obtain ⟨b68, i69, p67, hp70, hv71, H⟩ := H
  obtain ⟨b72, i73, x75, hp74, hg76, H⟩ := H
  refine ago_drawH (p := [0, 1, 2, 3, 4, 5, 6]) (tl := [(7, [0, 1, 2, 3, 4], []), (8, [0, 1, 2, 3, 4], []), (9, [0], [10, 11]), (12, [], [])]) (hv := [(0, h_0), (1, h_0), (2, h_0), (3, p67), (4, x75), (5, Value.string s_1), (6, Value.int .i64 (s_1.size : Int))]) (rfl : C68_21 = .region 6 R68_6 true) mixed R68_6_N R68_6_O rfl (pv_cons rfl (pv_cons rfl (pv_cons rfl (pv_cons rfl (pv_cons rfl (pv_cons rfl (pv_cons rfl (pv_nil _))))))))
    (fc 26 h_0 (hd_v rfl fun ρ hρ => ⟨rfl, opv_move rfl rfl ((hρ 0 (lmem rfl)).trans h0)⟩) rfl rfl
    (fc 27 h_0 (hd_v rfl fun ρ hρ => ⟨rfl, opv_move rfl rfl ((hρ 0 (lmem rfl)).trans h0)⟩) rfl rfl
    (fc 28 h_0 (hd_v rfl fun ρ hρ => ⟨rfl, ov_nck rfl rfl ((hρ 27 (lmem rfl)).trans rfl) hp66⟩) rfl rfl
    (fc 29 p67 (hd_v rfl fun ρ hρ => ⟨rfl, ov_fldA rfl rfl underlying100 rfl sz62 (by decide) ((hρ 28 (lmem rfl)).trans rfl) hp70 rfl hv71⟩) rfl rfl
    (fc 30 x75 (hd_v rfl fun ρ hρ => ⟨rfl, ov_ldV rfl underlying62 rfl rfl ((hρ 29 (lmem rfl)).trans rfl) hp74 hg76⟩) rfl rfl
    (fc 31 (.string s_1) (hd_v rfl fun ρ hρ => ⟨rfl, opv_move rfl rfl ((hρ 1 (lmem rfl)).trans h1)⟩) rfl rfl
    (fc 32 (.int .i64 (s_1.size : Int)) (hd_v rfl fun ρ hρ => ⟨rfl, opv_lenS rfl rfl rfl underlying9 ((hρ 31 (lmem rfl)).trans rfl)⟩) rfl rfl
    ffn))))))) ?_
  refine lt_call (dt := some 33) rfl rfl (fun ρ hρ => ⟨rfl, opc_of rfl rfl is54 (ma_cons rfl (ma_cons ((hρ 32 (lmem rfl)).trans rfl) rfl))⟩) H (fun _ _ h _ => ⟨rfl, h⟩) fun r77 aw78 H => ?_
  obtain ⟨hg76, H⟩ := H
  replace hg76 := hg76 _ _ hp74
  refine lt_next (l := [0, 1, 2, 3, 4]) (hv := []) rfl rfl (pv_nil _)
    (fc 26 h_0 (hd_v rfl fun ρ hρ => ⟨rfl, opv_move rfl rfl ((hρ 0 (lmem rfl)).trans h0)⟩) rfl rfl
    (fc 27 h_0 (hd_v rfl fun ρ hρ => ⟨rfl, opv_move rfl rfl ((hρ 0 (lmem rfl)).trans h0)⟩) rfl rfl
    (fc 28 h_0 (hd_v rfl fun ρ hρ => ⟨rfl, ov_nck rfl rfl ((hρ 27 (lmem rfl)).trans rfl) hp66⟩) rfl rfl
    (fc 29 p67 (hd_v rfl fun ρ hρ => ⟨rfl, ov_fldA rfl rfl underlying100 rfl sz62 (by decide) ((hρ 28 (lmem rfl)).trans rfl) hp70 rfl hv71⟩) rfl rfl
    (fc 30 x75 (hd_v rfl fun ρ hρ => ⟨rfl, ov_ldV rfl underlying62 rfl rfl ((hρ 29 (lmem rfl)).trans rfl) hp74 hg76⟩) rfl rfl
    ffn))))) ?_
  obtain ⟨p79, aw80, hp81, ha82, H⟩ := H
  refine lt_val (dt := some 34) (v := p79) rfl rfl (fun ρ hρ => ⟨rfl, ov_bsA (r := [.int .u64 r77]) (vs := [.int .u64 r77]) rfl rfl underlying62 sz26 z26 rfl rfl rfl rfl rfl (mp_cons ((hρ 33 (lmem rfl)).trans rfl) rfl) (.one rfl .nil) hp81 ha82⟩) ?_
  obtain ⟨hg76, H⟩ := H
  replace hg76 := hg76 _ _ hp74
  refine lt_next (l := [0, 1, 2, 3, 4]) (hv := []) rfl rfl (pv_nil _)
    (fc 26 h_0 (hd_v rfl fun ρ hρ => ⟨rfl, opv_move rfl rfl ((hρ 0 (lmem rfl)).trans h0)⟩) rfl rfl
    (fc 27 h_0 (hd_v rfl fun ρ hρ => ⟨rfl, opv_move rfl rfl ((hρ 0 (lmem rfl)).trans h0)⟩) rfl rfl
    (fc 28 h_0 (hd_v rfl fun ρ hρ => ⟨rfl, ov_nck rfl rfl ((hρ 27 (lmem rfl)).trans rfl) hp66⟩) rfl rfl
    (fc 29 p67 (hd_v rfl fun ρ hρ => ⟨rfl, ov_fldA rfl rfl underlying100 rfl sz62 (by decide) ((hρ 28 (lmem rfl)).trans rfl) hp70 rfl hv71⟩) rfl rfl
    (fc 30 x75 (hd_v rfl fun ρ hρ => ⟨rfl, ov_ldV rfl underlying62 rfl rfl ((hρ 29 (lmem rfl)).trans rfl) hp74 hg76⟩) rfl rfl
    ffn))))) ?_
  obtain ⟨v83, aw84, hq85, H⟩ := H
  refine lt_val (dt := some 35) (v := v83) rfl rfl (fun ρ hρ => ⟨rfl, ov_app rfl rfl rfl rfl underlying62 sz26 by26 underlying62 rfl z26 rfl (by decide) (by decide) ((hρ 30 (lmem rfl)).trans rfl) ((hρ 34 (lmem rfl)).trans rfl) hq85⟩) ?_
  obtain ⟨hp86, H⟩ := H
  obtain ⟨b88, i89, p87, hp90, hv91, H⟩ := H
  refine lt_next (l := [0, 10, 11]) (hv := [(10, h_0), (11, p87)]) rfl rfl (pv_cons rfl (pv_cons rfl (pv_nil _)))
    (fc 26 h_0 (hd_v rfl fun ρ hρ => ⟨rfl, opv_move rfl rfl ((hρ 0 (lmem rfl)).trans h0)⟩) rfl rfl
    (fc 36 h_0 (hd_v rfl fun ρ hρ => ⟨rfl, ov_nck rfl rfl ((hρ 26 (lmem rfl)).trans rfl) hp86⟩) rfl rfl
    (fc 37 p87 (hd_v rfl fun ρ hρ => ⟨rfl, ov_fldA rfl rfl underlying100 rfl sz62 (by decide) ((hρ 36 (lmem rfl)).trans rfl) hp90 rfl hv91⟩) rfl rfl
    ffn))) ?_
  obtain ⟨b93, i94, aw92, hp95, hw96, ho97, ha98, H⟩ := H
  refine lt_val (dt := none) (v := undef) rfl rfl (fun ρ hρ => ⟨rfl, ov_st rfl rfl rfl ((hρ 37 (lmem rfl)).trans rfl) ((hρ 35 (lmem rfl)).trans rfl) (cells_all ho97) sz62 hp95 hw96 ho97 ha98⟩) ?_
  refine lt_next (l := []) (hv := []) rfl rfl (pv_nil _)
    ffn ?_
  refine lt_end ?_
  refine ago_seqE (rfl : C68_22 = .seq C68_23 C68_54) ?_
  refine ago_seqE (rfl : C68_23 = .seq C68_24 C68_25) ?_
  refine ago_cut (fun ρ => ρ 0 = h_0 ∧ ρ 1 = .string s_1 ∧ ρ 8 = .int .i64 n60 ∧ True) ⟨h0, h1, h8, trivial⟩ (fun ρ ⟨h0, h1, h8, _⟩ => ?_)
  refine ago_regE (rfl : C68_24 = .region 7 R68_7 false) (l := [0]) rfl ?_
  refine lj 9 R68_7_N rfl rfl rfl (opv_assign rfl rfl rfl) ?_
  refine aops_nil ?_
  refine ago_blockE (rfl : C68_25 = .block 0 C68_26) ?_
  refine ago_loopE (rfl : C68_26 = .loop C68_27) ?_
  obtain ⟨n, H⟩ := H
  exact S68_1_ok Q E  n _ h_0 s_1 n60 0 aw92 h0 h1 h8 rfl H
theorem F68_ok {Q : (Int × Int) → AW → Prop} {E : List PanicEntry → AW → Prop} (h_0 : Value) (s_1 : ByteArray) (roots_2 : Value) (aw : AW) (H : S68_0 Q E h_0 s_1 roots_2 aw) : CallP prog 68 [h_0, .string s_1, roots_2] aw sh68 Q E :=
  callP_of func68 C68_is rfl (Nat.le_of_ble_eq_true rfl) (S68_0_ok Q E _ h_0 s_1 roots_2 aw rfl rfl rfl H)
def C80_0 := bodyOf f80
theorem C80_is : f80.body = some C80_0 := by kernel_rfl
def C80_1 := cl C80_0
def R80_0 := regOps C80_1
def C80_2 := cr C80_0
def C80_3 := cl C80_2
def C80_4 := cl C80_3
def R80_1 := regOps C80_4
def C80_5 := cr C80_3
def C80_6 := cl C80_5
def C80_7 := cl C80_6
def R80_2 := regOps C80_7
def C80_8 := cr C80_6
def C80_9 := cr C80_5
def C80_10 := cr C80_2
def C80_11 := cl C80_10
def R80_3 := regOps C80_11
def C80_12 := cr C80_10
theorem R80_0_N : dstsOk 35 R80_0 = true := by decide +kernel
theorem R80_1_N : dstsOk 35 R80_1 = true := by decide +kernel
theorem R80_2_N : dstsOk 35 R80_2 = true := by decide +kernel
theorem R80_3_N : dstsOk 35 R80_3 = true := by decide +kernel
theorem R80_3_O : linOk R80_3 [0, 1, 2, 3, 4, 5, 8] [(6, [0, 1, 2, 3, 8], [7, 9, 10, 11, 12, 13])] = true := by decide +kernel
def S80_0 (Q : (Int × Int) → AW → Prop) (E : List PanicEntry → AW → Prop)  (h_0 : Value) (w_1 : Int) (i_2 : Int) (aw : AW) : Prop :=
  cnd (decide (i_2 < 0)) (Q (0, 1) aw) (CallP prog 39 [h_0, .int .u64 w_1] aw sh39 (fun r3 aw4 =>
  cnd (decide (r3 ≤ i_2)) (Q (0, 1) aw4) (CallP prog 38 [h_0, .int .u64 w_1] aw4 sh38 (fun r7 aw8 =>
  cnd (decide (r7 = 3)) (Q (0, 1) aw8) (nck h_0 (fldA h_0 0 fun p11 =>
  ldV aw8 p11 fun x19 =>
  CallP prog 41 [h_0, .int .u64 w_1] aw8 sh41 (fun r21 aw22 =>
  again1 aw22 p11 (x19) ∧ ixS x19 (IntKind.i64.wrap ((IntKind.i64.wrap (r21 + 1)) + i_2)) 1 fun p23 =>
  ldI .u64 aw22 p23 fun x35 =>
  Q (x35, 0) aw22) E))) E)) E)
theorem S80_0_ok (Q : (Int × Int) → AW → Prop) (E : List PanicEntry → AW → Prop)  (ρ : Env) (h_0 : Value) (w_1 : Int) (i_2 : Int) (aw : AW) (h0 : ρ 0 = h_0) (h1 : ρ 1 = .int .u64 w_1) (h2 : ρ 2 = .int .i64 i_2) (H : S80_0 Q E  h_0 w_1 i_2 aw) :
    AGo prog 35 [.code C80_0] ρ [] aw (RR prog f80 35 sh80 Q E) := by
  unfold S80_0 at H
  refine ago_seqE (rfl : C80_0 = .seq C80_1 C80_2) ?_
  refine ago_regE (rfl : C80_1 = .region 0 R80_0 false) (l := [0, 1]) rfl ?_
  refine lj 6 R80_0_N rfl rfl rfl (opv_assign rfl rfl rfl) ?_
  refine lj 7 R80_0_N rfl rfl rfl (opv_assign rfl rfl rfl) ?_
  refine aops_nil ?_
  refine ago_seqE (rfl : C80_2 = .seq C80_3 C80_10) ?_
  refine ago_seqE (rfl : C80_3 = .seq C80_4 C80_5) ?_
  refine ago_regE (rfl : C80_4 = .region 1 R80_1 false) (l := [0, 1, 2, 3, 4, 5, 6, 7, 8, 9, 10, 11, 12, 13, 14]) rfl ?_
  refine lj 8 R80_1_N rfl rfl rfl (opv_move rfl rfl h2) ?_
  refine lj 9 R80_1_N rfl rfl rfl (opv_lt rfl rfl rfl rfl rfl) ?_
  refine lj 10 R80_1_N rfl rfl rfl (opv_move rfl rfl rfl) ?_
  rcases Bool.eq_false_or_eq_true (decide (i_2 < 0)) with hb1 | hb1
  · replace H := cnd_t H hb1
    refine ls 11 R80_1_N rfl rfl ⟨_, rfl, .inl ⟨_, rfl, gq hb1 rfl⟩⟩ ?_
    refine ls 12 R80_1_N rfl rfl ⟨_, rfl, .inl ⟨_, rfl, gq hb1 rfl⟩⟩ ?_
    refine ls 13 R80_1_N rfl rfl ⟨_, rfl, .inl ⟨_, rfl, gq hb1 rfl⟩⟩ ?_
    refine ls 14 R80_1_N rfl rfl ⟨_, rfl, .inl ⟨_, rfl, gq hb1 rfl⟩⟩ ?_
    refine ls 15 R80_1_N rfl rfl ⟨_, rfl, .inl ⟨_, rfl, gq hb1 rfl⟩⟩ ?_
    refine lj 16 R80_1_N rfl rfl rfl (ov_pickT rfl rfl rfl rfl rfl hb1 rfl) ?_
    refine lj 17 R80_1_N rfl rfl rfl (opv_move rfl rfl rfl) ?_
    refine ls 18 R80_1_N rfl rfl ⟨_, rfl, .inl ⟨_, rfl, gq rfl rfl⟩⟩ ?_
    refine ls 19 R80_1_N rfl rfl ⟨_, rfl, .inl ⟨_, rfl, gq rfl rfl⟩⟩ ?_
    refine ls 20 R80_1_N rfl rfl ⟨_, rfl, .inl ⟨_, rfl, gq rfl rfl⟩⟩ ?_
    refine ls 21 R80_1_N rfl rfl ⟨_, rfl, .inl ⟨_, rfl, gq rfl rfl⟩⟩ ?_
    refine lj 22 R80_1_N rfl rfl rfl (ov_pickT rfl rfl rfl rfl rfl rfl rfl) ?_
    refine aops_nil ?_
    refine ago_condE  (rfl : C80_5 = .cond (.tmp 22) C80_6 C80_9) rfl rfl (fun h => ?_) (fun h => tf h)
    refine ago_seqE (rfl : C80_6 = .seq C80_7 C80_8) ?_
    refine ago_regE (rfl : C80_7 = .region 2 R80_2 false) (l := [0, 1]) rfl ?_
    refine lj 6 R80_2_N rfl rfl rfl (opv_assign rfl rfl rfl) ?_
    refine lj 7 R80_2_N rfl rfl rfl (opv_assign rfl rfl rfl) ?_
    refine aops_nil ?_
    exact ago_retE (rfl : C80_8 = .ret) (r := (0, 1)) (ares_2 rfl (oneT rfl) (oneT rfl)) rfl H
  · replace H := cnd_f H hb1
    refine lj 11 R80_1_N rfl rfl ⟨_, rfl, .inl ⟨_, rfl, gq hb1 rfl⟩⟩ (opv_move rfl rfl h2) ?_
    refine lj 12 R80_1_N rfl rfl ⟨_, rfl, .inl ⟨_, rfl, gq hb1 rfl⟩⟩ (opv_move rfl rfl h0) ?_
    refine lj 13 R80_1_N rfl rfl ⟨_, rfl, .inl ⟨_, rfl, gq hb1 rfl⟩⟩ (opv_move rfl rfl h1) ?_
    refine lc 14 R80_1_N rfl rfl ⟨_, rfl, .inl ⟨_, rfl, gq hb1 rfl⟩⟩ (opc_of rfl rfl is39 (ma_cons rfl (ma_cons rfl rfl))) H (fun _ _ h => ⟨rfl, h⟩) fun r3 aw4 H => ?_
    refine lj 15 R80_1_N rfl rfl ⟨_, rfl, .inl ⟨_, rfl, gq hb1 rfl⟩⟩ (opv_ge rfl rfl rfl rfl rfl) ?_
    refine lj 16 R80_1_N rfl rfl rfl (ov_pickF rfl rfl rfl rfl rfl hb1 rfl) ?_
    refine lj 17 R80_1_N rfl rfl rfl (opv_move rfl rfl rfl) ?_
    rcases Bool.eq_false_or_eq_true (decide (r3 ≤ i_2)) with hb5 | hb5
    · replace H := cnd_t H hb5
      refine ls 18 R80_1_N rfl rfl ⟨_, rfl, .inl ⟨_, rfl, gq hb5 rfl⟩⟩ ?_
      refine ls 19 R80_1_N rfl rfl ⟨_, rfl, .inl ⟨_, rfl, gq hb5 rfl⟩⟩ ?_
      refine ls 20 R80_1_N rfl rfl ⟨_, rfl, .inl ⟨_, rfl, gq hb5 rfl⟩⟩ ?_
      refine ls 21 R80_1_N rfl rfl ⟨_, rfl, .inl ⟨_, rfl, gq hb5 rfl⟩⟩ ?_
      refine lj 22 R80_1_N rfl rfl rfl (ov_pickT rfl rfl rfl rfl rfl hb5 rfl) ?_
      refine aops_nil ?_
      refine ago_condE  (rfl : C80_5 = .cond (.tmp 22) C80_6 C80_9) rfl rfl (fun h => ?_) (fun h => tf h)
      refine ago_seqE (rfl : C80_6 = .seq C80_7 C80_8) ?_
      refine ago_regE (rfl : C80_7 = .region 2 R80_2 false) (l := [0, 1]) rfl ?_
      refine lj 6 R80_2_N rfl rfl rfl (opv_assign rfl rfl rfl) ?_
      refine lj 7 R80_2_N rfl rfl rfl (opv_assign rfl rfl rfl) ?_
      refine aops_nil ?_
      exact ago_retE (rfl : C80_8 = .ret) (r := (0, 1)) (ares_2 rfl (oneT rfl) (oneT rfl)) rfl H
    · replace H := cnd_f H hb5
      refine lj 18 R80_1_N rfl rfl ⟨_, rfl, .inl ⟨_, rfl, gq hb5 rfl⟩⟩ (opv_move rfl rfl h0) ?_
      refine lj 19 R80_1_N rfl rfl ⟨_, rfl, .inl ⟨_, rfl, gq hb5 rfl⟩⟩ (opv_move rfl rfl h1) ?_
      refine lc 20 R80_1_N rfl rfl ⟨_, rfl, .inl ⟨_, rfl, gq hb5 rfl⟩⟩ (opc_of rfl rfl is38 (ma_cons rfl (ma_cons rfl rfl))) H (fun _ _ h => ⟨rfl, h⟩) fun r7 aw8 H => ?_
      refine lj 21 R80_1_N rfl rfl ⟨_, rfl, .inl ⟨_, rfl, gq hb5 rfl⟩⟩ (opv_eqI rfl rfl rfl rfl rfl) ?_
      refine lj 22 R80_1_N rfl rfl rfl (ov_pickF rfl rfl rfl rfl rfl hb5 rfl) ?_
      refine aops_nil ?_
      refine ago_condE  (rfl : C80_5 = .cond (.tmp 22) C80_6 C80_9) rfl rfl (fun hb9 => ?_) (fun hb9 => ?_)
      · replace H := cnd_t H hb9
        refine ago_seqE (rfl : C80_6 = .seq C80_7 C80_8) ?_
        refine ago_regE (rfl : C80_7 = .region 2 R80_2 false) (l := [0, 1]) rfl ?_
        refine lj 6 R80_2_N rfl rfl rfl (opv_assign rfl rfl rfl) ?_
        refine lj 7 R80_2_N rfl rfl rfl (opv_assign rfl rfl rfl) ?_
        refine aops_nil ?_
        exact ago_retE (rfl : C80_8 = .ret) (r := (0, 1)) (ares_2 rfl (oneT rfl) (oneT rfl)) rfl H
      replace H := cnd_f H hb9
      refine ago_skipE (rfl : C80_9 = .skip) ?_
      refine ago_seqE (rfl : C80_10 = .seq C80_11 C80_12) ?_
      refine ago_cut (fun ρ => ρ 0 = h_0 ∧ ρ 1 = .int .u64 w_1 ∧ ρ 2 = .int .i64 i_2 ∧ True) ⟨h0, h1, h2, trivial⟩ (fun ρ ⟨h0, h1, h2, _⟩ => ?_)
      obtain ⟨hp10, H⟩ := H
      obtain ⟨b12, i13, p11, hp14, hv15, H⟩ := H
      obtain ⟨b16, i17, x19, hp18, hg20, H⟩ := H
      refine ago_drawH (p := [0, 1, 2, 3, 4, 5, 8]) (tl := [(6, [0, 1, 2, 3, 8], [7, 9, 10, 11, 12, 13])]) (hv := [(0, h_0), (1, h_0), (2, p11), (3, x19), (4, h_0), (5, Value.int .u64 w_1), (8, Value.int .i64 i_2)]) (rfl : C80_11 = .region 3 R80_3 true) mixed R80_3_N R80_3_O rfl (pv_cons rfl (pv_cons rfl (pv_cons rfl (pv_cons rfl (pv_cons rfl (pv_cons rfl (pv_cons rfl (pv_nil _))))))))
        (fc 23 h_0 (hd_v rfl fun ρ hρ => ⟨rfl, opv_move rfl rfl ((hρ 0 (lmem rfl)).trans h0)⟩) rfl rfl
        (fc 24 h_0 (hd_v rfl fun ρ hρ => ⟨rfl, ov_nck rfl rfl ((hρ 23 (lmem rfl)).trans rfl) hp10⟩) rfl rfl
        (fc 25 p11 (hd_v rfl fun ρ hρ => ⟨rfl, ov_fldA rfl rfl underlying100 rfl sz62 (by decide) ((hρ 24 (lmem rfl)).trans rfl) hp14 rfl hv15⟩) rfl rfl
        (fc 26 x19 (hd_v rfl fun ρ hρ => ⟨rfl, ov_ldV rfl underlying62 rfl rfl ((hρ 25 (lmem rfl)).trans rfl) hp18 hg20⟩) rfl rfl
        (fc 27 h_0 (hd_v rfl fun ρ hρ => ⟨rfl, opv_move rfl rfl ((hρ 0 (lmem rfl)).trans h0)⟩) rfl rfl
        (fc 28 (.int .u64 w_1) (hd_v rfl fun ρ hρ => ⟨rfl, opv_move rfl rfl ((hρ 1 (lmem rfl)).trans h1)⟩) rfl rfl
        (fc 31 (.int .i64 i_2) (hd_v rfl fun ρ hρ => ⟨rfl, opv_move rfl rfl ((hρ 2 (lmem rfl)).trans h2)⟩) rfl rfl
        ffn))))))) ?_
      refine lt_call (dt := some 29) rfl rfl (fun ρ hρ => ⟨rfl, opc_of rfl rfl is41 (ma_cons ((hρ 27 (lmem rfl)).trans rfl) (ma_cons ((hρ 28 (lmem rfl)).trans rfl) rfl))⟩) H (fun _ _ h _ => ⟨rfl, h⟩) fun r21 aw22 H => ?_
      obtain ⟨hg20, H⟩ := H
      replace hg20 := hg20 _ _ hp18
      obtain ⟨b24, i25, l26, c27, p23, hp28, h029, hj30, hv31, H⟩ := H
      obtain ⟨b32, i33, x35, hp34, hg36, H⟩ := H
      refine lt_next (l := [0, 1, 2, 3, 8, 7, 9, 10, 11, 12, 13]) (hv := [(7, Value.int .i64 (IntKind.i64.wrap (r21 + 1))), (9, Value.int .i64 (IntKind.i64.wrap ((IntKind.i64.wrap (r21 + 1)) + i_2))), (10, p23), (11, Value.int .u64 x35), (12, Value.int .u64 x35), (13, Value.int .i64 0)]) rfl rfl (pv_cons rfl (pv_cons rfl (pv_cons rfl (pv_cons rfl (pv_cons rfl (pv_cons rfl (pv_nil _)))))))
        (fc 23 h_0 (hd_v rfl fun ρ hρ => ⟨rfl, opv_move rfl rfl ((hρ 0 (lmem rfl)).trans h0)⟩) rfl rfl
        (fc 24 h_0 (hd_v rfl fun ρ hρ => ⟨rfl, ov_nck rfl rfl ((hρ 23 (lmem rfl)).trans rfl) hp10⟩) rfl rfl
        (fc 25 p11 (hd_v rfl fun ρ hρ => ⟨rfl, ov_fldA rfl rfl underlying100 rfl sz62 (by decide) ((hρ 24 (lmem rfl)).trans rfl) hp14 rfl hv15⟩) rfl rfl
        (fc 26 x19 (hd_v rfl fun ρ hρ => ⟨rfl, ov_ldV rfl underlying62 rfl rfl ((hρ 25 (lmem rfl)).trans rfl) hp18 hg20⟩) rfl rfl
        (fc 31 (.int .i64 i_2) (hd_v rfl fun ρ hρ => ⟨rfl, opv_move rfl rfl ((hρ 2 (lmem rfl)).trans h2)⟩) rfl rfl
        (fc 30 (.int .i64 (IntKind.i64.wrap (r21 + 1))) (hd_v rfl fun ρ hρ => ⟨rfl, opv_add rfl rfl rfl ((hρ 29 (lmem rfl)).trans rfl) rfl⟩) rfl rfl
        (fc 32 (.int .i64 (IntKind.i64.wrap ((IntKind.i64.wrap (r21 + 1)) + i_2))) (hd_v rfl fun ρ hρ => ⟨rfl, opv_add rfl rfl rfl ((hρ 30 (lmem rfl)).trans rfl) ((hρ 31 (lmem rfl)).trans rfl)⟩) rfl rfl
        (fc 33 p23 (hd_v rfl fun ρ hρ => ⟨rfl, ov_ixS rfl rfl rfl underlying62 sz26 ((hρ 26 (lmem rfl)).trans rfl) ((hρ 32 (lmem rfl)).trans rfl) hp28 h029 hj30 hv31⟩) rfl rfl
        (fc 34 (.int .u64 x35) (hd_v rfl fun ρ hρ => ⟨rfl, ov_ldI rfl underlying26 rfl ((hρ 33 (lmem rfl)).trans rfl) hp34 hg36⟩) rfl rfl
        (fc 6 (.int .u64 x35) (hd_v rfl fun ρ hρ => ⟨rfl, opv_assign rfl rfl ((hρ 34 (lmem rfl)).trans rfl)⟩) rfl rfl
        (fc 7 (.int .i64 0) (hd_v rfl fun ρ hρ => ⟨rfl, opv_assign rfl rfl rfl⟩) rfl rfl
        ffn))))))))))) ?_
      refine lt_end ?_
      exact ago_retE (rfl : C80_12 = .ret) (r := (x35, 0)) (ares_2 rfl (oneT rfl) (oneT rfl)) rfl H
theorem F80_ok {Q : (Int × Int) → AW → Prop} {E : List PanicEntry → AW → Prop} (h_0 : Value) (w_1 : Int) (i_2 : Int) (aw : AW) (H : S80_0 Q E h_0 w_1 i_2 aw) : CallP prog 80 [h_0, .int .u64 w_1, .int .i64 i_2] aw sh80 Q E :=
  callP_of func80 C80_is rfl (Nat.le_of_ble_eq_true rfl) (S80_0_ok Q E _ h_0 w_1 i_2 aw rfl rfl rfl H)
def C79_0 := bodyOf f79
theorem C79_is : f79.body = some C79_0 := by kernel_rfl
def C79_1 := cl C79_0
def R79_0 := regOps C79_1
def C79_2 := cr C79_0
def C79_3 := cl C79_2
def C79_4 := cl C79_3
def R79_1 := regOps C79_4
def C79_5 := cr C79_3
def C79_6 := cl C79_5
def C79_7 := cl C79_6
def R79_2 := regOps C79_7
def C79_8 := cr C79_6
def C79_9 := cr C79_5
def C79_10 := cr C79_2
def C79_11 := cl C79_10
def R79_3 := regOps C79_11
def C79_12 := cr C79_10
theorem R79_0_N : dstsOk 9 R79_0 = true := by decide +kernel
theorem R79_1_N : dstsOk 9 R79_1 = true := by decide +kernel
theorem R79_2_N : dstsOk 9 R79_2 = true := by decide +kernel
theorem R79_3_N : dstsOk 9 R79_3 = true := by decide +kernel
def S79_0 (Q : Int → AW → Prop) (E : List PanicEntry → AW → Prop)  (h_0 : Value) (aw : AW) : Prop :=
  nilB (.pointer 100) h_0 (.pointer none) fun q1 =>
  cnd q1 (Q 0 aw) (nck h_0 (fldA h_0 1 fun p6 =>
  ldI .i64 aw p6 fun x14 =>
  Q x14 aw))
theorem S79_0_ok (Q : Int → AW → Prop) (E : List PanicEntry → AW → Prop)  (ρ : Env) (h_0 : Value) (aw : AW) (h0 : ρ 0 = h_0) (H : S79_0 Q E  h_0 aw) :
    AGo prog 9 [.code C79_0] ρ [] aw (RR prog f79 9 sh79 Q E) := by
  unfold S79_0 at H
  refine ago_seqE (rfl : C79_0 = .seq C79_1 C79_2) ?_
  refine ago_regE (rfl : C79_1 = .region 0 R79_0 false) (l := [0]) rfl ?_
  refine lj 2 R79_0_N rfl rfl rfl (opv_assign rfl rfl rfl) ?_
  refine aops_nil ?_
  refine ago_seqE (rfl : C79_2 = .seq C79_3 C79_10) ?_
  refine ago_seqE (rfl : C79_3 = .seq C79_4 C79_5) ?_
  refine ago_regE (rfl : C79_4 = .region 1 R79_1 false) (l := [0, 1]) rfl ?_
  refine lj 3 R79_1_N rfl rfl rfl (opv_move rfl rfl h0) ?_
  obtain ⟨q1, hf2, hq3, H⟩ := H
  refine lj 4 R79_1_N rfl rfl rfl (ov_eqNil rfl rfl underlying50 rfl hf2 hq3) ?_
  refine aops_nil ?_
  refine ago_condE  (rfl : C79_5 = .cond (.tmp 4) C79_6 C79_9) rfl rfl (fun hb4 => ?_) (fun hb4 => ?_)
  · replace H := cnd_t H hb4
    refine ago_seqE (rfl : C79_6 = .seq C79_7 C79_8) ?_
    refine ago_regE (rfl : C79_7 = .region 2 R79_2 false) (l := [0]) rfl ?_
    refine lj 2 R79_2_N rfl rfl rfl (opv_assign rfl rfl rfl) ?_
    refine aops_nil ?_
    exact ago_retE (rfl : C79_8 = .ret) (r := 0) (ares_1 rfl (oneT rfl)) rfl H
  replace H := cnd_f H hb4
  refine ago_skipE (rfl : C79_9 = .skip) ?_
  refine ago_seqE (rfl : C79_10 = .seq C79_11 C79_12) ?_
  refine ago_regE (rfl : C79_11 = .region 3 R79_3 false) (l := [0, 1, 2, 3, 4]) rfl ?_
  refine lj 5 R79_3_N rfl rfl rfl (opv_move rfl rfl h0) ?_
  obtain ⟨hp5, H⟩ := H
  refine lj 6 R79_3_N rfl rfl rfl (ov_nck rfl rfl rfl hp5) ?_
  obtain ⟨b7, i8, p6, hp9, hv10, H⟩ := H
  refine lj 7 R79_3_N rfl rfl rfl (ov_fldA rfl rfl underlying100 rfl sz3 (by decide) rfl hp9 rfl hv10) ?_
  obtain ⟨b11, i12, x14, hp13, hg15, H⟩ := H
  refine lj 8 R79_3_N rfl rfl rfl (ov_ldI rfl underlying3 rfl rfl hp13 hg15) ?_
  refine lj 2 R79_3_N rfl rfl rfl (opv_assign rfl rfl rfl) ?_
  refine aops_nil ?_
  exact ago_retE (rfl : C79_12 = .ret) (r := x14) (ares_1 rfl (oneT rfl)) rfl H
theorem F79_ok {Q : Int → AW → Prop} {E : List PanicEntry → AW → Prop} (h_0 : Value) (aw : AW) (H : S79_0 Q E h_0 aw) : CallP prog 79 [h_0] aw sh79 Q E :=
  callP_of func79 C79_is rfl (Nat.le_of_ble_eq_true rfl) (S79_0_ok Q E _ h_0 aw rfl H)
def C49_0 := bodyOf f49
theorem C49_is : f49.body = some C49_0 := by kernel_rfl
def C49_1 := cl C49_0
def R49_0 := regOps C49_1
def C49_2 := cr C49_0
def C49_3 := cl C49_2
def R49_1 := regOps C49_3
def C49_4 := cr C49_2
theorem R49_0_N : dstsOk 6 R49_0 = true := by decide +kernel
theorem R49_1_N : dstsOk 6 R49_1 = true := by decide +kernel
def S49_0 (Q : Bool → AW → Prop) (E : List PanicEntry → AW → Prop)  (w_0 : Int) (aw : AW) : Prop :=
  Q (decide ((bitsOf .and .u64 w_0 1) = 1)) aw
theorem S49_0_ok (Q : Bool → AW → Prop) (E : List PanicEntry → AW → Prop)  (ρ : Env) (w_0 : Int) (aw : AW) (h0 : ρ 0 = .int .u64 w_0) (H : S49_0 Q E  w_0 aw) :
    AGo prog 6 [.code C49_0] ρ [] aw (RR prog f49 6 sh49 Q E) := by
  unfold S49_0 at H
  refine ago_seqE (rfl : C49_0 = .seq C49_1 C49_2) ?_
  refine ago_regE (rfl : C49_1 = .region 0 R49_0 false) (l := [0]) rfl ?_
  refine lj 2 R49_0_N rfl rfl rfl (opv_assign rfl rfl rfl) ?_
  refine aops_nil ?_
  refine ago_seqE (rfl : C49_2 = .seq C49_3 C49_4) ?_
  refine ago_regE (rfl : C49_3 = .region 1 R49_1 false) (l := [0, 1, 2, 3]) rfl ?_
  refine lj 3 R49_1_N rfl rfl rfl (opv_move rfl rfl h0) ?_
  refine lj 4 R49_1_N rfl rfl rfl (opv_and rfl rfl rfl rfl rfl) ?_
  refine lj 5 R49_1_N rfl rfl rfl (opv_eqI rfl rfl rfl rfl rfl) ?_
  refine lj 2 R49_1_N rfl rfl rfl (opv_assign rfl rfl rfl) ?_
  refine aops_nil ?_
  exact ago_retE (rfl : C49_4 = .ret) (r := (decide ((bitsOf .and .u64 w_0 1) = 1))) (ares_1 rfl (oneT rfl)) rfl H
theorem F49_ok {Q : Bool → AW → Prop} {E : List PanicEntry → AW → Prop} (w_0 : Int) (aw : AW) (H : S49_0 Q E w_0 aw) : CallP prog 49 [.int .u64 w_0] aw sh49 Q E :=
  callP_of func49 C49_is rfl (Nat.le_of_ble_eq_true rfl) (S49_0_ok Q E _ w_0 aw rfl H)
def C73_0 := bodyOf f73
theorem C73_is : f73.body = some C73_0 := by kernel_rfl
def C73_1 := cl C73_0
def R73_0 := regOps C73_1
def C73_2 := cr C73_0
def C73_3 := cl C73_2
def R73_1 := regOps C73_3
def C73_4 := cr C73_2
theorem R73_0_N : dstsOk 6 R73_0 = true := by decide +kernel
theorem R73_1_N : dstsOk 6 R73_1 = true := by decide +kernel
def S73_0 (Q : Int → AW → Prop) (E : List PanicEntry → AW → Prop)  (w_0 : Int) (aw : AW) : Prop :=
  Q (Int.fdiv (IntKind.i64.wrap w_0) (2 ^ (min (1 : Int).toNat IntKind.i64.bits))) aw
theorem S73_0_ok (Q : Int → AW → Prop) (E : List PanicEntry → AW → Prop)  (ρ : Env) (w_0 : Int) (aw : AW) (h0 : ρ 0 = .int .u64 w_0) (H : S73_0 Q E  w_0 aw) :
    AGo prog 6 [.code C73_0] ρ [] aw (RR prog f73 6 sh73 Q E) := by
  unfold S73_0 at H
  refine ago_seqE (rfl : C73_0 = .seq C73_1 C73_2) ?_
  refine ago_regE (rfl : C73_1 = .region 0 R73_0 false) (l := [0]) rfl ?_
  refine lj 2 R73_0_N rfl rfl rfl (opv_assign rfl rfl rfl) ?_
  refine aops_nil ?_
  refine ago_seqE (rfl : C73_2 = .seq C73_3 C73_4) ?_
  refine ago_regE (rfl : C73_3 = .region 1 R73_1 false) (l := [0, 1, 2, 3]) rfl ?_
  refine lj 3 R73_1_N rfl rfl rfl (opv_move rfl rfl h0) ?_
  refine lj 4 R73_1_N rfl rfl rfl (opv_conv rfl rfl underlying26 underlying2 rfl) ?_
  refine lj 5 R73_1_N rfl rfl rfl (opv_shr rfl rfl rfl rfl rfl (by decide)) ?_
  refine lj 2 R73_1_N rfl rfl rfl (opv_assign rfl rfl rfl) ?_
  refine aops_nil ?_
  exact ago_retE (rfl : C73_4 = .ret) (r := (Int.fdiv (IntKind.i64.wrap w_0) (2 ^ (min (1 : Int).toNat IntKind.i64.bits)))) (ares_1 rfl (oneT rfl)) rfl H
theorem F73_ok {Q : Int → AW → Prop} {E : List PanicEntry → AW → Prop} (w_0 : Int) (aw : AW) (H : S73_0 Q E w_0 aw) : CallP prog 73 [.int .u64 w_0] aw sh73 Q E :=
  callP_of func73 C73_is rfl (Nat.le_of_ble_eq_true rfl) (S73_0_ok Q E _ w_0 aw rfl H)
end
end Go.Proofs.Tryd
