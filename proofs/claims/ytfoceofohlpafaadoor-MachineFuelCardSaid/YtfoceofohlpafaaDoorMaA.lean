/- Printed by a program of the prover: what the Go functions of this seat do, in steps. -/
import Derived.Test.YtfoceofohlpafaaDoorMaF
set_option linter.unusedSectionVars false
set_option linter.unusedSimpArgs false
set_option linter.unusedVariables false
namespace Go.Proofs.Tryd
open Go Go.Am Go.RowKit
set_option maxHeartbeats 4000000
set_option maxRecDepth 100000
noncomputable section
variable [SymE]
def C28_0 : Code := bodyOf f28
theorem C28_is : f28.body = some C28_0 := by kernel_rfl
def C28_1 : Code := cl C28_0
def R28_0 : Array Oper := regOps C28_1
def C28_2 : Code := cr C28_0
def C28_3 : Code := cl C28_2
def C28_4 : Code := cl C28_3
def R28_1 : Array Oper := regOps C28_4
def C28_5 : Code := cr C28_3
def C28_6 : Code := cl C28_5
def C28_7 : Code := cl C28_6
def R28_2 : Array Oper := regOps C28_7
def C28_8 : Code := cr C28_6
def C28_9 : Code := cr C28_5
def C28_10 : Code := cr C28_2
def C28_11 : Code := cl C28_10
def R28_3 : Array Oper := regOps C28_11
def C28_12 : Code := cr C28_10
theorem R28_0_N : dstsOk 13 R28_0 = true := by decide +kernel
theorem E28_1 : C28_1 = .region 0 R28_0 false := rfl
theorem R28_1_N : dstsOk 13 R28_1 = true := by decide +kernel
theorem E28_4 : C28_4 = .region 1 R28_1 false := rfl
theorem R28_2_N : dstsOk 13 R28_2 = true := by decide +kernel
theorem E28_7 : C28_7 = .region 2 R28_2 false := rfl
theorem E28_8 : C28_8 = .ret := rfl
theorem E28_6 : C28_6 = .seq C28_7 C28_8 := rfl
theorem E28_9 : C28_9 = .skip := rfl
theorem E28_5 : C28_5 = .cond (.tmp 9) C28_6 C28_9 := rfl
theorem E28_3 : C28_3 = .seq C28_4 C28_5 := rfl
theorem R28_3_N : dstsOk 13 R28_3 = true := by decide +kernel
theorem E28_11 : C28_11 = .region 3 R28_3 false := rfl
theorem E28_12 : C28_12 = .ret := rfl
theorem E28_10 : C28_10 = .seq C28_11 C28_12 := rfl
theorem E28_2 : C28_2 = .seq C28_3 C28_10 := rfl
theorem E28_0 : C28_0 = .seq C28_1 C28_2 := rfl
def S28_0 (Q : (Value × Int) → AW → Prop) (E : List PanicEntry → AW → Prop)  (quota_0 : Int) (aw : AW) : Prop :=
  cnd (decide (quota_0 < 1)) (Q ((.pointer none), 1) aw) (cnd (decide (1048576 < quota_0)) (Q ((.pointer none), 1) aw) (alc aw [(.slice none 0 0), .int .i64 quota_0, .int .i64 0] 100 0 fun p4 aw5 =>
  Q (p4, 0) aw5))
theorem S28_0_ok (Q : (Value × Int) → AW → Prop) (E : List PanicEntry → AW → Prop)  (ρ : Env) (quota_0 : Int) (aw : AW) (h0 : ρ 0 = .int .i64 quota_0) (H : S28_0 Q E  quota_0 aw) :
    AGo prog 13 [.code C28_0] ρ [] aw (RR prog f28 13 sh28 Q E) := by
  unfold S28_0 at H
  refine ago_seqE E28_0 ?_
  refine ago_regE E28_1 (l := [0, 1]) rfl ?_
  refine lk (dt := some 2) R28_0_N rfl rfl rfl (opv_assign rfl rfl rfl) ?_
  refine lk (dt := some 3) R28_0_N rfl rfl rfl (opv_assign rfl rfl rfl) ?_
  refine aops_nil ?_
  refine ago_seqE E28_2 ?_
  refine ago_seqE E28_3 ?_
  refine ago_regE E28_4 (l := [0, 1, 2, 3, 4, 5]) rfl ?_
  refine lk (dt := some 4) R28_1_N rfl rfl rfl (opv_move rfl rfl h0) ?_
  refine lk (dt := some 5) R28_1_N rfl rfl rfl (opv_lt rfl rfl rfl rfl rfl) ?_
  refine lk (dt := some 6) R28_1_N rfl rfl rfl (opv_move rfl rfl rfl) ?_
  rcases Bool.eq_false_or_eq_true (decide (quota_0 < 1)) with hb1 | hb1
  · replace H := cnd_t H hb1
    refine lk_skip (dt := some 7) R28_1_N rfl rfl ⟨_, rfl, .inl ⟨_, rfl, gq hb1 rfl⟩⟩ ?_
    refine lk_skip (dt := some 8) R28_1_N rfl rfl ⟨_, rfl, .inl ⟨_, rfl, gq hb1 rfl⟩⟩ ?_
    refine lk (dt := some 9) R28_1_N rfl rfl rfl (ov_pickT rfl rfl rfl rfl rfl hb1 rfl) ?_
    refine aops_nil ?_
    refine ago_condE  E28_5 rfl rfl (fun h => ?_) (fun h => tf h)
    refine ago_seqE E28_6 ?_
    refine ago_regE E28_7 (l := [0, 1]) rfl ?_
    refine lk (dt := some 2) R28_2_N rfl rfl rfl (opv_assign rfl rfl rfl) ?_
    refine lk (dt := some 3) R28_2_N rfl rfl rfl (opv_assign rfl rfl rfl) ?_
    refine aops_nil ?_
    exact ago_retE E28_8 (r := ((.pointer none), 1)) (ares_2 rfl (oneT rfl) (oneT rfl)) rfl H
  · replace H := cnd_f H hb1
    refine lk (dt := some 7) R28_1_N rfl rfl ⟨_, rfl, .inl ⟨_, rfl, gq hb1 rfl⟩⟩ (opv_move rfl rfl h0) ?_
    refine lk (dt := some 8) R28_1_N rfl rfl ⟨_, rfl, .inl ⟨_, rfl, gq hb1 rfl⟩⟩ (opv_gt rfl rfl rfl rfl rfl) ?_
    refine lk (dt := some 9) R28_1_N rfl rfl rfl (ov_pickF rfl rfl rfl rfl rfl hb1 rfl) ?_
    refine aops_nil ?_
    refine ago_condE  E28_5 rfl rfl (fun hb3 => ?_) (fun hb3 => ?_)
    · replace H := cnd_t H hb3
      refine ago_seqE E28_6 ?_
      refine ago_regE E28_7 (l := [0, 1]) rfl ?_
      refine lk (dt := some 2) R28_2_N rfl rfl rfl (opv_assign rfl rfl rfl) ?_
      refine lk (dt := some 3) R28_2_N rfl rfl rfl (opv_assign rfl rfl rfl) ?_
      refine aops_nil ?_
      exact ago_retE E28_8 (r := ((.pointer none), 1)) (ares_2 rfl (oneT rfl) (oneT rfl)) rfl H
    · replace H := cnd_f H hb3
      refine ago_skipE E28_9 ?_
      refine ago_seqE E28_10 ?_
      refine ago_regE E28_11 (l := [0, 1, 2, 3, 4]) rfl ?_
      refine lk (dt := some 10) R28_3_N rfl rfl rfl (opv_move rfl rfl h0) ?_
      refine lk (dt := some 11) R28_3_N rfl rfl rfl (ov_bld (r := [(.slice none 0 0), .int .i64 quota_0, .int .i64 0]) rfl rfl bo100 (mp_cons rfl rfl) (fillP rfl rfl rfl rfl (fillN rfl))) ?_
      obtain ⟨p4, aw5, hp6, ha7, H⟩ := H
      refine lk (dt := some 12) R28_3_N rfl rfl rfl (ov_box rfl rfl rfl rfl hp6 ha7) ?_
      refine lk (dt := some 2) R28_3_N rfl rfl rfl (opv_assign rfl rfl rfl) ?_
      refine lk (dt := some 3) R28_3_N rfl rfl rfl (opv_assign rfl rfl rfl) ?_
      refine aops_nil ?_
      exact ago_retE E28_12 (r := (p4, 0)) (ares_2 rfl (oneT rfl) (oneT rfl)) rfl H
theorem F28_ok {Q : (Value × Int) → AW → Prop} {E : List PanicEntry → AW → Prop} (quota_0 : Int) (aw : AW) (H : S28_0 Q E quota_0 aw) : CallP prog 28 [.int .i64 quota_0] aw sh28 Q E :=
  callP_of func28 C28_is rfl (Nat.le_of_ble_eq_true rfl) (S28_0_ok Q E _ quota_0 aw rfl H)
def C30_0 : Code := bodyOf f30
theorem C30_is : f30.body = some C30_0 := by kernel_rfl
def C30_1 : Code := cl C30_0
def R30_0 : Array Oper := regOps C30_1
def C30_2 : Code := cr C30_0
def C30_3 : Code := cl C30_2
def C30_4 : Code := cl C30_3
def R30_1 : Array Oper := regOps C30_4
def C30_5 : Code := cr C30_3
def C30_6 : Code := cl C30_5
def C30_7 : Code := cl C30_6
def R30_2 : Array Oper := regOps C30_7
def C30_8 : Code := cr C30_6
def C30_9 : Code := cr C30_5
def C30_10 : Code := cr C30_2
def C30_11 : Code := cl C30_10
def R30_3 : Array Oper := regOps C30_11
def C30_12 : Code := cr C30_10
def C30_13 : Code := cl C30_12
def C30_14 : Code := cl C30_13
def R30_4 : Array Oper := regOps C30_14
def C30_15 : Code := cr C30_13
def C30_16 : Code := cl C30_15
def C30_17 : Code := cl C30_16
def C30_18 : Code := cl C30_17
def R30_5 : Array Oper := regOps C30_18
def C30_19 : Code := cr C30_17
def C30_20 : Code := cl C30_19
def C30_21 : Code := cl C30_20
def C30_22 : Code := cr C30_20
def C30_23 : Code := cr C30_19
def C30_24 : Code := cl C30_23
def C30_25 : Code := cl C30_24
def C30_26 : Code := cl C30_25
def R30_6 : Array Oper := regOps C30_26
def C30_27 : Code := cr C30_25
def R30_7 : Array Oper := regOps C30_27
def C30_28 : Code := cr C30_23
def R30_8 : Array Oper := regOps C30_28
def C30_29 : Code := cr C30_12
def C30_30 : Code := cl C30_29
def C30_31 : Code := cl C30_30
def R30_9 : Array Oper := regOps C30_31
def C30_32 : Code := cr C30_30
def C30_33 : Code := cl C30_32
def C30_34 : Code := cl C30_33
def R30_10 : Array Oper := regOps C30_34
def C30_35 : Code := cr C30_33
def C30_36 : Code := cr C30_32
def C30_37 : Code := cr C30_29
def C30_38 : Code := cl C30_37
def R30_11 : Array Oper := regOps C30_38
def C30_39 : Code := cr C30_37
def C30_40 : Code := cl C30_39
def R30_12 : Array Oper := regOps C30_40
def C30_41 : Code := cr C30_39
def C30_42 : Code := cl C30_41
def R30_13 : Array Oper := regOps C30_42
def C30_43 : Code := cr C30_41
theorem R30_0_N : dstsOk 60 R30_0 = true := by decide +kernel
theorem E30_1 : C30_1 = .region 0 R30_0 false := rfl
theorem R30_1_N : dstsOk 60 R30_1 = true := by decide +kernel
theorem E30_4 : C30_4 = .region 1 R30_1 false := rfl
theorem R30_2_N : dstsOk 60 R30_2 = true := by decide +kernel
theorem E30_7 : C30_7 = .region 2 R30_2 false := rfl
theorem E30_8 : C30_8 = .ret := rfl
theorem E30_6 : C30_6 = .seq C30_7 C30_8 := rfl
theorem E30_9 : C30_9 = .skip := rfl
theorem E30_5 : C30_5 = .cond (.tmp 14) C30_6 C30_9 := rfl
theorem E30_3 : C30_3 = .seq C30_4 C30_5 := rfl
theorem R30_3_N : dstsOk 60 R30_3 = true := by decide +kernel
theorem E30_11 : C30_11 = .region 3 R30_3 false := rfl
theorem R30_4_N : dstsOk 60 R30_4 = true := by decide +kernel
theorem E30_14 : C30_14 = .region 4 R30_4 false := rfl
theorem R30_5_N : dstsOk 60 R30_5 = true := by decide +kernel
theorem E30_18 : C30_18 = .region 5 R30_5 false := rfl
theorem E30_21 : C30_21 = .skip := rfl
theorem E30_22 : C30_22 = .exit 0 := rfl
theorem E30_20 : C30_20 = .cond (.tmp 20) C30_21 C30_22 := rfl
theorem R30_6_N : dstsOk 60 R30_6 = true := by decide +kernel
theorem E30_26 : C30_26 = .region 6 R30_6 false := rfl
theorem R30_7_N : dstsOk 60 R30_7 = true := by decide +kernel
theorem E30_27 : C30_27 = .region 7 R30_7 false := rfl
theorem E30_25 : C30_25 = .seq C30_26 C30_27 := rfl
theorem E30_24 : C30_24 = .block 1 C30_25 := rfl
theorem R30_8_N : dstsOk 60 R30_8 = true := by decide +kernel
theorem E30_28 : C30_28 = .region 8 R30_8 false := rfl
theorem E30_23 : C30_23 = .seq C30_24 C30_28 := rfl
theorem E30_19 : C30_19 = .seq C30_20 C30_23 := rfl
theorem E30_17 : C30_17 = .seq C30_18 C30_19 := rfl
theorem E30_16 : C30_16 = .loop C30_17 := rfl
theorem E30_15 : C30_15 = .block 0 C30_16 := rfl
theorem E30_13 : C30_13 = .seq C30_14 C30_15 := rfl
theorem R30_9_N : dstsOk 60 R30_9 = true := by decide +kernel
theorem E30_31 : C30_31 = .region 9 R30_9 false := rfl
theorem R30_10_N : dstsOk 60 R30_10 = true := by decide +kernel
theorem E30_34 : C30_34 = .region 10 R30_10 false := rfl
theorem E30_35 : C30_35 = .ret := rfl
theorem E30_33 : C30_33 = .seq C30_34 C30_35 := rfl
theorem E30_36 : C30_36 = .skip := rfl
theorem E30_32 : C30_32 = .cond (.tmp 36) C30_33 C30_36 := rfl
theorem E30_30 : C30_30 = .seq C30_31 C30_32 := rfl
theorem R30_11_N : dstsOk 60 R30_11 = true := by decide +kernel
theorem E30_38 : C30_38 = .region 11 R30_11 false := rfl
theorem R30_12_N : dstsOk 60 R30_12 = true := by decide +kernel
theorem R30_12_O : linOk R30_12 [0, 1, 2, 3, 4, 5, 6, 7, 11] [(8, [0, 1, 2, 3, 4, 11], []), (9, [0, 1, 2, 3, 4, 11], []), (10, [0, 11], []), (12, [0], [13, 14]), (15, [], [])] = true := by decide +kernel
theorem E30_40 : C30_40 = .region 12 R30_12 true := rfl
theorem R30_13_N : dstsOk 60 R30_13 = true := by decide +kernel
theorem E30_42 : C30_42 = .region 13 R30_13 false := rfl
theorem E30_43 : C30_43 = .ret := rfl
theorem E30_41 : C30_41 = .seq C30_42 C30_43 := rfl
theorem E30_39 : C30_39 = .seq C30_40 C30_41 := rfl
theorem E30_37 : C30_37 = .seq C30_38 C30_39 := rfl
theorem E30_29 : C30_29 = .seq C30_30 C30_37 := rfl
theorem E30_12 : C30_12 = .seq C30_13 C30_29 := rfl
theorem E30_10 : C30_10 = .seq C30_11 C30_12 := rfl
theorem E30_2 : C30_2 = .seq C30_3 C30_10 := rfl
theorem E30_0 : C30_0 = .seq C30_1 C30_2 := rfl
def S30_1s (Q : (Int × Int) → AW → Prop) (E : List PanicEntry → AW → Prop)  (nx1 : Value → Int → Value → Value → Int → Int → AW → Prop) (h_0 : Value) (kind_1 : Int) (parts_2 : Value) (l_10 : Value) (t_18 : Int) (t_19 : Int) (aw : AW) : Prop :=
  cnd (decide (t_19 < t_18)) (ixS parts_2 t_19 1 fun p2 =>
  one p2 = true ∧ alcS aw [p2] 107 1 1 fun p11 aw12 =>
  app aw12 107 1 8 l_10 p11 fun v16 aw17 =>
  nx1 h_0 kind_1 parts_2 v16 t_18 (IntKind.i64.wrap (t_19 + 1)) aw17) (slen parts_2 fun n19 =>
  CallP prog 53 [.int .u8 kind_1, .int .i64 n19] aw sh53 (fun r25 aw26 =>
  CallP prog 52 [h_0, .int .i64 r25, l_10] aw26 sh52 (fun r27 aw28 =>
  cnd (!r27) (Q (0, 11) aw28) (nck h_0 (fldA h_0 0 fun p31 =>
  ldV aw28 p31 fun x39 =>
  slen x39 fun n41 =>
  nck h_0 (fldA h_0 0 fun p48 =>
  ldV aw28 p48 fun x56 =>
  slen parts_2 fun n58 =>
  CallP prog 54 [.int .u8 kind_1, .int .i64 n58] aw28 sh54 (fun r64 aw65 =>
  again1 aw65 p48 (x56) ∧ alcS aw65 [.int .u64 r64] 26 1 1 fun p66 aw67 =>
  again1 aw67 p48 (x56) ∧ app aw67 26 1 8 x56 p66 fun v70 aw71 =>
  app aw71 26 1 8 v70 parts_2 fun v73 aw74 =>
  nck h_0 (fldA h_0 0 fun p77 =>
  st aw74 p77 [v73] fun aw82 =>
  Q ((IntKind.u64.wrap ((IntKind.u64.wrap n41) * 2 ^ (min (1 : Int).toNat IntKind.u64.bits))), 0) aw82)) E)))) E) E)
def S30_1 (Q : (Int × Int) → AW → Prop) (E : List PanicEntry → AW → Prop)  : Nat → Value → Int → Value → Value → Int → Int → AW → Prop
  | 0 => fun _ _ _ _ _ _ _ => False
  | n + 1 => S30_1s Q E  (S30_1 Q E  n)
def S30_0 (Q : (Int × Int) → AW → Prop) (E : List PanicEntry → AW → Prop)  (h_0 : Value) (kind_1 : Int) (parts_2 : Value) (roots_3 : Value) (aw : AW) : Prop :=
  nilB (.pointer 100) h_0 (.pointer none) fun q89 =>
  cnd q89 (Q (0, 6) aw) (app aw 107 1 8 (.slice none 0 0) roots_3 fun v93 aw94 =>
  slen parts_2 fun n96 =>
  ∃ n, S30_1 Q E  n h_0 kind_1 parts_2 v93 n96 0 aw94)
theorem S30_1s_ok (Q : (Int × Int) → AW → Prop) (E : List PanicEntry → AW → Prop)  (nx1 : Value → Int → Value → Value → Int → Int → AW → Prop) (L1 : ∀ (ρ : Env) (h_0 : Value) (kind_1 : Int) (parts_2 : Value) (l_10 : Value) (t_18 : Int) (t_19 : Int) (aw : AW) (h0 : ρ 0 = h_0) (h1 : ρ 1 = .int .u8 kind_1) (h2 : ρ 2 = parts_2) (h10 : ρ 10 = l_10) (h18 : ρ 18 = .int .i64 t_18) (h19 : ρ 19 = .int .i64 t_19), nx1 h_0 kind_1 parts_2 l_10 t_18 t_19 aw → AGo prog 60 [.code C30_17, .inLoop C30_17, .inBlock 0, .code C30_29] ρ [] aw (RR prog f30 60 sh30 Q E)) (ρ : Env) (h_0 : Value) (kind_1 : Int) (parts_2 : Value) (l_10 : Value) (t_18 : Int) (t_19 : Int) (aw : AW) (h0 : ρ 0 = h_0) (h1 : ρ 1 = .int .u8 kind_1) (h2 : ρ 2 = parts_2) (h10 : ρ 10 = l_10) (h18 : ρ 18 = .int .i64 t_18) (h19 : ρ 19 = .int .i64 t_19) (H : S30_1s Q E  nx1 h_0 kind_1 parts_2 l_10 t_18 t_19 aw) :
    AGo prog 60 [.code C30_17, .inLoop C30_17, .inBlock 0, .code C30_29] ρ [] aw (RR prog f30 60 sh30 Q E) := by
  unfold S30_1s at H
  refine ago_seqE E30_17 ?_
  refine ago_regE E30_18 (l := [0]) rfl ?_
  refine lk (dt := some 20) R30_5_N rfl rfl rfl (opv_lt rfl rfl rfl h19 h18) ?_
  refine aops_nil ?_
  refine ago_seqE E30_19 ?_
  refine ago_condE  E30_20 rfl rfl (fun hb1 => ?_) (fun hb1 => ?_)
  · replace H := cnd_t H hb1
    refine ago_skipE E30_21 ?_
    refine ago_seqE E30_23 ?_
    refine ago_blockE E30_24 ?_
    refine ago_seqE E30_25 ?_
    refine ago_regE E30_26 (l := [0, 1]) rfl ?_
    refine lk (dt := some 21) R30_6_N rfl rfl rfl (opv_move rfl rfl h19) ?_
    refine lk (dt := some 11) R30_6_N rfl rfl rfl (opv_assign rfl rfl rfl) ?_
    refine aops_nil ?_
    refine ago_regE E30_27 (l := [0, 1, 2, 3, 4, 5, 6]) rfl ?_
    refine lk (dt := some 22) R30_7_N rfl rfl rfl (opv_move rfl rfl h10) ?_
    refine lk (dt := some 23) R30_7_N rfl rfl rfl (opv_move rfl rfl h2) ?_
    refine lk (dt := some 24) R30_7_N rfl rfl rfl (opv_move rfl rfl rfl) ?_
    obtain ⟨b3, i4, l5, c6, p2, hp7, h08, hj9, hv10, H⟩ := H
    refine lk (dt := some 25) R30_7_N rfl rfl rfl (ov_ixS rfl rfl rfl underlying62 sz26 rfl rfl hp7 h08 hj9 hv10) ?_
    obtain ⟨h115, H⟩ := H
    obtain ⟨p11, aw12, hp13, ha14, H⟩ := H
    refine lk (dt := some 26) R30_7_N rfl rfl rfl (ov_bsA (r := [p2]) (vs := [p2]) rfl rfl underlying80 sz107 z107 rfl rfl rfl rfl rfl (mp_cons rfl rfl) (.one (cells_one h115) .nil) hp13 ha14) ?_
    obtain ⟨v16, aw17, hq18, H⟩ := H
    refine lk (dt := some 27) R30_7_N rfl rfl rfl (ov_app rfl rfl rfl rfl underlying80 sz107 by107 underlying80 rfl z107 rfl (by decide) (by decide) rfl rfl hq18) ?_
    refine lk (dt := some 10) R30_7_N rfl rfl rfl (opv_assign rfl rfl rfl) ?_
    refine aops_nil ?_
    refine ago_inBlock ?_
    refine ago_regE E30_28 (l := [0, 1]) rfl ?_
    refine lk (dt := some 28) R30_8_N rfl rfl rfl (opv_add rfl rfl rfl h19 rfl) ?_
    refine lk (dt := some 19) R30_8_N rfl rfl rfl (opv_move rfl rfl rfl) ?_
    refine aops_nil ?_
    refine ago_inLoop ?_
    exact L1 _ h_0 kind_1 parts_2 v16 t_18 (IntKind.i64.wrap (t_19 + 1)) aw17 h0 h1 h2 rfl h18 rfl H
  · replace H := cnd_f H hb1
    refine ago_exitE E30_22 rfl ?_
    refine ago_seqE E30_29 ?_
    refine ago_seqE E30_30 ?_
    refine ago_regE E30_31 (l := [0, 1, 2, 3, 4, 5, 6, 7]) rfl ?_
    refine lk (dt := some 29) R30_9_N rfl rfl rfl (opv_move rfl rfl h0) ?_
    refine lk (dt := some 30) R30_9_N rfl rfl rfl (opv_move rfl rfl h1) ?_
    refine lk (dt := some 31) R30_9_N rfl rfl rfl (opv_move rfl rfl h2) ?_
    obtain ⟨q20, l21, c22, n19, hv23, hn24, H⟩ := H
    refine lk (dt := some 32) R30_9_N rfl rfl rfl (ov_len rfl rfl rfl underlying62 rfl hv23 hn24) ?_
    refine lk_call (dt := some 33) R30_9_N rfl rfl rfl (opc_of rfl rfl is53 (ma_cons rfl (ma_cons rfl rfl))) H (fun _ _ h => ⟨rfl, h⟩) fun r25 aw26 H => ?_
    refine lk (dt := some 34) R30_9_N rfl rfl rfl (opv_move rfl rfl h10) ?_
    refine lk_call (dt := some 35) R30_9_N rfl rfl rfl (opc_of rfl rfl is52 (ma_cons rfl (ma_cons rfl (ma_cons rfl rfl)))) H (fun _ _ h => ⟨rfl, h⟩) fun r27 aw28 H => ?_
    refine lk (dt := some 36) R30_9_N rfl rfl rfl (opv_not rfl rfl rfl) ?_
    refine aops_nil ?_
    refine ago_condE  E30_32 rfl rfl (fun hb29 => ?_) (fun hb29 => ?_)
    · replace H := cnd_t H hb29
      refine ago_seqE E30_33 ?_
      refine ago_regE E30_34 (l := [0, 1]) rfl ?_
      refine lk (dt := some 8) R30_10_N rfl rfl rfl (opv_assign rfl rfl rfl) ?_
      refine lk (dt := some 9) R30_10_N rfl rfl rfl (opv_assign rfl rfl rfl) ?_
      refine aops_nil ?_
      exact ago_retE E30_35 (r := (0, 11)) (ares_2 rfl (oneT rfl) (oneT rfl)) rfl H
    · replace H := cnd_f H hb29
      refine ago_skipE E30_36 ?_
      refine ago_seqE E30_37 ?_
      refine ago_regE E30_38 (l := [0, 1, 2, 3, 4, 5]) rfl ?_
      refine lk (dt := some 37) R30_11_N rfl rfl rfl (opv_move rfl rfl h0) ?_
      obtain ⟨hp30, H⟩ := H
      refine lk (dt := some 38) R30_11_N rfl rfl rfl (ov_nck rfl rfl rfl hp30) ?_
      obtain ⟨b32, i33, p31, hp34, hv35, H⟩ := H
      refine lk (dt := some 39) R30_11_N rfl rfl rfl (ov_fldA rfl rfl underlying100 rfl sz62 (by decide) rfl hp34 rfl hv35) ?_
      obtain ⟨b36, i37, x39, hp38, hg40, H⟩ := H
      refine lk (dt := some 40) R30_11_N rfl rfl rfl (ov_ldV rfl underlying62 rfl rfl rfl hp38 hg40) ?_
      obtain ⟨q42, l43, c44, n41, hv45, hn46, H⟩ := H
      refine lk (dt := some 41) R30_11_N rfl rfl rfl (ov_len rfl rfl rfl underlying62 rfl hv45 hn46) ?_
      refine lk (dt := some 12) R30_11_N rfl rfl rfl (opv_assign rfl rfl rfl) ?_
      refine aops_nil ?_
      refine ago_seqE E30_39 ?_
      refine ago_cut (fun ρ => ρ 0 = h_0 ∧ ρ 1 = .int .u8 kind_1 ∧ ρ 2 = parts_2 ∧ ρ 12 = .int .i64 n41 ∧ True) ⟨h0, h1, h2, rfl, trivial⟩ (fun ρ ⟨h0, h1, h2, h12, _⟩ => ?_)
      obtain ⟨hp47, H⟩ := H
      obtain ⟨b49, i50, p48, hp51, hv52, H⟩ := H
      obtain ⟨b53, i54, x56, hp55, hg57, H⟩ := H
      obtain ⟨q59, l60, c61, n58, hv62, hn63, H⟩ := H
      refine ago_drawH (p := [0, 1, 2, 3, 4, 5, 6, 7, 11]) (tl := [(8, [0, 1, 2, 3, 4, 11], []), (9, [0, 1, 2, 3, 4, 11], []), (10, [0, 11], []), (12, [0], [13, 14]), (15, [], [])]) (hv := [(0, h_0), (1, h_0), (2, h_0), (3, p48), (4, x56), (5, Value.int .u8 kind_1), (6, parts_2), (7, Value.int .i64 n58), (11, parts_2)]) E30_40 mixed R30_12_N R30_12_O rfl (pv_cons rfl (pv_cons rfl (pv_cons rfl (pv_cons rfl (pv_cons rfl (pv_cons rfl (pv_cons rfl (pv_cons rfl (pv_cons rfl (pv_nil _))))))))))
        (ffc (d := 42) (v := h_0) (hd_v rfl fun ρ hρ => ⟨rfl, opv_move rfl rfl ((hρ 0 (lmem rfl)).trans h0)⟩) rfl rfl
        (ffc (d := 43) (v := h_0) (hd_v rfl fun ρ hρ => ⟨rfl, opv_move rfl rfl ((hρ 0 (lmem rfl)).trans h0)⟩) rfl rfl
        (ffc (d := 44) (v := h_0) (hd_v rfl fun ρ hρ => ⟨rfl, ov_nck rfl rfl ((hρ 43 (lmem rfl)).trans rfl) hp47⟩) rfl rfl
        (ffc (d := 45) (v := p48) (hd_v rfl fun ρ hρ => ⟨rfl, ov_fldA rfl rfl underlying100 rfl sz62 (by decide) ((hρ 44 (lmem rfl)).trans rfl) hp51 rfl hv52⟩) rfl rfl
        (ffc (d := 46) (v := x56) (hd_v rfl fun ρ hρ => ⟨rfl, ov_ldV rfl underlying62 rfl rfl ((hρ 45 (lmem rfl)).trans rfl) hp55 hg57⟩) rfl rfl
        (ffc (d := 47) (v := .int .u8 kind_1) (hd_v rfl fun ρ hρ => ⟨rfl, opv_move rfl rfl ((hρ 1 (lmem rfl)).trans h1)⟩) rfl rfl
        (ffc (d := 48) (v := parts_2) (hd_v rfl fun ρ hρ => ⟨rfl, opv_move rfl rfl ((hρ 2 (lmem rfl)).trans h2)⟩) rfl rfl
        (ffc (d := 49) (v := .int .i64 n58) (hd_v rfl fun ρ hρ => ⟨rfl, ov_len rfl rfl rfl underlying62 ((hρ 48 (lmem rfl)).trans rfl) hv62 hn63⟩) rfl rfl
        (ffc (d := 53) (v := parts_2) (hd_v rfl fun ρ hρ => ⟨rfl, opv_move rfl rfl ((hρ 2 (lmem rfl)).trans h2)⟩) rfl rfl
        ffn))))))))) ?_
      refine lt_call (dt := some 50) rfl rfl (fun ρ hρ => ⟨rfl, opc_of rfl rfl is54 (ma_cons ((hρ 47 (lmem rfl)).trans rfl) (ma_cons ((hρ 49 (lmem rfl)).trans rfl) rfl))⟩) H (fun _ _ h _ => ⟨rfl, h⟩) fun r64 aw65 H => ?_
      obtain ⟨hg57, H⟩ := H
      replace hg57 := hg57 _ _ hp55
      refine lt_next (l := [0, 1, 2, 3, 4, 11]) (hv := []) rfl rfl (pv_nil _)
        (ffc (d := 42) (v := h_0) (hd_v rfl fun ρ hρ => ⟨rfl, opv_move rfl rfl ((hρ 0 (lmem rfl)).trans h0)⟩) rfl rfl
        (ffc (d := 43) (v := h_0) (hd_v rfl fun ρ hρ => ⟨rfl, opv_move rfl rfl ((hρ 0 (lmem rfl)).trans h0)⟩) rfl rfl
        (ffc (d := 44) (v := h_0) (hd_v rfl fun ρ hρ => ⟨rfl, ov_nck rfl rfl ((hρ 43 (lmem rfl)).trans rfl) hp47⟩) rfl rfl
        (ffc (d := 45) (v := p48) (hd_v rfl fun ρ hρ => ⟨rfl, ov_fldA rfl rfl underlying100 rfl sz62 (by decide) ((hρ 44 (lmem rfl)).trans rfl) hp51 rfl hv52⟩) rfl rfl
        (ffc (d := 46) (v := x56) (hd_v rfl fun ρ hρ => ⟨rfl, ov_ldV rfl underlying62 rfl rfl ((hρ 45 (lmem rfl)).trans rfl) hp55 hg57⟩) rfl rfl
        (ffc (d := 53) (v := parts_2) (hd_v rfl fun ρ hρ => ⟨rfl, opv_move rfl rfl ((hρ 2 (lmem rfl)).trans h2)⟩) rfl rfl
        ffn)))))) ?_
      obtain ⟨p66, aw67, hp68, ha69, H⟩ := H
      refine lt_val (dt := some 51) (v := p66) rfl rfl (fun ρ hρ => ⟨rfl, ov_bsA (r := [.int .u64 r64]) (vs := [.int .u64 r64]) rfl rfl underlying62 sz26 z26 rfl rfl rfl rfl rfl (mp_cons ((hρ 50 (lmem rfl)).trans rfl) rfl) (.one rfl .nil) hp68 ha69⟩) ?_
      obtain ⟨hg57, H⟩ := H
      replace hg57 := hg57 _ _ hp55
      refine lt_next (l := [0, 1, 2, 3, 4, 11]) (hv := []) rfl rfl (pv_nil _)
        (ffc (d := 42) (v := h_0) (hd_v rfl fun ρ hρ => ⟨rfl, opv_move rfl rfl ((hρ 0 (lmem rfl)).trans h0)⟩) rfl rfl
        (ffc (d := 43) (v := h_0) (hd_v rfl fun ρ hρ => ⟨rfl, opv_move rfl rfl ((hρ 0 (lmem rfl)).trans h0)⟩) rfl rfl
        (ffc (d := 44) (v := h_0) (hd_v rfl fun ρ hρ => ⟨rfl, ov_nck rfl rfl ((hρ 43 (lmem rfl)).trans rfl) hp47⟩) rfl rfl
        (ffc (d := 45) (v := p48) (hd_v rfl fun ρ hρ => ⟨rfl, ov_fldA rfl rfl underlying100 rfl sz62 (by decide) ((hρ 44 (lmem rfl)).trans rfl) hp51 rfl hv52⟩) rfl rfl
        (ffc (d := 46) (v := x56) (hd_v rfl fun ρ hρ => ⟨rfl, ov_ldV rfl underlying62 rfl rfl ((hρ 45 (lmem rfl)).trans rfl) hp55 hg57⟩) rfl rfl
        (ffc (d := 53) (v := parts_2) (hd_v rfl fun ρ hρ => ⟨rfl, opv_move rfl rfl ((hρ 2 (lmem rfl)).trans h2)⟩) rfl rfl
        ffn)))))) ?_
      obtain ⟨v70, aw71, hq72, H⟩ := H
      refine lt_val (dt := some 52) (v := v70) rfl rfl (fun ρ hρ => ⟨rfl, ov_app rfl rfl rfl rfl underlying62 sz26 by26 underlying62 rfl z26 rfl (by decide) (by decide) ((hρ 46 (lmem rfl)).trans rfl) ((hρ 51 (lmem rfl)).trans rfl) hq72⟩) ?_
      refine lt_next (l := [0, 11]) (hv := []) rfl rfl (pv_nil _)
        (ffc (d := 42) (v := h_0) (hd_v rfl fun ρ hρ => ⟨rfl, opv_move rfl rfl ((hρ 0 (lmem rfl)).trans h0)⟩) rfl rfl
        (ffc (d := 53) (v := parts_2) (hd_v rfl fun ρ hρ => ⟨rfl, opv_move rfl rfl ((hρ 2 (lmem rfl)).trans h2)⟩) rfl rfl
        ffn)) ?_
      obtain ⟨v73, aw74, hq75, H⟩ := H
      refine lt_val (dt := some 54) (v := v73) rfl rfl (fun ρ hρ => ⟨rfl, ov_app rfl rfl rfl rfl underlying62 sz26 by26 underlying62 rfl z26 rfl (by decide) (by decide) ((hρ 52 (lmem rfl)).trans rfl) ((hρ 53 (lmem rfl)).trans rfl) hq75⟩) ?_
      obtain ⟨hp76, H⟩ := H
      obtain ⟨b78, i79, p77, hp80, hv81, H⟩ := H
      refine lt_next (l := [0, 13, 14]) (hv := [(13, h_0), (14, p77)]) rfl rfl (pv_cons rfl (pv_cons rfl (pv_nil _)))
        (ffc (d := 42) (v := h_0) (hd_v rfl fun ρ hρ => ⟨rfl, opv_move rfl rfl ((hρ 0 (lmem rfl)).trans h0)⟩) rfl rfl
        (ffc (d := 55) (v := h_0) (hd_v rfl fun ρ hρ => ⟨rfl, ov_nck rfl rfl ((hρ 42 (lmem rfl)).trans rfl) hp76⟩) rfl rfl
        (ffc (d := 56) (v := p77) (hd_v rfl fun ρ hρ => ⟨rfl, ov_fldA rfl rfl underlying100 rfl sz62 (by decide) ((hρ 55 (lmem rfl)).trans rfl) hp80 rfl hv81⟩) rfl rfl
        ffn))) ?_
      obtain ⟨b83, i84, aw82, hp85, hw86, ho87, ha88, H⟩ := H
      refine lt_val (dt := none) (v := undef) rfl rfl (fun ρ hρ => ⟨rfl, ov_st rfl rfl rfl ((hρ 56 (lmem rfl)).trans rfl) ((hρ 54 (lmem rfl)).trans rfl) (cells_all ho87) sz62 hp85 hw86 ho87 ha88⟩) ?_
      refine lt_next (l := []) (hv := []) rfl rfl (pv_nil _)
        ffn ?_
      refine lt_end ?_
      refine ago_seqE E30_41 ?_
      refine ago_cut (fun ρ => ρ 12 = .int .i64 n41 ∧ True) ⟨h12, trivial⟩ (fun ρ ⟨h12, _⟩ => ?_)
      refine ago_regE E30_42 (l := [0, 1, 2, 3, 4]) rfl ?_
      refine lk (dt := some 57) R30_13_N rfl rfl rfl (opv_move rfl rfl h12) ?_
      refine lk (dt := some 58) R30_13_N rfl rfl rfl (opv_conv rfl rfl underlying3 underlying26 rfl) ?_
      refine lk (dt := some 59) R30_13_N rfl rfl rfl (opv_shl rfl rfl rfl rfl rfl (by decide)) ?_
      refine lk (dt := some 8) R30_13_N rfl rfl rfl (opv_assign rfl rfl rfl) ?_
      refine lk (dt := some 9) R30_13_N rfl rfl rfl (opv_assign rfl rfl rfl) ?_
      refine aops_nil ?_
      exact ago_retE E30_43 (r := ((IntKind.u64.wrap ((IntKind.u64.wrap n41) * 2 ^ (min (1 : Int).toNat IntKind.u64.bits))), 0)) (ares_2 rfl (oneT rfl) (oneT rfl)) rfl H
theorem S30_1_ok (Q : (Int × Int) → AW → Prop) (E : List PanicEntry → AW → Prop)  : ∀ (n : Nat) (ρ : Env) (h_0 : Value) (kind_1 : Int) (parts_2 : Value) (l_10 : Value) (t_18 : Int) (t_19 : Int) (aw : AW) (h0 : ρ 0 = h_0) (h1 : ρ 1 = .int .u8 kind_1) (h2 : ρ 2 = parts_2) (h10 : ρ 10 = l_10) (h18 : ρ 18 = .int .i64 t_18) (h19 : ρ 19 = .int .i64 t_19), S30_1 Q E  n h_0 kind_1 parts_2 l_10 t_18 t_19 aw →
    AGo prog 60 [.code C30_17, .inLoop C30_17, .inBlock 0, .code C30_29] ρ [] aw (RR prog f30 60 sh30 Q E)
  | 0, _, _, _, _, _, _, _, _, _, _, _, _, _, _ => fun H => H.elim
  | n + 1, ρ, h_0, kind_1, parts_2, l_10, t_18, t_19, aw, h0, h1, h2, h10, h18, h19 => fun H => S30_1s_ok Q E  _ (S30_1_ok Q E  n) ρ h_0 kind_1 parts_2 l_10 t_18 t_19 aw h0 h1 h2 h10 h18 h19 H
theorem S30_0_ok (Q : (Int × Int) → AW → Prop) (E : List PanicEntry → AW → Prop)  (ρ : Env) (h_0 : Value) (kind_1 : Int) (parts_2 : Value) (roots_3 : Value) (aw : AW) (h0 : ρ 0 = h_0) (h1 : ρ 1 = .int .u8 kind_1) (h2 : ρ 2 = parts_2) (h3 : ρ 3 = roots_3) (H : S30_0 Q E  h_0 kind_1 parts_2 roots_3 aw) :
    AGo prog 60 [.code C30_0] ρ [] aw (RR prog f30 60 sh30 Q E) := by
  unfold S30_0 at H
  refine ago_seqE E30_0 ?_
  refine ago_regE E30_1 (l := [0, 1]) rfl ?_
  refine lk (dt := some 8) R30_0_N rfl rfl rfl (opv_assign rfl rfl rfl) ?_
  refine lk (dt := some 9) R30_0_N rfl rfl rfl (opv_assign rfl rfl rfl) ?_
  refine aops_nil ?_
  refine ago_seqE E30_2 ?_
  refine ago_seqE E30_3 ?_
  refine ago_regE E30_4 (l := [0, 1]) rfl ?_
  refine lk (dt := some 13) R30_1_N rfl rfl rfl (opv_move rfl rfl h0) ?_
  obtain ⟨q89, hf90, hq91, H⟩ := H
  refine lk (dt := some 14) R30_1_N rfl rfl rfl (ov_eqNil rfl rfl underlying50 rfl hf90 hq91) ?_
  refine aops_nil ?_
  refine ago_condE  E30_5 rfl rfl (fun hb92 => ?_) (fun hb92 => ?_)
  · replace H := cnd_t H hb92
    refine ago_seqE E30_6 ?_
    refine ago_regE E30_7 (l := [0, 1]) rfl ?_
    refine lk (dt := some 8) R30_2_N rfl rfl rfl (opv_assign rfl rfl rfl) ?_
    refine lk (dt := some 9) R30_2_N rfl rfl rfl (opv_assign rfl rfl rfl) ?_
    refine aops_nil ?_
    exact ago_retE E30_8 (r := (0, 6)) (ares_2 rfl (oneT rfl) (oneT rfl)) rfl H
  · replace H := cnd_f H hb92
    refine ago_skipE E30_9 ?_
    refine ago_seqE E30_10 ?_
    refine ago_regE E30_11 (l := [0, 1, 2]) rfl ?_
    refine lk (dt := some 15) R30_3_N rfl rfl rfl (opv_move rfl rfl h3) ?_
    obtain ⟨v93, aw94, hq95, H⟩ := H
    refine lk (dt := some 16) R30_3_N rfl rfl rfl (ov_app rfl rfl rfl rfl underlying80 sz107 by107 underlying80 rfl z107 rfl (by decide) (by decide) rfl rfl hq95) ?_
    refine lk (dt := some 10) R30_3_N rfl rfl rfl (opv_assign rfl rfl rfl) ?_
    refine aops_nil ?_
    refine ago_seqE E30_12 ?_
    refine ago_seqE E30_13 ?_
    refine ago_regE E30_14 (l := [0, 1, 2]) rfl ?_
    refine lk (dt := some 17) R30_4_N rfl rfl rfl (opv_move rfl rfl h2) ?_
    obtain ⟨q97, l98, c99, n96, hv100, hn101, H⟩ := H
    refine lk (dt := some 18) R30_4_N rfl rfl rfl (ov_len rfl rfl rfl underlying62 rfl hv100 hn101) ?_
    refine lk (dt := some 19) R30_4_N rfl rfl rfl (opv_move rfl rfl rfl) ?_
    refine aops_nil ?_
    refine ago_blockE E30_15 ?_
    refine ago_loopE E30_16 ?_
    obtain ⟨n, H⟩ := H
    exact S30_1_ok Q E  n _ h_0 kind_1 parts_2 v93 n96 0 aw94 h0 h1 h2 rfl rfl rfl H
theorem F30_ok {Q : (Int × Int) → AW → Prop} {E : List PanicEntry → AW → Prop} (h_0 : Value) (kind_1 : Int) (parts_2 : Value) (roots_3 : Value) (aw : AW) (H : S30_0 Q E h_0 kind_1 parts_2 roots_3 aw) : CallP prog 30 [h_0, .int .u8 kind_1, parts_2, roots_3] aw sh30 Q E :=
  callP_of func30 C30_is rfl (Nat.le_of_ble_eq_true rfl) (S30_0_ok Q E _ h_0 kind_1 parts_2 roots_3 aw rfl rfl rfl rfl H)
def C38_0 : Code := bodyOf f38
theorem C38_is : f38.body = some C38_0 := by kernel_rfl
def C38_1 : Code := cl C38_0
def R38_0 : Array Oper := regOps C38_1
def C38_2 : Code := cr C38_0
def C38_3 : Code := cl C38_2
def C38_4 : Code := cl C38_3
def R38_1 : Array Oper := regOps C38_4
def C38_5 : Code := cr C38_3
def C38_6 : Code := cl C38_5
def R38_2 : Array Oper := regOps C38_6
def C38_7 : Code := cr C38_5
def C38_8 : Code := cl C38_7
def C38_9 : Code := cl C38_8
def R38_3 : Array Oper := regOps C38_9
def C38_10 : Code := cr C38_8
def C38_11 : Code := cr C38_7
def C38_12 : Code := cr C38_2
def C38_13 : Code := cl C38_12
def R38_4 : Array Oper := regOps C38_13
def C38_14 : Code := cr C38_12
theorem R38_0_N : dstsOk 19 R38_0 = true := by decide +kernel
theorem E38_1 : C38_1 = .region 0 R38_0 false := rfl
theorem R38_1_N : dstsOk 19 R38_1 = true := by decide +kernel
theorem E38_4 : C38_4 = .region 1 R38_1 false := rfl
theorem R38_2_N : dstsOk 19 R38_2 = true := by decide +kernel
theorem E38_6 : C38_6 = .region 2 R38_2 false := rfl
theorem R38_3_N : dstsOk 19 R38_3 = true := by decide +kernel
theorem E38_9 : C38_9 = .region 3 R38_3 false := rfl
theorem E38_10 : C38_10 = .ret := rfl
theorem E38_8 : C38_8 = .seq C38_9 C38_10 := rfl
theorem E38_11 : C38_11 = .skip := rfl
theorem E38_7 : C38_7 = .cond (.tmp 10) C38_8 C38_11 := rfl
theorem E38_5 : C38_5 = .seq C38_6 C38_7 := rfl
theorem E38_3 : C38_3 = .seq C38_4 C38_5 := rfl
theorem R38_4_N : dstsOk 19 R38_4 = true := by decide +kernel
theorem E38_13 : C38_13 = .region 4 R38_4 false := rfl
theorem E38_14 : C38_14 = .ret := rfl
theorem E38_12 : C38_12 = .seq C38_13 C38_14 := rfl
theorem E38_2 : C38_2 = .seq C38_3 C38_12 := rfl
theorem E38_0 : C38_0 = .seq C38_1 C38_2 := rfl
def S38_0 (Q : Int → AW → Prop) (E : List PanicEntry → AW → Prop)  (h_0 : Value) (w_1 : Int) (aw : AW) : Prop :=
  CallP prog 41 [h_0, .int .u64 w_1] aw sh41 (fun r1 aw2 =>
  cnd (decide (0 ≤ r1)) (nck h_0 (fldA h_0 0 fun p5 =>
  ldV aw2 p5 fun x13 =>
  ixS x13 r1 1 fun p15 =>
  ldI .u64 aw2 p15 fun x27 =>
  Q (IntKind.u8.wrap x27) aw2)) (Q 0 aw2)) E
theorem S38_0_ok (Q : Int → AW → Prop) (E : List PanicEntry → AW → Prop)  (ρ : Env) (h_0 : Value) (w_1 : Int) (aw : AW) (h0 : ρ 0 = h_0) (h1 : ρ 1 = .int .u64 w_1) (H : S38_0 Q E  h_0 w_1 aw) :
    AGo prog 19 [.code C38_0] ρ [] aw (RR prog f38 19 sh38 Q E) := by
  unfold S38_0 at H
  refine ago_seqE E38_0 ?_
  refine ago_regE E38_1 (l := [0]) rfl ?_
  refine lk (dt := some 4) R38_0_N rfl rfl rfl (opv_assign rfl rfl rfl) ?_
  refine aops_nil ?_
  refine ago_seqE E38_2 ?_
  refine ago_seqE E38_3 ?_
  refine ago_regE E38_4 (l := [0, 1, 2, 3]) rfl ?_
  refine lk (dt := some 6) R38_1_N rfl rfl rfl (opv_move rfl rfl h0) ?_
  refine lk (dt := some 7) R38_1_N rfl rfl rfl (opv_move rfl rfl h1) ?_
  refine lk_call (dt := some 8) R38_1_N rfl rfl rfl (opc_of rfl rfl is41 (ma_cons rfl (ma_cons rfl rfl))) H (fun _ _ h => ⟨rfl, h⟩) fun r1 aw2 H => ?_
  refine lk (dt := some 5) R38_1_N rfl rfl rfl (opv_assign rfl rfl rfl) ?_
  refine aops_nil ?_
  refine ago_seqE E38_5 ?_
  refine ago_regE E38_6 (l := [0, 1]) rfl ?_
  refine lk (dt := some 9) R38_2_N rfl rfl rfl (opv_move rfl rfl rfl) ?_
  refine lk (dt := some 10) R38_2_N rfl rfl rfl (opv_ge rfl rfl rfl rfl rfl) ?_
  refine aops_nil ?_
  refine ago_condE  E38_7 rfl rfl (fun hb3 => ?_) (fun hb3 => ?_)
  · replace H := cnd_t H hb3
    refine ago_seqE E38_8 ?_
    refine ago_regE E38_9 (l := [0, 1, 2, 3, 4, 5, 6, 7, 8]) rfl ?_
    refine lk (dt := some 11) R38_3_N rfl rfl rfl (opv_move rfl rfl h0) ?_
    obtain ⟨hp4, H⟩ := H
    refine lk (dt := some 12) R38_3_N rfl rfl rfl (ov_nck rfl rfl rfl hp4) ?_
    obtain ⟨b6, i7, p5, hp8, hv9, H⟩ := H
    refine lk (dt := some 13) R38_3_N rfl rfl rfl (ov_fldA rfl rfl underlying100 rfl sz62 (by decide) rfl hp8 rfl hv9) ?_
    obtain ⟨b10, i11, x13, hp12, hg14, H⟩ := H
    refine lk (dt := some 14) R38_3_N rfl rfl rfl (ov_ldV rfl underlying62 rfl rfl rfl hp12 hg14) ?_
    refine lk (dt := some 15) R38_3_N rfl rfl rfl (opv_move rfl rfl rfl) ?_
    obtain ⟨b16, i17, l18, c19, p15, hp20, h021, hj22, hv23, H⟩ := H
    refine lk (dt := some 16) R38_3_N rfl rfl rfl (ov_ixS rfl rfl rfl underlying62 sz26 rfl rfl hp20 h021 hj22 hv23) ?_
    obtain ⟨b24, i25, x27, hp26, hg28, H⟩ := H
    refine lk (dt := some 17) R38_3_N rfl rfl rfl (ov_ldI rfl underlying26 rfl rfl hp26 hg28) ?_
    refine lk (dt := some 18) R38_3_N rfl rfl rfl (opv_conv rfl rfl underlying26 underlying5 rfl) ?_
    refine lk (dt := some 4) R38_3_N rfl rfl rfl (opv_assign rfl rfl rfl) ?_
    refine aops_nil ?_
    exact ago_retE E38_10 (r := (IntKind.u8.wrap x27)) (ares_1 rfl (oneT rfl)) rfl H
  · replace H := cnd_f H hb3
    refine ago_skipE E38_11 ?_
    refine ago_seqE E38_12 ?_
    refine ago_regE E38_13 (l := [0]) rfl ?_
    refine lk (dt := some 4) R38_4_N rfl rfl rfl (opv_assign rfl rfl rfl) ?_
    refine aops_nil ?_
    exact ago_retE E38_14 (r := 0) (ares_1 rfl (oneT rfl)) rfl H
theorem F38_ok {Q : Int → AW → Prop} {E : List PanicEntry → AW → Prop} (h_0 : Value) (w_1 : Int) (aw : AW) (H : S38_0 Q E h_0 w_1 aw) : CallP prog 38 [h_0, .int .u64 w_1] aw sh38 Q E :=
  callP_of func38 C38_is rfl (Nat.le_of_ble_eq_true rfl) (S38_0_ok Q E _ h_0 w_1 aw rfl rfl H)
def C39_0 : Code := bodyOf f39
theorem C39_is : f39.body = some C39_0 := by kernel_rfl
def C39_1 : Code := cl C39_0
def R39_0 : Array Oper := regOps C39_1
def C39_2 : Code := cr C39_0
def C39_3 : Code := cl C39_2
def C39_4 : Code := cl C39_3
def R39_1 : Array Oper := regOps C39_4
def C39_5 : Code := cr C39_3
def C39_6 : Code := cl C39_5
def R39_2 : Array Oper := regOps C39_6
def C39_7 : Code := cr C39_5
def C39_8 : Code := cl C39_7
def C39_9 : Code := cl C39_8
def R39_3 : Array Oper := regOps C39_9
def C39_10 : Code := cr C39_8
def C39_11 : Code := cr C39_7
def C39_12 : Code := cr C39_2
def C39_13 : Code := cl C39_12
def R39_4 : Array Oper := regOps C39_13
def C39_14 : Code := cr C39_12
theorem R39_0_N : dstsOk 20 R39_0 = true := by decide +kernel
theorem E39_1 : C39_1 = .region 0 R39_0 false := rfl
theorem R39_1_N : dstsOk 20 R39_1 = true := by decide +kernel
theorem E39_4 : C39_4 = .region 1 R39_1 false := rfl
theorem R39_2_N : dstsOk 20 R39_2 = true := by decide +kernel
theorem E39_6 : C39_6 = .region 2 R39_2 false := rfl
theorem R39_3_N : dstsOk 20 R39_3 = true := by decide +kernel
theorem E39_9 : C39_9 = .region 3 R39_3 false := rfl
theorem E39_10 : C39_10 = .ret := rfl
theorem E39_8 : C39_8 = .seq C39_9 C39_10 := rfl
theorem E39_11 : C39_11 = .skip := rfl
theorem E39_7 : C39_7 = .cond (.tmp 10) C39_8 C39_11 := rfl
theorem E39_5 : C39_5 = .seq C39_6 C39_7 := rfl
theorem E39_3 : C39_3 = .seq C39_4 C39_5 := rfl
theorem R39_4_N : dstsOk 20 R39_4 = true := by decide +kernel
theorem E39_13 : C39_13 = .region 4 R39_4 false := rfl
theorem E39_14 : C39_14 = .ret := rfl
theorem E39_12 : C39_12 = .seq C39_13 C39_14 := rfl
theorem E39_2 : C39_2 = .seq C39_3 C39_12 := rfl
theorem E39_0 : C39_0 = .seq C39_1 C39_2 := rfl
def S39_0 (Q : Int → AW → Prop) (E : List PanicEntry → AW → Prop)  (h_0 : Value) (w_1 : Int) (aw : AW) : Prop :=
  CallP prog 41 [h_0, .int .u64 w_1] aw sh41 (fun r1 aw2 =>
  cnd (decide (0 ≤ r1)) (nck h_0 (fldA h_0 0 fun p5 =>
  ldV aw2 p5 fun x13 =>
  ixS x13 r1 1 fun p15 =>
  ldI .u64 aw2 p15 fun x27 =>
  Q (IntKind.i64.wrap (Int.fdiv x27 (2 ^ (min (8 : Int).toNat IntKind.u64.bits)))) aw2)) (Q 0 aw2)) E
theorem S39_0_ok (Q : Int → AW → Prop) (E : List PanicEntry → AW → Prop)  (ρ : Env) (h_0 : Value) (w_1 : Int) (aw : AW) (h0 : ρ 0 = h_0) (h1 : ρ 1 = .int .u64 w_1) (H : S39_0 Q E  h_0 w_1 aw) :
    AGo prog 20 [.code C39_0] ρ [] aw (RR prog f39 20 sh39 Q E) := by
  unfold S39_0 at H
  refine ago_seqE E39_0 ?_
  refine ago_regE E39_1 (l := [0]) rfl ?_
  refine lk (dt := some 4) R39_0_N rfl rfl rfl (opv_assign rfl rfl rfl) ?_
  refine aops_nil ?_
  refine ago_seqE E39_2 ?_
  refine ago_seqE E39_3 ?_
  refine ago_regE E39_4 (l := [0, 1, 2, 3]) rfl ?_
  refine lk (dt := some 6) R39_1_N rfl rfl rfl (opv_move rfl rfl h0) ?_
  refine lk (dt := some 7) R39_1_N rfl rfl rfl (opv_move rfl rfl h1) ?_
  refine lk_call (dt := some 8) R39_1_N rfl rfl rfl (opc_of rfl rfl is41 (ma_cons rfl (ma_cons rfl rfl))) H (fun _ _ h => ⟨rfl, h⟩) fun r1 aw2 H => ?_
  refine lk (dt := some 5) R39_1_N rfl rfl rfl (opv_assign rfl rfl rfl) ?_
  refine aops_nil ?_
  refine ago_seqE E39_5 ?_
  refine ago_regE E39_6 (l := [0, 1]) rfl ?_
  refine lk (dt := some 9) R39_2_N rfl rfl rfl (opv_move rfl rfl rfl) ?_
  refine lk (dt := some 10) R39_2_N rfl rfl rfl (opv_ge rfl rfl rfl rfl rfl) ?_
  refine aops_nil ?_
  refine ago_condE  E39_7 rfl rfl (fun hb3 => ?_) (fun hb3 => ?_)
  · replace H := cnd_t H hb3
    refine ago_seqE E39_8 ?_
    refine ago_regE E39_9 (l := [0, 1, 2, 3, 4, 5, 6, 7, 8, 9]) rfl ?_
    refine lk (dt := some 11) R39_3_N rfl rfl rfl (opv_move rfl rfl h0) ?_
    obtain ⟨hp4, H⟩ := H
    refine lk (dt := some 12) R39_3_N rfl rfl rfl (ov_nck rfl rfl rfl hp4) ?_
    obtain ⟨b6, i7, p5, hp8, hv9, H⟩ := H
    refine lk (dt := some 13) R39_3_N rfl rfl rfl (ov_fldA rfl rfl underlying100 rfl sz62 (by decide) rfl hp8 rfl hv9) ?_
    obtain ⟨b10, i11, x13, hp12, hg14, H⟩ := H
    refine lk (dt := some 14) R39_3_N rfl rfl rfl (ov_ldV rfl underlying62 rfl rfl rfl hp12 hg14) ?_
    refine lk (dt := some 15) R39_3_N rfl rfl rfl (opv_move rfl rfl rfl) ?_
    obtain ⟨b16, i17, l18, c19, p15, hp20, h021, hj22, hv23, H⟩ := H
    refine lk (dt := some 16) R39_3_N rfl rfl rfl (ov_ixS rfl rfl rfl underlying62 sz26 rfl rfl hp20 h021 hj22 hv23) ?_
    obtain ⟨b24, i25, x27, hp26, hg28, H⟩ := H
    refine lk (dt := some 17) R39_3_N rfl rfl rfl (ov_ldI rfl underlying26 rfl rfl hp26 hg28) ?_
    refine lk (dt := some 18) R39_3_N rfl rfl rfl (opv_shr rfl rfl rfl rfl rfl (by decide)) ?_
    refine lk (dt := some 19) R39_3_N rfl rfl rfl (opv_conv rfl rfl underlying26 underlying3 rfl) ?_
    refine lk (dt := some 4) R39_3_N rfl rfl rfl (opv_assign rfl rfl rfl) ?_
    refine aops_nil ?_
    exact ago_retE E39_10 (r := (IntKind.i64.wrap (Int.fdiv x27 (2 ^ (min (8 : Int).toNat IntKind.u64.bits))))) (ares_1 rfl (oneT rfl)) rfl H
  · replace H := cnd_f H hb3
    refine ago_skipE E39_11 ?_
    refine ago_seqE E39_12 ?_
    refine ago_regE E39_13 (l := [0]) rfl ?_
    refine lk (dt := some 4) R39_4_N rfl rfl rfl (opv_assign rfl rfl rfl) ?_
    refine aops_nil ?_
    exact ago_retE E39_14 (r := 0) (ares_1 rfl (oneT rfl)) rfl H
theorem F39_ok {Q : Int → AW → Prop} {E : List PanicEntry → AW → Prop} (h_0 : Value) (w_1 : Int) (aw : AW) (H : S39_0 Q E h_0 w_1 aw) : CallP prog 39 [h_0, .int .u64 w_1] aw sh39 Q E :=
  callP_of func39 C39_is rfl (Nat.le_of_ble_eq_true rfl) (S39_0_ok Q E _ h_0 w_1 aw rfl rfl H)
def C41_0 : Code := bodyOf f41
theorem C41_is : f41.body = some C41_0 := by kernel_rfl
def C41_1 : Code := cl C41_0
def R41_0 : Array Oper := regOps C41_1
def C41_2 : Code := cr C41_0
def C41_3 : Code := cl C41_2
def C41_4 : Code := cl C41_3
def R41_1 : Array Oper := regOps C41_4
def C41_5 : Code := cr C41_3
def C41_6 : Code := cl C41_5
def C41_7 : Code := cl C41_6
def R41_2 : Array Oper := regOps C41_7
def C41_8 : Code := cr C41_6
def C41_9 : Code := cr C41_5
def C41_10 : Code := cr C41_2
def C41_11 : Code := cl C41_10
def R41_3 : Array Oper := regOps C41_11
def C41_12 : Code := cr C41_10
theorem R41_0_N : dstsOk 25 R41_0 = true := by decide +kernel
theorem E41_1 : C41_1 = .region 0 R41_0 false := rfl
theorem R41_1_N : dstsOk 25 R41_1 = true := by decide +kernel
theorem E41_4 : C41_4 = .region 1 R41_1 false := rfl
theorem R41_2_N : dstsOk 25 R41_2 = true := by decide +kernel
theorem E41_7 : C41_7 = .region 2 R41_2 false := rfl
theorem E41_8 : C41_8 = .ret := rfl
theorem E41_6 : C41_6 = .seq C41_7 C41_8 := rfl
theorem E41_9 : C41_9 = .skip := rfl
theorem E41_5 : C41_5 = .cond (.tmp 21) C41_6 C41_9 := rfl
theorem E41_3 : C41_3 = .seq C41_4 C41_5 := rfl
theorem R41_3_N : dstsOk 25 R41_3 = true := by decide +kernel
theorem E41_11 : C41_11 = .region 3 R41_3 false := rfl
theorem E41_12 : C41_12 = .ret := rfl
theorem E41_10 : C41_10 = .seq C41_11 C41_12 := rfl
theorem E41_2 : C41_2 = .seq C41_3 C41_10 := rfl
theorem E41_0 : C41_0 = .seq C41_1 C41_2 := rfl
def S41_0 (Q : Int → AW → Prop) (E : List PanicEntry → AW → Prop)  (h_0 : Value) (w_1 : Int) (aw : AW) : Prop :=
  nilB (.pointer 100) h_0 (.pointer none) fun q1 =>
  cnd q1 (Q (-1) aw) (CallP prog 49 [.int .u64 w_1] aw sh49 (fun r6 aw7 =>
  cnd r6 (Q (-1) aw7) (nck h_0 (fldA h_0 0 fun p11 =>
  ldV aw7 p11 fun x19 =>
  slen x19 fun n21 =>
  cnd (decide ((IntKind.u64.wrap n21) ≤ (Int.fdiv w_1 (2 ^ (min (1 : Int).toNat IntKind.u64.bits))))) (Q (-1) aw7) (Q (IntKind.i64.wrap (Int.fdiv w_1 (2 ^ (min (1 : Int).toNat IntKind.u64.bits)))) aw7)))) E)
theorem S41_0_ok (Q : Int → AW → Prop) (E : List PanicEntry → AW → Prop)  (ρ : Env) (h_0 : Value) (w_1 : Int) (aw : AW) (h0 : ρ 0 = h_0) (h1 : ρ 1 = .int .u64 w_1) (H : S41_0 Q E  h_0 w_1 aw) :
    AGo prog 25 [.code C41_0] ρ [] aw (RR prog f41 25 sh41 Q E) := by
  unfold S41_0 at H
  refine ago_seqE E41_0 ?_
  refine ago_regE E41_1 (l := [0]) rfl ?_
  refine lk (dt := some 4) R41_0_N rfl rfl rfl (opv_assign rfl rfl rfl) ?_
  refine aops_nil ?_
  refine ago_seqE E41_2 ?_
  refine ago_seqE E41_3 ?_
  refine ago_regE E41_4 (l := [0, 1, 2, 3, 4, 5, 6, 7, 8, 9, 10, 11, 12, 13, 14, 15, 16]) rfl ?_
  refine lk (dt := some 5) R41_1_N rfl rfl rfl (opv_move rfl rfl h0) ?_
  obtain ⟨q1, hf2, hq3, H⟩ := H
  refine lk (dt := some 6) R41_1_N rfl rfl rfl (ov_eqNil rfl rfl underlying50 rfl hf2 hq3) ?_
  refine lk (dt := some 7) R41_1_N rfl rfl rfl (opv_move rfl rfl rfl) ?_
  rcases Bool.eq_false_or_eq_true q1 with hb4 | hb4
  · replace H := cnd_t H hb4
    refine lk_skip (dt := some 8) R41_1_N rfl rfl ⟨_, rfl, .inl ⟨_, rfl, gq hb4 rfl⟩⟩ ?_
    refine lk_skip (dt := some 9) R41_1_N rfl rfl ⟨_, rfl, .inl ⟨_, rfl, gq hb4 rfl⟩⟩ ?_
    refine lk (dt := some 10) R41_1_N rfl rfl rfl (ov_pickT rfl rfl rfl rfl rfl hb4 rfl) ?_
    refine lk (dt := some 11) R41_1_N rfl rfl rfl (opv_move rfl rfl rfl) ?_
    refine lk_skip (dt := some 12) R41_1_N rfl rfl ⟨_, rfl, .inl ⟨_, rfl, gq rfl rfl⟩⟩ ?_
    refine lk_skip (dt := some 13) R41_1_N rfl rfl ⟨_, rfl, .inl ⟨_, rfl, gq rfl rfl⟩⟩ ?_
    refine lk_skip (dt := some 14) R41_1_N rfl rfl ⟨_, rfl, .inl ⟨_, rfl, gq rfl rfl⟩⟩ ?_
    refine lk_skip (dt := some 15) R41_1_N rfl rfl ⟨_, rfl, .inl ⟨_, rfl, gq rfl rfl⟩⟩ ?_
    refine lk_skip (dt := some 16) R41_1_N rfl rfl ⟨_, rfl, .inl ⟨_, rfl, gq rfl rfl⟩⟩ ?_
    refine lk_skip (dt := some 17) R41_1_N rfl rfl ⟨_, rfl, .inl ⟨_, rfl, gq rfl rfl⟩⟩ ?_
    refine lk_skip (dt := some 18) R41_1_N rfl rfl ⟨_, rfl, .inl ⟨_, rfl, gq rfl rfl⟩⟩ ?_
    refine lk_skip (dt := some 19) R41_1_N rfl rfl ⟨_, rfl, .inl ⟨_, rfl, gq rfl rfl⟩⟩ ?_
    refine lk_skip (dt := some 20) R41_1_N rfl rfl ⟨_, rfl, .inl ⟨_, rfl, gq rfl rfl⟩⟩ ?_
    refine lk (dt := some 21) R41_1_N rfl rfl rfl (ov_pickT rfl rfl rfl rfl rfl rfl rfl) ?_
    refine aops_nil ?_
    refine ago_condE  E41_5 rfl rfl (fun h => ?_) (fun h => tf h)
    refine ago_seqE E41_6 ?_
    refine ago_regE E41_7 (l := [0]) rfl ?_
    refine lk (dt := some 4) R41_2_N rfl rfl rfl (opv_assign rfl rfl rfl) ?_
    refine aops_nil ?_
    exact ago_retE E41_8 (r := (-1)) (ares_1 rfl (oneT rfl)) rfl H
  · replace H := cnd_f H hb4
    refine lk (dt := some 8) R41_1_N rfl rfl ⟨_, rfl, .inl ⟨_, rfl, gq hb4 rfl⟩⟩ (opv_move rfl rfl h1) ?_
    refine lk_call (dt := some 9) R41_1_N rfl rfl ⟨_, rfl, .inl ⟨_, rfl, gq hb4 rfl⟩⟩ (opc_of rfl rfl is49 (ma_cons rfl rfl)) H (fun _ _ h => ⟨rfl, h⟩) fun r6 aw7 H => ?_
    refine lk (dt := some 10) R41_1_N rfl rfl rfl (ov_pickF rfl rfl rfl rfl rfl hb4 rfl) ?_
    refine lk (dt := some 11) R41_1_N rfl rfl rfl (opv_move rfl rfl rfl) ?_
    rcases Bool.eq_false_or_eq_true r6 with hb8 | hb8
    · replace H := cnd_t H hb8
      refine lk_skip (dt := some 12) R41_1_N rfl rfl ⟨_, rfl, .inl ⟨_, rfl, gq hb8 rfl⟩⟩ ?_
      refine lk_skip (dt := some 13) R41_1_N rfl rfl ⟨_, rfl, .inl ⟨_, rfl, gq hb8 rfl⟩⟩ ?_
      refine lk_skip (dt := some 14) R41_1_N rfl rfl ⟨_, rfl, .inl ⟨_, rfl, gq hb8 rfl⟩⟩ ?_
      refine lk_skip (dt := some 15) R41_1_N rfl rfl ⟨_, rfl, .inl ⟨_, rfl, gq hb8 rfl⟩⟩ ?_
      refine lk_skip (dt := some 16) R41_1_N rfl rfl ⟨_, rfl, .inl ⟨_, rfl, gq hb8 rfl⟩⟩ ?_
      refine lk_skip (dt := some 17) R41_1_N rfl rfl ⟨_, rfl, .inl ⟨_, rfl, gq hb8 rfl⟩⟩ ?_
      refine lk_skip (dt := some 18) R41_1_N rfl rfl ⟨_, rfl, .inl ⟨_, rfl, gq hb8 rfl⟩⟩ ?_
      refine lk_skip (dt := some 19) R41_1_N rfl rfl ⟨_, rfl, .inl ⟨_, rfl, gq hb8 rfl⟩⟩ ?_
      refine lk_skip (dt := some 20) R41_1_N rfl rfl ⟨_, rfl, .inl ⟨_, rfl, gq hb8 rfl⟩⟩ ?_
      refine lk (dt := some 21) R41_1_N rfl rfl rfl (ov_pickT rfl rfl rfl rfl rfl hb8 rfl) ?_
      refine aops_nil ?_
      refine ago_condE  E41_5 rfl rfl (fun h => ?_) (fun h => tf h)
      refine ago_seqE E41_6 ?_
      refine ago_regE E41_7 (l := [0]) rfl ?_
      refine lk (dt := some 4) R41_2_N rfl rfl rfl (opv_assign rfl rfl rfl) ?_
      refine aops_nil ?_
      exact ago_retE E41_8 (r := (-1)) (ares_1 rfl (oneT rfl)) rfl H
    · replace H := cnd_f H hb8
      refine lk (dt := some 12) R41_1_N rfl rfl ⟨_, rfl, .inl ⟨_, rfl, gq hb8 rfl⟩⟩ (opv_move rfl rfl h1) ?_
      refine lk (dt := some 13) R41_1_N rfl rfl ⟨_, rfl, .inl ⟨_, rfl, gq hb8 rfl⟩⟩ (opv_shr rfl rfl rfl rfl rfl (by decide)) ?_
      refine lk (dt := some 14) R41_1_N rfl rfl ⟨_, rfl, .inl ⟨_, rfl, gq hb8 rfl⟩⟩ (opv_move rfl rfl h0) ?_
      obtain ⟨hp10, H⟩ := H
      refine lk (dt := some 15) R41_1_N rfl rfl ⟨_, rfl, .inl ⟨_, rfl, gq hb8 rfl⟩⟩ (ov_nck rfl rfl rfl hp10) ?_
      obtain ⟨b12, i13, p11, hp14, hv15, H⟩ := H
      refine lk (dt := some 16) R41_1_N rfl rfl ⟨_, rfl, .inl ⟨_, rfl, gq hb8 rfl⟩⟩ (ov_fldA rfl rfl underlying100 rfl sz62 (by decide) rfl hp14 rfl hv15) ?_
      obtain ⟨b16, i17, x19, hp18, hg20, H⟩ := H
      refine lk (dt := some 17) R41_1_N rfl rfl ⟨_, rfl, .inl ⟨_, rfl, gq hb8 rfl⟩⟩ (ov_ldV rfl underlying62 rfl rfl rfl hp18 hg20) ?_
      obtain ⟨q22, l23, c24, n21, hv25, hn26, H⟩ := H
      refine lk (dt := some 18) R41_1_N rfl rfl ⟨_, rfl, .inl ⟨_, rfl, gq hb8 rfl⟩⟩ (ov_len rfl rfl rfl underlying62 rfl hv25 hn26) ?_
      refine lk (dt := some 19) R41_1_N rfl rfl ⟨_, rfl, .inl ⟨_, rfl, gq hb8 rfl⟩⟩ (opv_conv rfl rfl underlying3 underlying26 rfl) ?_
      refine lk (dt := some 20) R41_1_N rfl rfl ⟨_, rfl, .inl ⟨_, rfl, gq hb8 rfl⟩⟩ (opv_ge rfl rfl rfl rfl rfl) ?_
      refine lk (dt := some 21) R41_1_N rfl rfl rfl (ov_pickF rfl rfl rfl rfl rfl hb8 rfl) ?_
      refine aops_nil ?_
      refine ago_condE  E41_5 rfl rfl (fun hb27 => ?_) (fun hb27 => ?_)
      · replace H := cnd_t H hb27
        refine ago_seqE E41_6 ?_
        refine ago_regE E41_7 (l := [0]) rfl ?_
        refine lk (dt := some 4) R41_2_N rfl rfl rfl (opv_assign rfl rfl rfl) ?_
        refine aops_nil ?_
        exact ago_retE E41_8 (r := (-1)) (ares_1 rfl (oneT rfl)) rfl H
      · replace H := cnd_f H hb27
        refine ago_skipE E41_9 ?_
        refine ago_seqE E41_10 ?_
        refine ago_cut (fun ρ => ρ 1 = .int .u64 w_1 ∧ True) ⟨h1, trivial⟩ (fun ρ ⟨h1, _⟩ => ?_)
        refine ago_regE E41_11 (l := [0, 1, 2, 3]) rfl ?_
        refine lk (dt := some 22) R41_3_N rfl rfl rfl (opv_move rfl rfl h1) ?_
        refine lk (dt := some 23) R41_3_N rfl rfl rfl (opv_shr rfl rfl rfl rfl rfl (by decide)) ?_
        refine lk (dt := some 24) R41_3_N rfl rfl rfl (opv_conv rfl rfl underlying26 underlying3 rfl) ?_
        refine lk (dt := some 4) R41_3_N rfl rfl rfl (opv_assign rfl rfl rfl) ?_
        refine aops_nil ?_
        exact ago_retE E41_12 (r := (IntKind.i64.wrap (Int.fdiv w_1 (2 ^ (min (1 : Int).toNat IntKind.u64.bits))))) (ares_1 rfl (oneT rfl)) rfl H
theorem F41_ok {Q : Int → AW → Prop} {E : List PanicEntry → AW → Prop} (h_0 : Value) (w_1 : Int) (aw : AW) (H : S41_0 Q E h_0 w_1 aw) : CallP prog 41 [h_0, .int .u64 w_1] aw sh41 Q E :=
  callP_of func41 C41_is rfl (Nat.le_of_ble_eq_true rfl) (S41_0_ok Q E _ h_0 w_1 aw rfl rfl H)
def C52_0 : Code := bodyOf f52
theorem C52_is : f52.body = some C52_0 := by kernel_rfl
def C52_1 : Code := cl C52_0
def R52_0 : Array Oper := regOps C52_1
def C52_2 : Code := cr C52_0
def C52_3 : Code := cl C52_2
def C52_4 : Code := cl C52_3
def R52_1 : Array Oper := regOps C52_4
def C52_5 : Code := cr C52_3
def C52_6 : Code := cl C52_5
def R52_2 : Array Oper := regOps C52_6
def C52_7 : Code := cr C52_5
def C52_8 : Code := cr C52_2
def C52_9 : Code := cl C52_8
def R52_3 : Array Oper := regOps C52_9
def C52_10 : Code := cr C52_8
theorem R52_0_N : dstsOk 34 R52_0 = true := by decide +kernel
theorem E52_1 : C52_1 = .region 0 R52_0 false := rfl
theorem R52_1_N : dstsOk 34 R52_1 = true := by decide +kernel
theorem R52_1_O : linOk R52_1 [0, 1, 2, 3, 4, 5, 6, 7, 8, 9, 10, 11] [] = true := by decide +kernel
theorem E52_4 : C52_4 = .region 1 R52_1 true := rfl
theorem R52_2_N : dstsOk 34 R52_2 = true := by decide +kernel
theorem E52_6 : C52_6 = .region 2 R52_2 false := rfl
theorem E52_7 : C52_7 = .skip := rfl
theorem E52_5 : C52_5 = .cond (.tmp 18) C52_6 C52_7 := rfl
theorem E52_3 : C52_3 = .seq C52_4 C52_5 := rfl
theorem R52_3_N : dstsOk 34 R52_3 = true := by decide +kernel
theorem R52_3_O : linOk R52_3 [0, 1, 2, 3, 4, 5, 6, 7, 8, 9, 10, 11, 12] [] = true := by decide +kernel
theorem E52_9 : C52_9 = .region 3 R52_3 true := rfl
theorem E52_10 : C52_10 = .ret := rfl
theorem E52_8 : C52_8 = .seq C52_9 C52_10 := rfl
theorem E52_2 : C52_2 = .seq C52_3 C52_8 := rfl
theorem E52_0 : C52_0 = .seq C52_1 C52_2 := rfl
def S52_1 (Q : Bool → AW → Prop) (E : List PanicEntry → AW → Prop)  (h_0 : Value) (n_1 : Int) (aw : AW) : Prop :=
  nck h_0 (fldA h_0 1 fun p2 =>
  ldI .i64 aw p2 fun x10 =>
  nck h_0 (fldA h_0 0 fun p13 =>
  ldV aw p13 fun x21 =>
  slen x21 fun n23 =>
  Q (decide (n_1 ≤ (IntKind.i64.wrap (x10 - n23)))) aw))
def S52_0 (Q : Bool → AW → Prop) (E : List PanicEntry → AW → Prop)  (h_0 : Value) (n_1 : Int) (roots_2 : Value) (aw : AW) : Prop :=
  nck h_0 (fldA h_0 1 fun p30 =>
  ldI .i64 aw p30 fun x38 =>
  nck h_0 (fldA h_0 0 fun p41 =>
  ldV aw p41 fun x49 =>
  slen x49 fun n51 =>
  cnd (decide ((IntKind.i64.wrap (x38 - n51)) < n_1)) (CallP prog 48 [h_0, roots_2] aw sh48 (fun r58 aw59 =>
  S52_1 Q E  h_0 n_1 aw59) E) (S52_1 Q E  h_0 n_1 aw)))
theorem S52_1_ok (Q : Bool → AW → Prop) (E : List PanicEntry → AW → Prop)  (ρ : Env) (h_0 : Value) (n_1 : Int) (aw : AW) (h0 : ρ 0 = h_0) (h1 : ρ 1 = .int .i64 n_1) (H : S52_1 Q E  h_0 n_1 aw) :
    AGo prog 34 [.code C52_8] ρ [] aw (RR prog f52 34 sh52 Q E) := by
  unfold S52_1 at H
  refine ago_seqE E52_8 ?_
  obtain ⟨hp1, H⟩ := H
  obtain ⟨b3, i4, p2, hp5, hv6, H⟩ := H
  obtain ⟨b7, i8, x10, hp9, hg11, H⟩ := H
  obtain ⟨hp12, H⟩ := H
  obtain ⟨b14, i15, p13, hp16, hv17, H⟩ := H
  obtain ⟨b18, i19, x21, hp20, hg22, H⟩ := H
  obtain ⟨q24, l25, c26, n23, hv27, hn28, H⟩ := H
  refine ago_drawH (p := [0, 1, 2, 3, 4, 5, 6, 7, 8, 9, 10, 11, 12]) (tl := []) (hv := [(0, Value.int .i64 n_1), (1, h_0), (2, h_0), (3, p2), (4, Value.int .i64 x10), (5, h_0), (6, h_0), (7, p13), (8, x21), (9, Value.int .i64 n23), (10, Value.int .i64 (IntKind.i64.wrap (x10 - n23))), (11, Value.bool (decide (n_1 ≤ (IntKind.i64.wrap (x10 - n23))))), (12, Value.bool (decide (n_1 ≤ (IntKind.i64.wrap (x10 - n23)))))]) E52_9 mixed R52_3_N R52_3_O rfl (pv_cons rfl (pv_cons rfl (pv_cons rfl (pv_cons rfl (pv_cons rfl (pv_cons rfl (pv_cons rfl (pv_cons rfl (pv_cons rfl (pv_cons rfl (pv_cons rfl (pv_cons rfl (pv_cons rfl (pv_nil _))))))))))))))
    (ffc (d := 22) (v := .int .i64 n_1) (hd_v rfl fun ρ hρ => ⟨rfl, opv_move rfl rfl ((hρ 1 (lmem rfl)).trans h1)⟩) rfl rfl
    (ffc (d := 23) (v := h_0) (hd_v rfl fun ρ hρ => ⟨rfl, opv_move rfl rfl ((hρ 0 (lmem rfl)).trans h0)⟩) rfl rfl
    (ffc (d := 24) (v := h_0) (hd_v rfl fun ρ hρ => ⟨rfl, ov_nck rfl rfl ((hρ 23 (lmem rfl)).trans rfl) hp1⟩) rfl rfl
    (ffc (d := 25) (v := p2) (hd_v rfl fun ρ hρ => ⟨rfl, ov_fldA rfl rfl underlying100 rfl sz3 (by decide) ((hρ 24 (lmem rfl)).trans rfl) hp5 rfl hv6⟩) rfl rfl
    (ffc (d := 26) (v := .int .i64 x10) (hd_v rfl fun ρ hρ => ⟨rfl, ov_ldI rfl underlying3 rfl ((hρ 25 (lmem rfl)).trans rfl) hp9 hg11⟩) rfl rfl
    (ffc (d := 27) (v := h_0) (hd_v rfl fun ρ hρ => ⟨rfl, opv_move rfl rfl ((hρ 0 (lmem rfl)).trans h0)⟩) rfl rfl
    (ffc (d := 28) (v := h_0) (hd_v rfl fun ρ hρ => ⟨rfl, ov_nck rfl rfl ((hρ 27 (lmem rfl)).trans rfl) hp12⟩) rfl rfl
    (ffc (d := 29) (v := p13) (hd_v rfl fun ρ hρ => ⟨rfl, ov_fldA rfl rfl underlying100 rfl sz62 (by decide) ((hρ 28 (lmem rfl)).trans rfl) hp16 rfl hv17⟩) rfl rfl
    (ffc (d := 30) (v := x21) (hd_v rfl fun ρ hρ => ⟨rfl, ov_ldV rfl underlying62 rfl rfl ((hρ 29 (lmem rfl)).trans rfl) hp20 hg22⟩) rfl rfl
    (ffc (d := 31) (v := .int .i64 n23) (hd_v rfl fun ρ hρ => ⟨rfl, ov_len rfl rfl rfl underlying62 ((hρ 30 (lmem rfl)).trans rfl) hv27 hn28⟩) rfl rfl
    (ffc (d := 32) (v := .int .i64 (IntKind.i64.wrap (x10 - n23))) (hd_v rfl fun ρ hρ => ⟨rfl, opv_sub rfl rfl rfl ((hρ 26 (lmem rfl)).trans rfl) ((hρ 31 (lmem rfl)).trans rfl)⟩) rfl rfl
    (ffc (d := 33) (v := .bool (decide (n_1 ≤ (IntKind.i64.wrap (x10 - n23))))) (hd_v rfl fun ρ hρ => ⟨rfl, opv_le rfl rfl rfl ((hρ 22 (lmem rfl)).trans rfl) ((hρ 32 (lmem rfl)).trans rfl)⟩) rfl rfl
    (ffc (d := 6) (v := .bool (decide (n_1 ≤ (IntKind.i64.wrap (x10 - n23))))) (hd_v rfl fun ρ hρ => ⟨rfl, opv_assign rfl rfl ((hρ 33 (lmem rfl)).trans rfl)⟩) rfl rfl
    ffn))))))))))))) ?_
  refine lt_end ?_
  exact ago_retE E52_10 (r := (decide (n_1 ≤ (IntKind.i64.wrap (x10 - n23))))) (ares_1 rfl (oneT rfl)) rfl H
theorem S52_0_ok (Q : Bool → AW → Prop) (E : List PanicEntry → AW → Prop)  (ρ : Env) (h_0 : Value) (n_1 : Int) (roots_2 : Value) (aw : AW) (h0 : ρ 0 = h_0) (h1 : ρ 1 = .int .i64 n_1) (h2 : ρ 2 = roots_2) (H : S52_0 Q E  h_0 n_1 roots_2 aw) :
    AGo prog 34 [.code C52_0] ρ [] aw (RR prog f52 34 sh52 Q E) := by
  unfold S52_0 at H
  refine ago_seqE E52_0 ?_
  refine ago_regE E52_1 (l := [0]) rfl ?_
  refine lk (dt := some 6) R52_0_N rfl rfl rfl (opv_assign rfl rfl rfl) ?_
  refine aops_nil ?_
  refine ago_seqE E52_2 ?_
  refine ago_seqE E52_3 ?_
  obtain ⟨hp29, H⟩ := H
  obtain ⟨b31, i32, p30, hp33, hv34, H⟩ := H
  obtain ⟨b35, i36, x38, hp37, hg39, H⟩ := H
  obtain ⟨hp40, H⟩ := H
  obtain ⟨b42, i43, p41, hp44, hv45, H⟩ := H
  obtain ⟨b46, i47, x49, hp48, hg50, H⟩ := H
  obtain ⟨q52, l53, c54, n51, hv55, hn56, H⟩ := H
  refine ago_drawH (p := [0, 1, 2, 3, 4, 5, 6, 7, 8, 9, 10, 11]) (tl := []) (hv := [(0, Value.int .i64 n_1), (1, h_0), (2, h_0), (3, p30), (4, Value.int .i64 x38), (5, h_0), (6, h_0), (7, p41), (8, x49), (9, Value.int .i64 n51), (10, Value.int .i64 (IntKind.i64.wrap (x38 - n51))), (11, Value.bool (decide ((IntKind.i64.wrap (x38 - n51)) < n_1)))]) E52_4 mixed R52_1_N R52_1_O rfl (pv_cons rfl (pv_cons rfl (pv_cons rfl (pv_cons rfl (pv_cons rfl (pv_cons rfl (pv_cons rfl (pv_cons rfl (pv_cons rfl (pv_cons rfl (pv_cons rfl (pv_cons rfl (pv_nil _)))))))))))))
    (ffc (d := 7) (v := .int .i64 n_1) (hd_v rfl fun ρ hρ => ⟨rfl, opv_move rfl rfl ((hρ 1 (lmem rfl)).trans h1)⟩) rfl rfl
    (ffc (d := 8) (v := h_0) (hd_v rfl fun ρ hρ => ⟨rfl, opv_move rfl rfl ((hρ 0 (lmem rfl)).trans h0)⟩) rfl rfl
    (ffc (d := 9) (v := h_0) (hd_v rfl fun ρ hρ => ⟨rfl, ov_nck rfl rfl ((hρ 8 (lmem rfl)).trans rfl) hp29⟩) rfl rfl
    (ffc (d := 10) (v := p30) (hd_v rfl fun ρ hρ => ⟨rfl, ov_fldA rfl rfl underlying100 rfl sz3 (by decide) ((hρ 9 (lmem rfl)).trans rfl) hp33 rfl hv34⟩) rfl rfl
    (ffc (d := 11) (v := .int .i64 x38) (hd_v rfl fun ρ hρ => ⟨rfl, ov_ldI rfl underlying3 rfl ((hρ 10 (lmem rfl)).trans rfl) hp37 hg39⟩) rfl rfl
    (ffc (d := 12) (v := h_0) (hd_v rfl fun ρ hρ => ⟨rfl, opv_move rfl rfl ((hρ 0 (lmem rfl)).trans h0)⟩) rfl rfl
    (ffc (d := 13) (v := h_0) (hd_v rfl fun ρ hρ => ⟨rfl, ov_nck rfl rfl ((hρ 12 (lmem rfl)).trans rfl) hp40⟩) rfl rfl
    (ffc (d := 14) (v := p41) (hd_v rfl fun ρ hρ => ⟨rfl, ov_fldA rfl rfl underlying100 rfl sz62 (by decide) ((hρ 13 (lmem rfl)).trans rfl) hp44 rfl hv45⟩) rfl rfl
    (ffc (d := 15) (v := x49) (hd_v rfl fun ρ hρ => ⟨rfl, ov_ldV rfl underlying62 rfl rfl ((hρ 14 (lmem rfl)).trans rfl) hp48 hg50⟩) rfl rfl
    (ffc (d := 16) (v := .int .i64 n51) (hd_v rfl fun ρ hρ => ⟨rfl, ov_len rfl rfl rfl underlying62 ((hρ 15 (lmem rfl)).trans rfl) hv55 hn56⟩) rfl rfl
    (ffc (d := 17) (v := .int .i64 (IntKind.i64.wrap (x38 - n51))) (hd_v rfl fun ρ hρ => ⟨rfl, opv_sub rfl rfl rfl ((hρ 11 (lmem rfl)).trans rfl) ((hρ 16 (lmem rfl)).trans rfl)⟩) rfl rfl
    (ffc (d := 18) (v := .bool (decide ((IntKind.i64.wrap (x38 - n51)) < n_1))) (hd_v rfl fun ρ hρ => ⟨rfl, opv_gt rfl rfl rfl ((hρ 7 (lmem rfl)).trans rfl) ((hρ 17 (lmem rfl)).trans rfl)⟩) rfl rfl
    ffn)))))))))))) ?_
  refine lt_end ?_
  refine ago_condE  E52_5 rfl rfl (fun hb57 => ?_) (fun hb57 => ?_)
  · replace H := cnd_t H hb57
    refine ago_cut (fun ρ => ρ 0 = h_0 ∧ ρ 1 = .int .i64 n_1 ∧ ρ 2 = roots_2 ∧ True) ⟨h0, h1, h2, trivial⟩ (fun ρ ⟨h0, h1, h2, _⟩ => ?_)
    refine ago_regE E52_6 (l := [0, 1, 2]) rfl ?_
    refine lk (dt := some 19) R52_2_N rfl rfl rfl (opv_move rfl rfl h0) ?_
    refine lk (dt := some 20) R52_2_N rfl rfl rfl (opv_move rfl rfl h2) ?_
    refine lk_call (dt := some 21) R52_2_N rfl rfl rfl (opc_of rfl rfl is48 (ma_cons rfl (ma_cons rfl rfl))) H (fun _ _ h => ⟨rfl, h⟩) fun r58 aw59 H => ?_
    refine aops_nil ?_
    exact S52_1_ok Q E  _ h_0 n_1 aw59 h0 h1 H
  · replace H := cnd_f H hb57
    refine ago_skipE E52_7 ?_
    exact S52_1_ok Q E  _ h_0 n_1 aw h0 h1 H
theorem F52_ok {Q : Bool → AW → Prop} {E : List PanicEntry → AW → Prop} (h_0 : Value) (n_1 : Int) (roots_2 : Value) (aw : AW) (H : S52_0 Q E h_0 n_1 roots_2 aw) : CallP prog 52 [h_0, .int .i64 n_1, roots_2] aw sh52 Q E :=
  callP_of func52 C52_is rfl (Nat.le_of_ble_eq_true rfl) (S52_0_ok Q E _ h_0 n_1 roots_2 aw rfl rfl rfl H)
def C53_0 : Code := bodyOf f53
theorem C53_is : f53.body = some C53_0 := by kernel_rfl
def C53_1 : Code := cl C53_0
def R53_0 : Array Oper := regOps C53_1
def C53_2 : Code := cr C53_0
def C53_3 : Code := cl C53_2
def C53_4 : Code := cl C53_3
def R53_1 : Array Oper := regOps C53_4
def C53_5 : Code := cr C53_3
def C53_6 : Code := cl C53_5
def C53_7 : Code := cl C53_6
def R53_2 : Array Oper := regOps C53_7
def C53_8 : Code := cr C53_6
def C53_9 : Code := cr C53_5
def C53_10 : Code := cr C53_2
def C53_11 : Code := cl C53_10
def R53_3 : Array Oper := regOps C53_11
def C53_12 : Code := cr C53_10
theorem R53_0_N : dstsOk 13 R53_0 = true := by decide +kernel
theorem E53_1 : C53_1 = .region 0 R53_0 false := rfl
theorem R53_1_N : dstsOk 13 R53_1 = true := by decide +kernel
theorem E53_4 : C53_4 = .region 1 R53_1 false := rfl
theorem R53_2_N : dstsOk 13 R53_2 = true := by decide +kernel
theorem E53_7 : C53_7 = .region 2 R53_2 false := rfl
theorem E53_8 : C53_8 = .ret := rfl
theorem E53_6 : C53_6 = .seq C53_7 C53_8 := rfl
theorem E53_9 : C53_9 = .skip := rfl
theorem E53_5 : C53_5 = .cond (.tmp 6) C53_6 C53_9 := rfl
theorem E53_3 : C53_3 = .seq C53_4 C53_5 := rfl
theorem R53_3_N : dstsOk 13 R53_3 = true := by decide +kernel
theorem E53_11 : C53_11 = .region 3 R53_3 false := rfl
theorem E53_12 : C53_12 = .ret := rfl
theorem E53_10 : C53_10 = .seq C53_11 C53_12 := rfl
theorem E53_2 : C53_2 = .seq C53_3 C53_10 := rfl
theorem E53_0 : C53_0 = .seq C53_1 C53_2 := rfl
def S53_0 (Q : Int → AW → Prop) (E : List PanicEntry → AW → Prop)  (kind_0 : Int) (n_1 : Int) (aw : AW) : Prop :=
  cnd (decide (kind_0 = 3)) (Q (IntKind.i64.wrap (1 + (IntKind.i64.wrap (Int.tdiv (IntKind.i64.wrap (n_1 + 7)) 8)))) aw) (Q (IntKind.i64.wrap (1 + n_1)) aw)
theorem S53_0_ok (Q : Int → AW → Prop) (E : List PanicEntry → AW → Prop)  (ρ : Env) (kind_0 : Int) (n_1 : Int) (aw : AW) (h0 : ρ 0 = .int .u8 kind_0) (h1 : ρ 1 = .int .i64 n_1) (H : S53_0 Q E  kind_0 n_1 aw) :
    AGo prog 13 [.code C53_0] ρ [] aw (RR prog f53 13 sh53 Q E) := by
  unfold S53_0 at H
  refine ago_seqE E53_0 ?_
  refine ago_regE E53_1 (l := [0]) rfl ?_
  refine lk (dt := some 4) R53_0_N rfl rfl rfl (opv_assign rfl rfl rfl) ?_
  refine aops_nil ?_
  refine ago_seqE E53_2 ?_
  refine ago_seqE E53_3 ?_
  refine ago_regE E53_4 (l := [0, 1]) rfl ?_
  refine lk (dt := some 5) R53_1_N rfl rfl rfl (opv_move rfl rfl h0) ?_
  refine lk (dt := some 6) R53_1_N rfl rfl rfl (opv_eqI rfl rfl rfl rfl rfl) ?_
  refine aops_nil ?_
  refine ago_condE  E53_5 rfl rfl (fun hb1 => ?_) (fun hb1 => ?_)
  · replace H := cnd_t H hb1
    refine ago_seqE E53_6 ?_
    refine ago_regE E53_7 (l := [0, 1, 2, 3, 4]) rfl ?_
    refine lk (dt := some 7) R53_2_N rfl rfl rfl (opv_move rfl rfl h1) ?_
    refine lk (dt := some 8) R53_2_N rfl rfl rfl (opv_add rfl rfl rfl rfl rfl) ?_
    refine lk (dt := some 9) R53_2_N rfl rfl rfl (opv_quo rfl rfl rfl rfl rfl (by decide)) ?_
    refine lk (dt := some 10) R53_2_N rfl rfl rfl (opv_add rfl rfl rfl rfl rfl) ?_
    refine lk (dt := some 4) R53_2_N rfl rfl rfl (opv_assign rfl rfl rfl) ?_
    refine aops_nil ?_
    exact ago_retE E53_8 (r := (IntKind.i64.wrap (1 + (IntKind.i64.wrap (Int.tdiv (IntKind.i64.wrap (n_1 + 7)) 8))))) (ares_1 rfl (oneT rfl)) rfl H
  · replace H := cnd_f H hb1
    refine ago_skipE E53_9 ?_
    refine ago_seqE E53_10 ?_
    refine ago_regE E53_11 (l := [0, 1, 2]) rfl ?_
    refine lk (dt := some 11) R53_3_N rfl rfl rfl (opv_move rfl rfl h1) ?_
    refine lk (dt := some 12) R53_3_N rfl rfl rfl (opv_add rfl rfl rfl rfl rfl) ?_
    refine lk (dt := some 4) R53_3_N rfl rfl rfl (opv_assign rfl rfl rfl) ?_
    refine aops_nil ?_
    exact ago_retE E53_12 (r := (IntKind.i64.wrap (1 + n_1))) (ares_1 rfl (oneT rfl)) rfl H
theorem F53_ok {Q : Int → AW → Prop} {E : List PanicEntry → AW → Prop} (kind_0 : Int) (n_1 : Int) (aw : AW) (H : S53_0 Q E kind_0 n_1 aw) : CallP prog 53 [.int .u8 kind_0, .int .i64 n_1] aw sh53 Q E :=
  callP_of func53 C53_is rfl (Nat.le_of_ble_eq_true rfl) (S53_0_ok Q E _ kind_0 n_1 aw rfl rfl H)
def C54_0 : Code := bodyOf f54
theorem C54_is : f54.body = some C54_0 := by kernel_rfl
def C54_1 : Code := cl C54_0
def R54_0 : Array Oper := regOps C54_1
def C54_2 : Code := cr C54_0
def C54_3 : Code := cl C54_2
def R54_1 : Array Oper := regOps C54_3
def C54_4 : Code := cr C54_2
theorem R54_0_N : dstsOk 11 R54_0 = true := by decide +kernel
theorem E54_1 : C54_1 = .region 0 R54_0 false := rfl
theorem R54_1_N : dstsOk 11 R54_1 = true := by decide +kernel
theorem E54_3 : C54_3 = .region 1 R54_1 false := rfl
theorem E54_4 : C54_4 = .ret := rfl
theorem E54_2 : C54_2 = .seq C54_3 C54_4 := rfl
theorem E54_0 : C54_0 = .seq C54_1 C54_2 := rfl
def S54_0 (Q : Int → AW → Prop) (E : List PanicEntry → AW → Prop)  (kind_0 : Int) (n_1 : Int) (aw : AW) : Prop :=
  Q (bitsOf .or .u64 (IntKind.u64.wrap ((IntKind.u64.wrap n_1) * 2 ^ (min (8 : Int).toNat IntKind.u64.bits))) (IntKind.u64.wrap kind_0)) aw
theorem S54_0_ok (Q : Int → AW → Prop) (E : List PanicEntry → AW → Prop)  (ρ : Env) (kind_0 : Int) (n_1 : Int) (aw : AW) (h0 : ρ 0 = .int .u8 kind_0) (h1 : ρ 1 = .int .i64 n_1) (H : S54_0 Q E  kind_0 n_1 aw) :
    AGo prog 11 [.code C54_0] ρ [] aw (RR prog f54 11 sh54 Q E) := by
  unfold S54_0 at H
  refine ago_seqE E54_0 ?_
  refine ago_regE E54_1 (l := [0]) rfl ?_
  refine lk (dt := some 4) R54_0_N rfl rfl rfl (opv_assign rfl rfl rfl) ?_
  refine aops_nil ?_
  refine ago_seqE E54_2 ?_
  refine ago_regE E54_3 (l := [0, 1, 2, 3, 4, 5, 6]) rfl ?_
  refine lk (dt := some 5) R54_1_N rfl rfl rfl (opv_move rfl rfl h1) ?_
  refine lk (dt := some 6) R54_1_N rfl rfl rfl (opv_conv rfl rfl underlying3 underlying26 rfl) ?_
  refine lk (dt := some 7) R54_1_N rfl rfl rfl (opv_shl rfl rfl rfl rfl rfl (by decide)) ?_
  refine lk (dt := some 8) R54_1_N rfl rfl rfl (opv_move rfl rfl h0) ?_
  refine lk (dt := some 9) R54_1_N rfl rfl rfl (opv_conv rfl rfl underlying5 underlying26 rfl) ?_
  refine lk (dt := some 10) R54_1_N rfl rfl rfl (opv_or rfl rfl rfl rfl rfl) ?_
  refine lk (dt := some 4) R54_1_N rfl rfl rfl (opv_assign rfl rfl rfl) ?_
  refine aops_nil ?_
  exact ago_retE E54_4 (r := (bitsOf .or .u64 (IntKind.u64.wrap ((IntKind.u64.wrap n_1) * 2 ^ (min (8 : Int).toNat IntKind.u64.bits))) (IntKind.u64.wrap kind_0))) (ares_1 rfl (oneT rfl)) rfl H
theorem F54_ok {Q : Int → AW → Prop} {E : List PanicEntry → AW → Prop} (kind_0 : Int) (n_1 : Int) (aw : AW) (H : S54_0 Q E kind_0 n_1 aw) : CallP prog 54 [.int .u8 kind_0, .int .i64 n_1] aw sh54 Q E :=
  callP_of func54 C54_is rfl (Nat.le_of_ble_eq_true rfl) (S54_0_ok Q E _ kind_0 n_1 aw rfl rfl H)
def C23_0 : Code := bodyOf f23
theorem C23_is : f23.body = some C23_0 := by kernel_rfl
def C23_1 : Code := cl C23_0
def R23_0 : Array Oper := regOps C23_1
def C23_2 : Code := cr C23_0
def C23_3 : Code := cl C23_2
def C23_4 : Code := cl C23_3
def R23_1 : Array Oper := regOps C23_4
def C23_5 : Code := cr C23_3
def C23_6 : Code := cl C23_5
def C23_7 : Code := cl C23_6
def R23_2 : Array Oper := regOps C23_7
def C23_8 : Code := cr C23_6
def C23_9 : Code := cr C23_5
def C23_10 : Code := cr C23_2
def C23_11 : Code := cl C23_10
def R23_3 : Array Oper := regOps C23_11
def C23_12 : Code := cr C23_10
theorem R23_0_N : dstsOk 10 R23_0 = true := by decide +kernel
theorem E23_1 : C23_1 = .region 0 R23_0 false := rfl
theorem R23_1_N : dstsOk 10 R23_1 = true := by decide +kernel
theorem E23_4 : C23_4 = .region 1 R23_1 false := rfl
theorem R23_2_N : dstsOk 10 R23_2 = true := by decide +kernel
theorem E23_7 : C23_7 = .region 2 R23_2 false := rfl
theorem E23_8 : C23_8 = .ret := rfl
theorem E23_6 : C23_6 = .seq C23_7 C23_8 := rfl
theorem E23_9 : C23_9 = .skip := rfl
theorem E23_5 : C23_5 = .cond (.tmp 4) C23_6 C23_9 := rfl
theorem E23_3 : C23_3 = .seq C23_4 C23_5 := rfl
theorem R23_3_N : dstsOk 10 R23_3 = true := by decide +kernel
theorem E23_11 : C23_11 = .region 3 R23_3 false := rfl
theorem E23_12 : C23_12 = .ret := rfl
theorem E23_10 : C23_10 = .seq C23_11 C23_12 := rfl
theorem E23_2 : C23_2 = .seq C23_3 C23_10 := rfl
theorem E23_0 : C23_0 = .seq C23_1 C23_2 := rfl
def S23_0 (Q : Int → AW → Prop) (E : List PanicEntry → AW → Prop)  (h_0 : Value) (aw : AW) : Prop :=
  nilB (.pointer 100) h_0 (.pointer none) fun q1 =>
  cnd q1 (Q 0 aw) (nck h_0 (fldA h_0 0 fun p6 =>
  ldV aw p6 fun x14 =>
  slen x14 fun n16 =>
  Q n16 aw))
theorem S23_0_ok (Q : Int → AW → Prop) (E : List PanicEntry → AW → Prop)  (ρ : Env) (h_0 : Value) (aw : AW) (h0 : ρ 0 = h_0) (H : S23_0 Q E  h_0 aw) :
    AGo prog 10 [.code C23_0] ρ [] aw (RR prog f23 10 sh23 Q E) := by
  unfold S23_0 at H
  refine ago_seqE E23_0 ?_
  refine ago_regE E23_1 (l := [0]) rfl ?_
  refine lk (dt := some 2) R23_0_N rfl rfl rfl (opv_assign rfl rfl rfl) ?_
  refine aops_nil ?_
  refine ago_seqE E23_2 ?_
  refine ago_seqE E23_3 ?_
  refine ago_regE E23_4 (l := [0, 1]) rfl ?_
  refine lk (dt := some 3) R23_1_N rfl rfl rfl (opv_move rfl rfl h0) ?_
  obtain ⟨q1, hf2, hq3, H⟩ := H
  refine lk (dt := some 4) R23_1_N rfl rfl rfl (ov_eqNil rfl rfl underlying50 rfl hf2 hq3) ?_
  refine aops_nil ?_
  refine ago_condE  E23_5 rfl rfl (fun hb4 => ?_) (fun hb4 => ?_)
  · replace H := cnd_t H hb4
    refine ago_seqE E23_6 ?_
    refine ago_regE E23_7 (l := [0]) rfl ?_
    refine lk (dt := some 2) R23_2_N rfl rfl rfl (opv_assign rfl rfl rfl) ?_
    refine aops_nil ?_
    exact ago_retE E23_8 (r := 0) (ares_1 rfl (oneT rfl)) rfl H
  · replace H := cnd_f H hb4
    refine ago_skipE E23_9 ?_
    refine ago_seqE E23_10 ?_
    refine ago_regE E23_11 (l := [0, 1, 2, 3, 4, 5]) rfl ?_
    refine lk (dt := some 5) R23_3_N rfl rfl rfl (opv_move rfl rfl h0) ?_
    obtain ⟨hp5, H⟩ := H
    refine lk (dt := some 6) R23_3_N rfl rfl rfl (ov_nck rfl rfl rfl hp5) ?_
    obtain ⟨b7, i8, p6, hp9, hv10, H⟩ := H
    refine lk (dt := some 7) R23_3_N rfl rfl rfl (ov_fldA rfl rfl underlying100 rfl sz62 (by decide) rfl hp9 rfl hv10) ?_
    obtain ⟨b11, i12, x14, hp13, hg15, H⟩ := H
    refine lk (dt := some 8) R23_3_N rfl rfl rfl (ov_ldV rfl underlying62 rfl rfl rfl hp13 hg15) ?_
    obtain ⟨q17, l18, c19, n16, hv20, hn21, H⟩ := H
    refine lk (dt := some 9) R23_3_N rfl rfl rfl (ov_len rfl rfl rfl underlying62 rfl hv20 hn21) ?_
    refine lk (dt := some 2) R23_3_N rfl rfl rfl (opv_assign rfl rfl rfl) ?_
    refine aops_nil ?_
    exact ago_retE E23_12 (r := n16) (ares_1 rfl (oneT rfl)) rfl H
theorem F23_ok {Q : Int → AW → Prop} {E : List PanicEntry → AW → Prop} (h_0 : Value) (aw : AW) (H : S23_0 Q E h_0 aw) : CallP prog 23 [h_0] aw sh23 Q E :=
  callP_of func23 C23_is rfl (Nat.le_of_ble_eq_true rfl) (S23_0_ok Q E _ h_0 aw rfl H)
def C80_0 : Code := bodyOf f80
theorem C80_is : f80.body = some C80_0 := by kernel_rfl
def C80_1 : Code := cl C80_0
def R80_0 : Array Oper := regOps C80_1
def C80_2 : Code := cr C80_0
def C80_3 : Code := cl C80_2
def C80_4 : Code := cl C80_3
def R80_1 : Array Oper := regOps C80_4
def C80_5 : Code := cr C80_3
def C80_6 : Code := cl C80_5
def C80_7 : Code := cl C80_6
def R80_2 : Array Oper := regOps C80_7
def C80_8 : Code := cr C80_6
def C80_9 : Code := cr C80_5
def C80_10 : Code := cr C80_2
def C80_11 : Code := cl C80_10
def R80_3 : Array Oper := regOps C80_11
def C80_12 : Code := cr C80_10
theorem R80_0_N : dstsOk 35 R80_0 = true := by decide +kernel
theorem E80_1 : C80_1 = .region 0 R80_0 false := rfl
theorem R80_1_N : dstsOk 35 R80_1 = true := by decide +kernel
theorem E80_4 : C80_4 = .region 1 R80_1 false := rfl
theorem R80_2_N : dstsOk 35 R80_2 = true := by decide +kernel
theorem E80_7 : C80_7 = .region 2 R80_2 false := rfl
theorem E80_8 : C80_8 = .ret := rfl
theorem E80_6 : C80_6 = .seq C80_7 C80_8 := rfl
theorem E80_9 : C80_9 = .skip := rfl
theorem E80_5 : C80_5 = .cond (.tmp 22) C80_6 C80_9 := rfl
theorem E80_3 : C80_3 = .seq C80_4 C80_5 := rfl
theorem R80_3_N : dstsOk 35 R80_3 = true := by decide +kernel
theorem R80_3_O : linOk R80_3 [0, 1, 2, 3, 4, 5, 8] [(6, [0, 1, 2, 3, 8], [7, 9, 10, 11, 12, 13])] = true := by decide +kernel
theorem E80_11 : C80_11 = .region 3 R80_3 true := rfl
theorem E80_12 : C80_12 = .ret := rfl
theorem E80_10 : C80_10 = .seq C80_11 C80_12 := rfl
theorem E80_2 : C80_2 = .seq C80_3 C80_10 := rfl
theorem E80_0 : C80_0 = .seq C80_1 C80_2 := rfl
def S80_0 (Q : (Int × Int) → AW → Prop) (E : List PanicEntry → AW → Prop)  (h_0 : Value) (w_1 : Int) (i_2 : Int) (aw : AW) : Prop :=
  cnd (decide (i_2 < 0)) (Q (0, 1) aw) (CallP prog 39 [h_0, .int .u64 w_1] aw sh39 (fun r3 aw4 =>
  cnd (decide (r3 ≤ i_2)) (Q (0, 1) aw4) (CallP prog 38 [h_0, .int .u64 w_1] aw4 sh38 (fun r7 aw8 =>
  cnd (decide (r7 = 3)) (Q (0, 1) aw8) (nck h_0 (fldA h_0 0 fun p11 =>
  ldV aw8 p11 fun x19 =>
  CallP prog 41 [h_0, .int .u64 w_1] aw8 sh41 (fun r21 aw22 =>
  again1 aw22 p11 (x19) ∧ ixS x19 (IntKind.i64.wrap ((IntKind.i64.wrap (r21 + 1)) + i_2)) 1 fun p23 =>
  ldI .u64 aw22 p23 fun x35 =>
  Q (x35, 0) aw22) E))) E)) E)
theorem S80_0_ok (Q : (Int × Int) → AW → Prop) (E : List PanicEntry → AW → Prop)  (ρ : Env) (h_0 : Value) (w_1 : Int) (i_2 : Int) (aw : AW) (h0 : ρ 0 = h_0) (h1 : ρ 1 = .int .u64 w_1) (h2 : ρ 2 = .int .i64 i_2) (H : S80_0 Q E  h_0 w_1 i_2 aw) :
    AGo prog 35 [.code C80_0] ρ [] aw (RR prog f80 35 sh80 Q E) := by
  unfold S80_0 at H
  refine ago_seqE E80_0 ?_
  refine ago_regE E80_1 (l := [0, 1]) rfl ?_
  refine lk (dt := some 6) R80_0_N rfl rfl rfl (opv_assign rfl rfl rfl) ?_
  refine lk (dt := some 7) R80_0_N rfl rfl rfl (opv_assign rfl rfl rfl) ?_
  refine aops_nil ?_
  refine ago_seqE E80_2 ?_
  refine ago_seqE E80_3 ?_
  refine ago_regE E80_4 (l := [0, 1, 2, 3, 4, 5, 6, 7, 8, 9, 10, 11, 12, 13, 14]) rfl ?_
  refine lk (dt := some 8) R80_1_N rfl rfl rfl (opv_move rfl rfl h2) ?_
  refine lk (dt := some 9) R80_1_N rfl rfl rfl (opv_lt rfl rfl rfl rfl rfl) ?_
  refine lk (dt := some 10) R80_1_N rfl rfl rfl (opv_move rfl rfl rfl) ?_
  rcases Bool.eq_false_or_eq_true (decide (i_2 < 0)) with hb1 | hb1
  · replace H := cnd_t H hb1
    refine lk_skip (dt := some 11) R80_1_N rfl rfl ⟨_, rfl, .inl ⟨_, rfl, gq hb1 rfl⟩⟩ ?_
    refine lk_skip (dt := some 12) R80_1_N rfl rfl ⟨_, rfl, .inl ⟨_, rfl, gq hb1 rfl⟩⟩ ?_
    refine lk_skip (dt := some 13) R80_1_N rfl rfl ⟨_, rfl, .inl ⟨_, rfl, gq hb1 rfl⟩⟩ ?_
    refine lk_skip (dt := some 14) R80_1_N rfl rfl ⟨_, rfl, .inl ⟨_, rfl, gq hb1 rfl⟩⟩ ?_
    refine lk_skip (dt := some 15) R80_1_N rfl rfl ⟨_, rfl, .inl ⟨_, rfl, gq hb1 rfl⟩⟩ ?_
    refine lk (dt := some 16) R80_1_N rfl rfl rfl (ov_pickT rfl rfl rfl rfl rfl hb1 rfl) ?_
    refine lk (dt := some 17) R80_1_N rfl rfl rfl (opv_move rfl rfl rfl) ?_
    refine lk_skip (dt := some 18) R80_1_N rfl rfl ⟨_, rfl, .inl ⟨_, rfl, gq rfl rfl⟩⟩ ?_
    refine lk_skip (dt := some 19) R80_1_N rfl rfl ⟨_, rfl, .inl ⟨_, rfl, gq rfl rfl⟩⟩ ?_
    refine lk_skip (dt := some 20) R80_1_N rfl rfl ⟨_, rfl, .inl ⟨_, rfl, gq rfl rfl⟩⟩ ?_
    refine lk_skip (dt := some 21) R80_1_N rfl rfl ⟨_, rfl, .inl ⟨_, rfl, gq rfl rfl⟩⟩ ?_
    refine lk (dt := some 22) R80_1_N rfl rfl rfl (ov_pickT rfl rfl rfl rfl rfl rfl rfl) ?_
    refine aops_nil ?_
    refine ago_condE  E80_5 rfl rfl (fun h => ?_) (fun h => tf h)
    refine ago_seqE E80_6 ?_
    refine ago_regE E80_7 (l := [0, 1]) rfl ?_
    refine lk (dt := some 6) R80_2_N rfl rfl rfl (opv_assign rfl rfl rfl) ?_
    refine lk (dt := some 7) R80_2_N rfl rfl rfl (opv_assign rfl rfl rfl) ?_
    refine aops_nil ?_
    exact ago_retE E80_8 (r := (0, 1)) (ares_2 rfl (oneT rfl) (oneT rfl)) rfl H
  · replace H := cnd_f H hb1
    refine lk (dt := some 11) R80_1_N rfl rfl ⟨_, rfl, .inl ⟨_, rfl, gq hb1 rfl⟩⟩ (opv_move rfl rfl h2) ?_
    refine lk (dt := some 12) R80_1_N rfl rfl ⟨_, rfl, .inl ⟨_, rfl, gq hb1 rfl⟩⟩ (opv_move rfl rfl h0) ?_
    refine lk (dt := some 13) R80_1_N rfl rfl ⟨_, rfl, .inl ⟨_, rfl, gq hb1 rfl⟩⟩ (opv_move rfl rfl h1) ?_
    refine lk_call (dt := some 14) R80_1_N rfl rfl ⟨_, rfl, .inl ⟨_, rfl, gq hb1 rfl⟩⟩ (opc_of rfl rfl is39 (ma_cons rfl (ma_cons rfl rfl))) H (fun _ _ h => ⟨rfl, h⟩) fun r3 aw4 H => ?_
    refine lk (dt := some 15) R80_1_N rfl rfl ⟨_, rfl, .inl ⟨_, rfl, gq hb1 rfl⟩⟩ (opv_ge rfl rfl rfl rfl rfl) ?_
    refine lk (dt := some 16) R80_1_N rfl rfl rfl (ov_pickF rfl rfl rfl rfl rfl hb1 rfl) ?_
    refine lk (dt := some 17) R80_1_N rfl rfl rfl (opv_move rfl rfl rfl) ?_
    rcases Bool.eq_false_or_eq_true (decide (r3 ≤ i_2)) with hb5 | hb5
    · replace H := cnd_t H hb5
      refine lk_skip (dt := some 18) R80_1_N rfl rfl ⟨_, rfl, .inl ⟨_, rfl, gq hb5 rfl⟩⟩ ?_
      refine lk_skip (dt := some 19) R80_1_N rfl rfl ⟨_, rfl, .inl ⟨_, rfl, gq hb5 rfl⟩⟩ ?_
      refine lk_skip (dt := some 20) R80_1_N rfl rfl ⟨_, rfl, .inl ⟨_, rfl, gq hb5 rfl⟩⟩ ?_
      refine lk_skip (dt := some 21) R80_1_N rfl rfl ⟨_, rfl, .inl ⟨_, rfl, gq hb5 rfl⟩⟩ ?_
      refine lk (dt := some 22) R80_1_N rfl rfl rfl (ov_pickT rfl rfl rfl rfl rfl hb5 rfl) ?_
      refine aops_nil ?_
      refine ago_condE  E80_5 rfl rfl (fun h => ?_) (fun h => tf h)
      refine ago_seqE E80_6 ?_
      refine ago_regE E80_7 (l := [0, 1]) rfl ?_
      refine lk (dt := some 6) R80_2_N rfl rfl rfl (opv_assign rfl rfl rfl) ?_
      refine lk (dt := some 7) R80_2_N rfl rfl rfl (opv_assign rfl rfl rfl) ?_
      refine aops_nil ?_
      exact ago_retE E80_8 (r := (0, 1)) (ares_2 rfl (oneT rfl) (oneT rfl)) rfl H
    · replace H := cnd_f H hb5
      refine lk (dt := some 18) R80_1_N rfl rfl ⟨_, rfl, .inl ⟨_, rfl, gq hb5 rfl⟩⟩ (opv_move rfl rfl h0) ?_
      refine lk (dt := some 19) R80_1_N rfl rfl ⟨_, rfl, .inl ⟨_, rfl, gq hb5 rfl⟩⟩ (opv_move rfl rfl h1) ?_
      refine lk_call (dt := some 20) R80_1_N rfl rfl ⟨_, rfl, .inl ⟨_, rfl, gq hb5 rfl⟩⟩ (opc_of rfl rfl is38 (ma_cons rfl (ma_cons rfl rfl))) H (fun _ _ h => ⟨rfl, h⟩) fun r7 aw8 H => ?_
      refine lk (dt := some 21) R80_1_N rfl rfl ⟨_, rfl, .inl ⟨_, rfl, gq hb5 rfl⟩⟩ (opv_eqI rfl rfl rfl rfl rfl) ?_
      refine lk (dt := some 22) R80_1_N rfl rfl rfl (ov_pickF rfl rfl rfl rfl rfl hb5 rfl) ?_
      refine aops_nil ?_
      refine ago_condE  E80_5 rfl rfl (fun hb9 => ?_) (fun hb9 => ?_)
      · replace H := cnd_t H hb9
        refine ago_seqE E80_6 ?_
        refine ago_regE E80_7 (l := [0, 1]) rfl ?_
        refine lk (dt := some 6) R80_2_N rfl rfl rfl (opv_assign rfl rfl rfl) ?_
        refine lk (dt := some 7) R80_2_N rfl rfl rfl (opv_assign rfl rfl rfl) ?_
        refine aops_nil ?_
        exact ago_retE E80_8 (r := (0, 1)) (ares_2 rfl (oneT rfl) (oneT rfl)) rfl H
      · replace H := cnd_f H hb9
        refine ago_skipE E80_9 ?_
        refine ago_seqE E80_10 ?_
        refine ago_cut (fun ρ => ρ 0 = h_0 ∧ ρ 1 = .int .u64 w_1 ∧ ρ 2 = .int .i64 i_2 ∧ True) ⟨h0, h1, h2, trivial⟩ (fun ρ ⟨h0, h1, h2, _⟩ => ?_)
        obtain ⟨hp10, H⟩ := H
        obtain ⟨b12, i13, p11, hp14, hv15, H⟩ := H
        obtain ⟨b16, i17, x19, hp18, hg20, H⟩ := H
        refine ago_drawH (p := [0, 1, 2, 3, 4, 5, 8]) (tl := [(6, [0, 1, 2, 3, 8], [7, 9, 10, 11, 12, 13])]) (hv := [(0, h_0), (1, h_0), (2, p11), (3, x19), (4, h_0), (5, Value.int .u64 w_1), (8, Value.int .i64 i_2)]) E80_11 mixed R80_3_N R80_3_O rfl (pv_cons rfl (pv_cons rfl (pv_cons rfl (pv_cons rfl (pv_cons rfl (pv_cons rfl (pv_cons rfl (pv_nil _))))))))
          (ffc (d := 23) (v := h_0) (hd_v rfl fun ρ hρ => ⟨rfl, opv_move rfl rfl ((hρ 0 (lmem rfl)).trans h0)⟩) rfl rfl
          (ffc (d := 24) (v := h_0) (hd_v rfl fun ρ hρ => ⟨rfl, ov_nck rfl rfl ((hρ 23 (lmem rfl)).trans rfl) hp10⟩) rfl rfl
          (ffc (d := 25) (v := p11) (hd_v rfl fun ρ hρ => ⟨rfl, ov_fldA rfl rfl underlying100 rfl sz62 (by decide) ((hρ 24 (lmem rfl)).trans rfl) hp14 rfl hv15⟩) rfl rfl
          (ffc (d := 26) (v := x19) (hd_v rfl fun ρ hρ => ⟨rfl, ov_ldV rfl underlying62 rfl rfl ((hρ 25 (lmem rfl)).trans rfl) hp18 hg20⟩) rfl rfl
          (ffc (d := 27) (v := h_0) (hd_v rfl fun ρ hρ => ⟨rfl, opv_move rfl rfl ((hρ 0 (lmem rfl)).trans h0)⟩) rfl rfl
          (ffc (d := 28) (v := .int .u64 w_1) (hd_v rfl fun ρ hρ => ⟨rfl, opv_move rfl rfl ((hρ 1 (lmem rfl)).trans h1)⟩) rfl rfl
          (ffc (d := 31) (v := .int .i64 i_2) (hd_v rfl fun ρ hρ => ⟨rfl, opv_move rfl rfl ((hρ 2 (lmem rfl)).trans h2)⟩) rfl rfl
          ffn))))))) ?_
        refine lt_call (dt := some 29) rfl rfl (fun ρ hρ => ⟨rfl, opc_of rfl rfl is41 (ma_cons ((hρ 27 (lmem rfl)).trans rfl) (ma_cons ((hρ 28 (lmem rfl)).trans rfl) rfl))⟩) H (fun _ _ h _ => ⟨rfl, h⟩) fun r21 aw22 H => ?_
        obtain ⟨hg20, H⟩ := H
        replace hg20 := hg20 _ _ hp18
        obtain ⟨b24, i25, l26, c27, p23, hp28, h029, hj30, hv31, H⟩ := H
        obtain ⟨b32, i33, x35, hp34, hg36, H⟩ := H
        refine lt_next (l := [0, 1, 2, 3, 8, 7, 9, 10, 11, 12, 13]) (hv := [(7, Value.int .i64 (IntKind.i64.wrap (r21 + 1))), (9, Value.int .i64 (IntKind.i64.wrap ((IntKind.i64.wrap (r21 + 1)) + i_2))), (10, p23), (11, Value.int .u64 x35), (12, Value.int .u64 x35), (13, Value.int .i64 0)]) rfl rfl (pv_cons rfl (pv_cons rfl (pv_cons rfl (pv_cons rfl (pv_cons rfl (pv_cons rfl (pv_nil _)))))))
          (ffc (d := 23) (v := h_0) (hd_v rfl fun ρ hρ => ⟨rfl, opv_move rfl rfl ((hρ 0 (lmem rfl)).trans h0)⟩) rfl rfl
          (ffc (d := 24) (v := h_0) (hd_v rfl fun ρ hρ => ⟨rfl, ov_nck rfl rfl ((hρ 23 (lmem rfl)).trans rfl) hp10⟩) rfl rfl
          (ffc (d := 25) (v := p11) (hd_v rfl fun ρ hρ => ⟨rfl, ov_fldA rfl rfl underlying100 rfl sz62 (by decide) ((hρ 24 (lmem rfl)).trans rfl) hp14 rfl hv15⟩) rfl rfl
          (ffc (d := 26) (v := x19) (hd_v rfl fun ρ hρ => ⟨rfl, ov_ldV rfl underlying62 rfl rfl ((hρ 25 (lmem rfl)).trans rfl) hp18 hg20⟩) rfl rfl
          (ffc (d := 31) (v := .int .i64 i_2) (hd_v rfl fun ρ hρ => ⟨rfl, opv_move rfl rfl ((hρ 2 (lmem rfl)).trans h2)⟩) rfl rfl
          (ffc (d := 30) (v := .int .i64 (IntKind.i64.wrap (r21 + 1))) (hd_v rfl fun ρ hρ => ⟨rfl, opv_add rfl rfl rfl ((hρ 29 (lmem rfl)).trans rfl) rfl⟩) rfl rfl
          (ffc (d := 32) (v := .int .i64 (IntKind.i64.wrap ((IntKind.i64.wrap (r21 + 1)) + i_2))) (hd_v rfl fun ρ hρ => ⟨rfl, opv_add rfl rfl rfl ((hρ 30 (lmem rfl)).trans rfl) ((hρ 31 (lmem rfl)).trans rfl)⟩) rfl rfl
          (ffc (d := 33) (v := p23) (hd_v rfl fun ρ hρ => ⟨rfl, ov_ixS rfl rfl rfl underlying62 sz26 ((hρ 26 (lmem rfl)).trans rfl) ((hρ 32 (lmem rfl)).trans rfl) hp28 h029 hj30 hv31⟩) rfl rfl
          (ffc (d := 34) (v := .int .u64 x35) (hd_v rfl fun ρ hρ => ⟨rfl, ov_ldI rfl underlying26 rfl ((hρ 33 (lmem rfl)).trans rfl) hp34 hg36⟩) rfl rfl
          (ffc (d := 6) (v := .int .u64 x35) (hd_v rfl fun ρ hρ => ⟨rfl, opv_assign rfl rfl ((hρ 34 (lmem rfl)).trans rfl)⟩) rfl rfl
          (ffc (d := 7) (v := .int .i64 0) (hd_v rfl fun ρ hρ => ⟨rfl, opv_assign rfl rfl rfl⟩) rfl rfl
          ffn))))))))))) ?_
        refine lt_end ?_
        exact ago_retE E80_12 (r := (x35, 0)) (ares_2 rfl (oneT rfl) (oneT rfl)) rfl H
theorem F80_ok {Q : (Int × Int) → AW → Prop} {E : List PanicEntry → AW → Prop} (h_0 : Value) (w_1 : Int) (i_2 : Int) (aw : AW) (H : S80_0 Q E h_0 w_1 i_2 aw) : CallP prog 80 [h_0, .int .u64 w_1, .int .i64 i_2] aw sh80 Q E :=
  callP_of func80 C80_is rfl (Nat.le_of_ble_eq_true rfl) (S80_0_ok Q E _ h_0 w_1 i_2 aw rfl rfl rfl H)
def C79_0 : Code := bodyOf f79
theorem C79_is : f79.body = some C79_0 := by kernel_rfl
def C79_1 : Code := cl C79_0
def R79_0 : Array Oper := regOps C79_1
def C79_2 : Code := cr C79_0
def C79_3 : Code := cl C79_2
def C79_4 : Code := cl C79_3
def R79_1 : Array Oper := regOps C79_4
def C79_5 : Code := cr C79_3
def C79_6 : Code := cl C79_5
def C79_7 : Code := cl C79_6
def R79_2 : Array Oper := regOps C79_7
def C79_8 : Code := cr C79_6
def C79_9 : Code := cr C79_5
def C79_10 : Code := cr C79_2
def C79_11 : Code := cl C79_10
def R79_3 : Array Oper := regOps C79_11
def C79_12 : Code := cr C79_10
theorem R79_0_N : dstsOk 9 R79_0 = true := by decide +kernel
theorem E79_1 : C79_1 = .region 0 R79_0 false := rfl
theorem R79_1_N : dstsOk 9 R79_1 = true := by decide +kernel
theorem E79_4 : C79_4 = .region 1 R79_1 false := rfl
theorem R79_2_N : dstsOk 9 R79_2 = true := by decide +kernel
theorem E79_7 : C79_7 = .region 2 R79_2 false := rfl
theorem E79_8 : C79_8 = .ret := rfl
theorem E79_6 : C79_6 = .seq C79_7 C79_8 := rfl
theorem E79_9 : C79_9 = .skip := rfl
theorem E79_5 : C79_5 = .cond (.tmp 4) C79_6 C79_9 := rfl
theorem E79_3 : C79_3 = .seq C79_4 C79_5 := rfl
theorem R79_3_N : dstsOk 9 R79_3 = true := by decide +kernel
theorem E79_11 : C79_11 = .region 3 R79_3 false := rfl
theorem E79_12 : C79_12 = .ret := rfl
theorem E79_10 : C79_10 = .seq C79_11 C79_12 := rfl
theorem E79_2 : C79_2 = .seq C79_3 C79_10 := rfl
theorem E79_0 : C79_0 = .seq C79_1 C79_2 := rfl
def S79_0 (Q : Int → AW → Prop) (E : List PanicEntry → AW → Prop)  (h_0 : Value) (aw : AW) : Prop :=
  nilB (.pointer 100) h_0 (.pointer none) fun q1 =>
  cnd q1 (Q 0 aw) (nck h_0 (fldA h_0 1 fun p6 =>
  ldI .i64 aw p6 fun x14 =>
  Q x14 aw))
theorem S79_0_ok (Q : Int → AW → Prop) (E : List PanicEntry → AW → Prop)  (ρ : Env) (h_0 : Value) (aw : AW) (h0 : ρ 0 = h_0) (H : S79_0 Q E  h_0 aw) :
    AGo prog 9 [.code C79_0] ρ [] aw (RR prog f79 9 sh79 Q E) := by
  unfold S79_0 at H
  refine ago_seqE E79_0 ?_
  refine ago_regE E79_1 (l := [0]) rfl ?_
  refine lk (dt := some 2) R79_0_N rfl rfl rfl (opv_assign rfl rfl rfl) ?_
  refine aops_nil ?_
  refine ago_seqE E79_2 ?_
  refine ago_seqE E79_3 ?_
  refine ago_regE E79_4 (l := [0, 1]) rfl ?_
  refine lk (dt := some 3) R79_1_N rfl rfl rfl (opv_move rfl rfl h0) ?_
  obtain ⟨q1, hf2, hq3, H⟩ := H
  refine lk (dt := some 4) R79_1_N rfl rfl rfl (ov_eqNil rfl rfl underlying50 rfl hf2 hq3) ?_
  refine aops_nil ?_
  refine ago_condE  E79_5 rfl rfl (fun hb4 => ?_) (fun hb4 => ?_)
  · replace H := cnd_t H hb4
    refine ago_seqE E79_6 ?_
    refine ago_regE E79_7 (l := [0]) rfl ?_
    refine lk (dt := some 2) R79_2_N rfl rfl rfl (opv_assign rfl rfl rfl) ?_
    refine aops_nil ?_
    exact ago_retE E79_8 (r := 0) (ares_1 rfl (oneT rfl)) rfl H
  · replace H := cnd_f H hb4
    refine ago_skipE E79_9 ?_
    refine ago_seqE E79_10 ?_
    refine ago_regE E79_11 (l := [0, 1, 2, 3, 4]) rfl ?_
    refine lk (dt := some 5) R79_3_N rfl rfl rfl (opv_move rfl rfl h0) ?_
    obtain ⟨hp5, H⟩ := H
    refine lk (dt := some 6) R79_3_N rfl rfl rfl (ov_nck rfl rfl rfl hp5) ?_
    obtain ⟨b7, i8, p6, hp9, hv10, H⟩ := H
    refine lk (dt := some 7) R79_3_N rfl rfl rfl (ov_fldA rfl rfl underlying100 rfl sz3 (by decide) rfl hp9 rfl hv10) ?_
    obtain ⟨b11, i12, x14, hp13, hg15, H⟩ := H
    refine lk (dt := some 8) R79_3_N rfl rfl rfl (ov_ldI rfl underlying3 rfl rfl hp13 hg15) ?_
    refine lk (dt := some 2) R79_3_N rfl rfl rfl (opv_assign rfl rfl rfl) ?_
    refine aops_nil ?_
    exact ago_retE E79_12 (r := x14) (ares_1 rfl (oneT rfl)) rfl H
theorem F79_ok {Q : Int → AW → Prop} {E : List PanicEntry → AW → Prop} (h_0 : Value) (aw : AW) (H : S79_0 Q E h_0 aw) : CallP prog 79 [h_0] aw sh79 Q E :=
  callP_of func79 C79_is rfl (Nat.le_of_ble_eq_true rfl) (S79_0_ok Q E _ h_0 aw rfl H)
def C49_0 : Code := bodyOf f49
theorem C49_is : f49.body = some C49_0 := by kernel_rfl
def C49_1 : Code := cl C49_0
def R49_0 : Array Oper := regOps C49_1
def C49_2 : Code := cr C49_0
def C49_3 : Code := cl C49_2
def R49_1 : Array Oper := regOps C49_3
def C49_4 : Code := cr C49_2
theorem R49_0_N : dstsOk 6 R49_0 = true := by decide +kernel
theorem E49_1 : C49_1 = .region 0 R49_0 false := rfl
theorem R49_1_N : dstsOk 6 R49_1 = true := by decide +kernel
theorem E49_3 : C49_3 = .region 1 R49_1 false := rfl
theorem E49_4 : C49_4 = .ret := rfl
theorem E49_2 : C49_2 = .seq C49_3 C49_4 := rfl
theorem E49_0 : C49_0 = .seq C49_1 C49_2 := rfl
def S49_0 (Q : Bool → AW → Prop) (E : List PanicEntry → AW → Prop)  (w_0 : Int) (aw : AW) : Prop :=
  Q (decide ((bitsOf .and .u64 w_0 1) = 1)) aw
theorem S49_0_ok (Q : Bool → AW → Prop) (E : List PanicEntry → AW → Prop)  (ρ : Env) (w_0 : Int) (aw : AW) (h0 : ρ 0 = .int .u64 w_0) (H : S49_0 Q E  w_0 aw) :
    AGo prog 6 [.code C49_0] ρ [] aw (RR prog f49 6 sh49 Q E) := by
  unfold S49_0 at H
  refine ago_seqE E49_0 ?_
  refine ago_regE E49_1 (l := [0]) rfl ?_
  refine lk (dt := some 2) R49_0_N rfl rfl rfl (opv_assign rfl rfl rfl) ?_
  refine aops_nil ?_
  refine ago_seqE E49_2 ?_
  refine ago_regE E49_3 (l := [0, 1, 2, 3]) rfl ?_
  refine lk (dt := some 3) R49_1_N rfl rfl rfl (opv_move rfl rfl h0) ?_
  refine lk (dt := some 4) R49_1_N rfl rfl rfl (opv_and rfl rfl rfl rfl rfl) ?_
  refine lk (dt := some 5) R49_1_N rfl rfl rfl (opv_eqI rfl rfl rfl rfl rfl) ?_
  refine lk (dt := some 2) R49_1_N rfl rfl rfl (opv_assign rfl rfl rfl) ?_
  refine aops_nil ?_
  exact ago_retE E49_4 (r := (decide ((bitsOf .and .u64 w_0 1) = 1))) (ares_1 rfl (oneT rfl)) rfl H
theorem F49_ok {Q : Bool → AW → Prop} {E : List PanicEntry → AW → Prop} (w_0 : Int) (aw : AW) (H : S49_0 Q E w_0 aw) : CallP prog 49 [.int .u64 w_0] aw sh49 Q E :=
  callP_of func49 C49_is rfl (Nat.le_of_ble_eq_true rfl) (S49_0_ok Q E _ w_0 aw rfl H)
def C73_0 : Code := bodyOf f73
theorem C73_is : f73.body = some C73_0 := by kernel_rfl
def C73_1 : Code := cl C73_0
def R73_0 : Array Oper := regOps C73_1
def C73_2 : Code := cr C73_0
def C73_3 : Code := cl C73_2
def R73_1 : Array Oper := regOps C73_3
def C73_4 : Code := cr C73_2
theorem R73_0_N : dstsOk 6 R73_0 = true := by decide +kernel
theorem E73_1 : C73_1 = .region 0 R73_0 false := rfl
theorem R73_1_N : dstsOk 6 R73_1 = true := by decide +kernel
theorem E73_3 : C73_3 = .region 1 R73_1 false := rfl
theorem E73_4 : C73_4 = .ret := rfl
theorem E73_2 : C73_2 = .seq C73_3 C73_4 := rfl
theorem E73_0 : C73_0 = .seq C73_1 C73_2 := rfl
def S73_0 (Q : Int → AW → Prop) (E : List PanicEntry → AW → Prop)  (w_0 : Int) (aw : AW) : Prop :=
  Q (Int.fdiv (IntKind.i64.wrap w_0) (2 ^ (min (1 : Int).toNat IntKind.i64.bits))) aw
theorem S73_0_ok (Q : Int → AW → Prop) (E : List PanicEntry → AW → Prop)  (ρ : Env) (w_0 : Int) (aw : AW) (h0 : ρ 0 = .int .u64 w_0) (H : S73_0 Q E  w_0 aw) :
    AGo prog 6 [.code C73_0] ρ [] aw (RR prog f73 6 sh73 Q E) := by
  unfold S73_0 at H
  refine ago_seqE E73_0 ?_
  refine ago_regE E73_1 (l := [0]) rfl ?_
  refine lk (dt := some 2) R73_0_N rfl rfl rfl (opv_assign rfl rfl rfl) ?_
  refine aops_nil ?_
  refine ago_seqE E73_2 ?_
  refine ago_regE E73_3 (l := [0, 1, 2, 3]) rfl ?_
  refine lk (dt := some 3) R73_1_N rfl rfl rfl (opv_move rfl rfl h0) ?_
  refine lk (dt := some 4) R73_1_N rfl rfl rfl (opv_conv rfl rfl underlying26 underlying2 rfl) ?_
  refine lk (dt := some 5) R73_1_N rfl rfl rfl (opv_shr rfl rfl rfl rfl rfl (by decide)) ?_
  refine lk (dt := some 2) R73_1_N rfl rfl rfl (opv_assign rfl rfl rfl) ?_
  refine aops_nil ?_
  exact ago_retE E73_4 (r := (Int.fdiv (IntKind.i64.wrap w_0) (2 ^ (min (1 : Int).toNat IntKind.i64.bits)))) (ares_1 rfl (oneT rfl)) rfl H
theorem F73_ok {Q : Int → AW → Prop} {E : List PanicEntry → AW → Prop} (w_0 : Int) (aw : AW) (H : S73_0 Q E w_0 aw) : CallP prog 73 [.int .u64 w_0] aw sh73 Q E :=
  callP_of func73 C73_is rfl (Nat.le_of_ble_eq_true rfl) (S73_0_ok Q E _ w_0 aw rfl H)
end
end Go.Proofs.Tryd
