/- Printed by a program of the prover: what the Go functions of this seat do, in steps. -/
import Derived.Test.YtfdfakapkhflcaaBaF
set_option linter.unusedSectionVars false
set_option linter.unusedSimpArgs false
set_option linter.unusedVariables false
namespace Go.Proofs.Try
open Go Go.Am Go.RowKit
set_option maxHeartbeats 4000000
set_option maxRecDepth 100000
noncomputable section
variable [SymE]
def C58_0 : Code := bodyOf f58
theorem C58_is : f58.body = some C58_0 := by kernel_rfl
def C58_1 : Code := cl C58_0
def R58_0 : Array Oper := regOps C58_1
def C58_2 : Code := cr C58_0
def C58_3 : Code := cl C58_2
def C58_4 : Code := cl C58_3
def R58_1 : Array Oper := regOps C58_4
def C58_5 : Code := cr C58_3
def C58_6 : Code := cl C58_5
def C58_7 : Code := cl C58_6
def R58_2 : Array Oper := regOps C58_7
def C58_8 : Code := cr C58_6
def C58_9 : Code := cr C58_5
def C58_10 : Code := cr C58_2
def C58_11 : Code := cl C58_10
def R58_3 : Array Oper := regOps C58_11
def C58_12 : Code := cr C58_10
theorem R58_0_N : dstsOk 8 R58_0 = true := by decide +kernel
theorem E58_1 : C58_1 = .region 0 R58_0 false := rfl
theorem R58_1_N : dstsOk 8 R58_1 = true := by decide +kernel
theorem E58_4 : C58_4 = .region 1 R58_1 false := rfl
theorem R58_2_N : dstsOk 8 R58_2 = true := by decide +kernel
theorem E58_7 : C58_7 = .region 2 R58_2 false := rfl
theorem E58_8 : C58_8 = .ret := rfl
theorem E58_6 : C58_6 = .seq C58_7 C58_8 := rfl
theorem E58_9 : C58_9 = .skip := rfl
theorem E58_5 : C58_5 = .cond (.tmp 4) C58_6 C58_9 := rfl
theorem E58_3 : C58_3 = .seq C58_4 C58_5 := rfl
theorem R58_3_N : dstsOk 8 R58_3 = true := by decide +kernel
theorem E58_11 : C58_11 = .region 3 R58_3 false := rfl
theorem E58_12 : C58_12 = .ret := rfl
theorem E58_10 : C58_10 = .seq C58_11 C58_12 := rfl
theorem E58_2 : C58_2 = .seq C58_3 C58_10 := rfl
theorem E58_0 : C58_0 = .seq C58_1 C58_2 := rfl
def S58_0 (Q : Value → AW → Prop) (E : List PanicEntry → AW → Prop)  (s_0 : Value) (aw : AW) : Prop :=
  nilB (.slice 4) s_0 (.slice none 0 0) fun q1 =>
  cnd q1 (Q (.slice none 0 0) aw) (alcS aw [] 4 1 0 fun p5 aw6 =>
  app aw6 4 1 1 p5 s_0 fun v9 aw10 =>
  Q v9 aw10)
theorem S58_0_ok (Q : Value → AW → Prop) (E : List PanicEntry → AW → Prop)  (ρ : Env) (s_0 : Value) (aw : AW) (h0 : ρ 0 = s_0) (H : S58_0 Q E  s_0 aw) :
    AGo prog 8 [.code C58_0] ρ [] aw (RR prog f58 8 sh58 Q E) := by
  unfold S58_0 at H
  refine ago_seqE E58_0 ?_
  refine ago_regE E58_1 (l := [0]) rfl ?_
  refine lk (dt := some 2) R58_0_N rfl rfl rfl (opv_assign rfl rfl rfl) ?_
  refine aops_nil ?_
  refine ago_seqE E58_2 ?_
  refine ago_seqE E58_3 ?_
  refine ago_regE E58_4 (l := [0, 1]) rfl ?_
  refine lk (dt := some 3) R58_1_N rfl rfl rfl (opv_move rfl rfl h0) ?_
  obtain ⟨q1, hf2, hq3, H⟩ := H
  refine lk (dt := some 4) R58_1_N rfl rfl rfl (ov_eqNil rfl rfl underlying27 rfl hf2 hq3) ?_
  refine aops_nil ?_
  refine ago_condE  E58_5 rfl rfl (fun hb4 => ?_) (fun hb4 => ?_)
  · replace H := cnd_t H hb4
    refine ago_seqE E58_6 ?_
    refine ago_regE E58_7 (l := [0]) rfl ?_
    refine lk (dt := some 2) R58_2_N rfl rfl rfl (opv_assign rfl rfl rfl) ?_
    refine aops_nil ?_
    exact ago_retE E58_8 (r := (.slice none 0 0)) (ares_1 rfl (oneT rfl)) rfl H
  replace H := cnd_f H hb4
  refine ago_skipE E58_9 ?_
  refine ago_seqE E58_10 ?_
  refine ago_regE E58_11 (l := [0, 1, 2, 3]) rfl ?_
  obtain ⟨p5, aw6, hp7, ha8, H⟩ := H
  refine lk (dt := some 5) R58_3_N rfl rfl rfl (ov_bs0 rfl underlying27 sz4 hp7 ha8) ?_
  refine lk (dt := some 6) R58_3_N rfl rfl rfl (opv_move rfl rfl h0) ?_
  obtain ⟨v9, aw10, hq11, H⟩ := H
  refine lk (dt := some 7) R58_3_N rfl rfl rfl (ov_app rfl rfl rfl rfl underlying27 sz4 by4 underlying27 rfl z4 rfl (by decide) (by decide) rfl rfl hq11) ?_
  refine lk (dt := some 2) R58_3_N rfl rfl rfl (opv_assign rfl rfl rfl) ?_
  refine aops_nil ?_
  exact ago_retE E58_12 (r := v9) (ares_1 rfl (oneT rfl)) rfl H
theorem F58_ok {Q : Value → AW → Prop} {E : List PanicEntry → AW → Prop} (s_0 : Value) (aw : AW) (H : S58_0 Q E s_0 aw) : CallP prog 58 [s_0] aw sh58 Q E :=
  callP_of func58 C58_is rfl (Nat.le_of_ble_eq_true rfl) (S58_0_ok Q E _ s_0 aw rfl H)
def C59_0 : Code := bodyOf f59
theorem C59_is : f59.body = some C59_0 := by kernel_rfl
def C59_1 : Code := cl C59_0
def R59_0 : Array Oper := regOps C59_1
def C59_2 : Code := cr C59_0
def C59_3 : Code := cl C59_2
def C59_4 : Code := cl C59_3
def R59_1 : Array Oper := regOps C59_4
def C59_5 : Code := cr C59_3
def C59_6 : Code := cl C59_5
def C59_7 : Code := cl C59_6
def R59_2 : Array Oper := regOps C59_7
def C59_8 : Code := cr C59_6
def C59_9 : Code := cr C59_5
def C59_10 : Code := cr C59_2
def C59_11 : Code := cl C59_10
def R59_3 : Array Oper := regOps C59_11
def C59_12 : Code := cr C59_10
theorem R59_0_N : dstsOk 8 R59_0 = true := by decide +kernel
theorem E59_1 : C59_1 = .region 0 R59_0 false := rfl
theorem R59_1_N : dstsOk 8 R59_1 = true := by decide +kernel
theorem E59_4 : C59_4 = .region 1 R59_1 false := rfl
theorem R59_2_N : dstsOk 8 R59_2 = true := by decide +kernel
theorem E59_7 : C59_7 = .region 2 R59_2 false := rfl
theorem E59_8 : C59_8 = .ret := rfl
theorem E59_6 : C59_6 = .seq C59_7 C59_8 := rfl
theorem E59_9 : C59_9 = .skip := rfl
theorem E59_5 : C59_5 = .cond (.tmp 4) C59_6 C59_9 := rfl
theorem E59_3 : C59_3 = .seq C59_4 C59_5 := rfl
theorem R59_3_N : dstsOk 8 R59_3 = true := by decide +kernel
theorem E59_11 : C59_11 = .region 3 R59_3 false := rfl
theorem E59_12 : C59_12 = .ret := rfl
theorem E59_10 : C59_10 = .seq C59_11 C59_12 := rfl
theorem E59_2 : C59_2 = .seq C59_3 C59_10 := rfl
theorem E59_0 : C59_0 = .seq C59_1 C59_2 := rfl
def S59_0 (Q : Value → AW → Prop) (E : List PanicEntry → AW → Prop)  (s_0 : Value) (aw : AW) : Prop :=
  nilB (.slice 24) s_0 (.slice none 0 0) fun q1 =>
  cnd q1 (Q (.slice none 0 0) aw) (alcS aw [] 24 1 0 fun p5 aw6 =>
  app aw6 24 1 8 p5 s_0 fun v9 aw10 =>
  Q v9 aw10)
theorem S59_0_ok (Q : Value → AW → Prop) (E : List PanicEntry → AW → Prop)  (ρ : Env) (s_0 : Value) (aw : AW) (h0 : ρ 0 = s_0) (H : S59_0 Q E  s_0 aw) :
    AGo prog 8 [.code C59_0] ρ [] aw (RR prog f59 8 sh59 Q E) := by
  unfold S59_0 at H
  refine ago_seqE E59_0 ?_
  refine ago_regE E59_1 (l := [0]) rfl ?_
  refine lk (dt := some 2) R59_0_N rfl rfl rfl (opv_assign rfl rfl rfl) ?_
  refine aops_nil ?_
  refine ago_seqE E59_2 ?_
  refine ago_seqE E59_3 ?_
  refine ago_regE E59_4 (l := [0, 1]) rfl ?_
  refine lk (dt := some 3) R59_1_N rfl rfl rfl (opv_move rfl rfl h0) ?_
  obtain ⟨q1, hf2, hq3, H⟩ := H
  refine lk (dt := some 4) R59_1_N rfl rfl rfl (ov_eqNil rfl rfl underlying28 rfl hf2 hq3) ?_
  refine aops_nil ?_
  refine ago_condE  E59_5 rfl rfl (fun hb4 => ?_) (fun hb4 => ?_)
  · replace H := cnd_t H hb4
    refine ago_seqE E59_6 ?_
    refine ago_regE E59_7 (l := [0]) rfl ?_
    refine lk (dt := some 2) R59_2_N rfl rfl rfl (opv_assign rfl rfl rfl) ?_
    refine aops_nil ?_
    exact ago_retE E59_8 (r := (.slice none 0 0)) (ares_1 rfl (oneT rfl)) rfl H
  replace H := cnd_f H hb4
  refine ago_skipE E59_9 ?_
  refine ago_seqE E59_10 ?_
  refine ago_regE E59_11 (l := [0, 1, 2, 3]) rfl ?_
  obtain ⟨p5, aw6, hp7, ha8, H⟩ := H
  refine lk (dt := some 5) R59_3_N rfl rfl rfl (ov_bs0 rfl underlying28 sz24 hp7 ha8) ?_
  refine lk (dt := some 6) R59_3_N rfl rfl rfl (opv_move rfl rfl h0) ?_
  obtain ⟨v9, aw10, hq11, H⟩ := H
  refine lk (dt := some 7) R59_3_N rfl rfl rfl (ov_app rfl rfl rfl rfl underlying28 sz24 by24 underlying28 rfl z24 rfl (by decide) (by decide) rfl rfl hq11) ?_
  refine lk (dt := some 2) R59_3_N rfl rfl rfl (opv_assign rfl rfl rfl) ?_
  refine aops_nil ?_
  exact ago_retE E59_12 (r := v9) (ares_1 rfl (oneT rfl)) rfl H
theorem F59_ok {Q : Value → AW → Prop} {E : List PanicEntry → AW → Prop} (s_0 : Value) (aw : AW) (H : S59_0 Q E s_0 aw) : CallP prog 59 [s_0] aw sh59 Q E :=
  callP_of func59 C59_is rfl (Nat.le_of_ble_eq_true rfl) (S59_0_ok Q E _ s_0 aw rfl H)
def C22_0 : Code := bodyOf f22
theorem C22_is : f22.body = some C22_0 := by kernel_rfl
def C22_1 : Code := cl C22_0
def R22_0 : Array Oper := regOps C22_1
def C22_2 : Code := cr C22_0
def C22_3 : Code := cl C22_2
def R22_1 : Array Oper := regOps C22_3
def C22_4 : Code := cr C22_2
theorem R22_0_N : dstsOk 10 R22_0 = true := by decide +kernel
theorem E22_1 : C22_1 = .region 0 R22_0 false := rfl
theorem R22_1_N : dstsOk 10 R22_1 = true := by decide +kernel
theorem E22_3 : C22_3 = .region 1 R22_1 false := rfl
theorem E22_4 : C22_4 = .ret := rfl
theorem E22_2 : C22_2 = .seq C22_3 C22_4 := rfl
theorem E22_0 : C22_0 = .seq C22_1 C22_2 := rfl
def S22_0 (Q : Int → AW → Prop) (E : List PanicEntry → AW → Prop)  (s_0_0 : Int) (s_0_1 : Int) (s_0_2 : Int) (s_0_3 : Int) (s_0_4 : Int) (s_0_5 : Int) (s_0_6 : Int) (s_0_7 : Value) (s_0_8 : Value) (s_0_9 : Int) (s_0_10 : Int) (s_0_11 : Int) (s_0_12 : Int) (s_0_13 : Value) (s_0_14 : Value) (s_0_15 : Value) (aw : AW) : Prop :=
  alc aw [.int .i64 s_0_0, .int .i64 s_0_1, .int .i64 s_0_2, .int .u64 s_0_3, .int .i64 s_0_4, .int .u64 s_0_5, .int .u64 s_0_6, s_0_7, s_0_8, .int .u64 s_0_9, .int .u8 s_0_10, .int .i64 s_0_11, .int .i64 s_0_12, s_0_13, s_0_14, s_0_15] 30 0 fun p1 aw2 =>
  fldA p1 5 fun p5 =>
  ldI .u64 aw2 p5 fun x13 =>
  fldA p1 8 fun p15 =>
  ldV aw2 p15 fun x23 =>
  slen x23 fun n25 =>
  Q (IntKind.u64.wrap (x13 + (IntKind.u64.wrap n25))) aw2
theorem S22_0_ok (Q : Int → AW → Prop) (E : List PanicEntry → AW → Prop)  (ρ : Env) (s_0_0 : Int) (s_0_1 : Int) (s_0_2 : Int) (s_0_3 : Int) (s_0_4 : Int) (s_0_5 : Int) (s_0_6 : Int) (s_0_7 : Value) (s_0_8 : Value) (s_0_9 : Int) (s_0_10 : Int) (s_0_11 : Int) (s_0_12 : Int) (s_0_13 : Value) (s_0_14 : Value) (s_0_15 : Value) (aw : AW) (h0 : ρ 0 = .agg #[.int .i64 s_0_0, .int .i64 s_0_1, .int .i64 s_0_2, .int .u64 s_0_3, .int .i64 s_0_4, .int .u64 s_0_5, .int .u64 s_0_6, s_0_7, s_0_8, .int .u64 s_0_9, .int .u8 s_0_10, .int .i64 s_0_11, .int .i64 s_0_12, s_0_13, s_0_14, s_0_15]) (H : S22_0 Q E  s_0_0 s_0_1 s_0_2 s_0_3 s_0_4 s_0_5 s_0_6 s_0_7 s_0_8 s_0_9 s_0_10 s_0_11 s_0_12 s_0_13 s_0_14 s_0_15 aw) :
    AGo prog 10 [.code C22_0] ρ [] aw (RR prog f22 10 sh22 Q E) := by
  unfold S22_0 at H
  refine ago_seqE E22_0 ?_
  refine ago_regE E22_1 (l := [0, 1]) rfl ?_
  obtain ⟨p1, aw2, hp3, ha4, H⟩ := H
  refine lk (dt := some 1) R22_0_N rfl rfl rfl (ov_box rfl rfl h0 rfl hp3 ha4) ?_
  refine lk (dt := some 2) R22_0_N rfl rfl rfl (opv_assign rfl rfl rfl) ?_
  refine aops_nil ?_
  refine ago_seqE E22_2 ?_
  refine ago_regE E22_3 (l := [0, 1, 2, 3, 4, 5, 6, 7]) rfl ?_
  obtain ⟨b6, i7, p5, hp8, hv9, H⟩ := H
  refine lk (dt := some 3) R22_1_N rfl rfl rfl (ov_fldA rfl rfl underlying30 rfl sz24 (by decide) rfl hp8 rfl hv9) ?_
  obtain ⟨b10, i11, x13, hp12, hg14, H⟩ := H
  refine lk (dt := some 4) R22_1_N rfl rfl rfl (ov_ldI rfl underlying24 rfl rfl hp12 hg14) ?_
  obtain ⟨b16, i17, p15, hp18, hv19, H⟩ := H
  refine lk (dt := some 5) R22_1_N rfl rfl rfl (ov_fldA rfl rfl underlying30 rfl sz26 (by decide) rfl hp18 rfl hv19) ?_
  obtain ⟨b20, i21, x23, hp22, hg24, H⟩ := H
  refine lk (dt := some 6) R22_1_N rfl rfl rfl (ov_ldV rfl underlying26 rfl rfl rfl hp22 hg24) ?_
  obtain ⟨q26, l27, c28, n25, hv29, hn30, H⟩ := H
  refine lk (dt := some 7) R22_1_N rfl rfl rfl (ov_len rfl rfl rfl underlying26 rfl hv29 hn30) ?_
  refine lk (dt := some 8) R22_1_N rfl rfl rfl (opv_conv rfl rfl underlying3 underlying24 rfl) ?_
  refine lk (dt := some 9) R22_1_N rfl rfl rfl (opv_add rfl rfl rfl rfl rfl) ?_
  refine lk (dt := some 2) R22_1_N rfl rfl rfl (opv_assign rfl rfl rfl) ?_
  refine aops_nil ?_
  exact ago_retE E22_4 (r := (IntKind.u64.wrap (x13 + (IntKind.u64.wrap n25)))) (ares_1 rfl (oneT rfl)) rfl H
theorem F22_ok {Q : Int → AW → Prop} {E : List PanicEntry → AW → Prop} (s_0_0 : Int) (s_0_1 : Int) (s_0_2 : Int) (s_0_3 : Int) (s_0_4 : Int) (s_0_5 : Int) (s_0_6 : Int) (s_0_7 : Value) (s_0_8 : Value) (s_0_9 : Int) (s_0_10 : Int) (s_0_11 : Int) (s_0_12 : Int) (s_0_13 : Value) (s_0_14 : Value) (s_0_15 : Value) (aw : AW) (H : S22_0 Q E s_0_0 s_0_1 s_0_2 s_0_3 s_0_4 s_0_5 s_0_6 s_0_7 s_0_8 s_0_9 s_0_10 s_0_11 s_0_12 s_0_13 s_0_14 s_0_15 aw) : CallP prog 22 [.agg #[.int .i64 s_0_0, .int .i64 s_0_1, .int .i64 s_0_2, .int .u64 s_0_3, .int .i64 s_0_4, .int .u64 s_0_5, .int .u64 s_0_6, s_0_7, s_0_8, .int .u64 s_0_9, .int .u8 s_0_10, .int .i64 s_0_11, .int .i64 s_0_12, s_0_13, s_0_14, s_0_15]] aw sh22 Q E :=
  callP_of func22 C22_is rfl (Nat.le_of_ble_eq_true rfl) (S22_0_ok Q E _ s_0_0 s_0_1 s_0_2 s_0_3 s_0_4 s_0_5 s_0_6 s_0_7 s_0_8 s_0_9 s_0_10 s_0_11 s_0_12 s_0_13 s_0_14 s_0_15 aw rfl H)
def C23_0 : Code := bodyOf f23
theorem C23_is : f23.body = some C23_0 := by kernel_rfl
def C23_1 : Code := cl C23_0
def R23_0 : Array Oper := regOps C23_1
def C23_2 : Code := cr C23_0
def C23_3 : Code := cl C23_2
def R23_1 : Array Oper := regOps C23_3
def C23_4 : Code := cr C23_2
def C23_5 : Code := cl C23_4
def R23_2 : Array Oper := regOps C23_5
def C23_6 : Code := cr C23_4
def C23_7 : Code := cl C23_6
def R23_3 : Array Oper := regOps C23_7
def C23_8 : Code := cr C23_6
def C23_9 : Code := cl C23_8
def R23_4 : Array Oper := regOps C23_9
def C23_10 : Code := cr C23_8
def C23_11 : Code := cl C23_10
def C23_12 : Code := cl C23_11
def R23_5 : Array Oper := regOps C23_12
def C23_13 : Code := cr C23_11
def C23_14 : Code := cl C23_13
def C23_15 : Code := cl C23_14
def C23_16 : Code := cl C23_15
def R23_6 : Array Oper := regOps C23_16
def C23_17 : Code := cr C23_15
def C23_18 : Code := cl C23_17
def C23_19 : Code := cl C23_18
def C23_20 : Code := cr C23_18
def C23_21 : Code := cr C23_17
def C23_22 : Code := cl C23_21
def C23_23 : Code := cl C23_22
def C23_24 : Code := cl C23_23
def R23_7 : Array Oper := regOps C23_24
def C23_25 : Code := cr C23_23
def C23_26 : Code := cl C23_25
def R23_8 : Array Oper := regOps C23_26
def C23_27 : Code := cr C23_25
def R23_9 : Array Oper := regOps C23_27
def C23_28 : Code := cr C23_21
def R23_10 : Array Oper := regOps C23_28
def C23_29 : Code := cr C23_10
def C23_30 : Code := cl C23_29
def R23_11 : Array Oper := regOps C23_30
def C23_31 : Code := cr C23_29
theorem R23_0_N : dstsOk 43 R23_0 = true := by decide +kernel
theorem E23_1 : C23_1 = .region 0 R23_0 false := rfl
theorem R23_1_N : dstsOk 43 R23_1 = true := by decide +kernel
theorem E23_3 : C23_3 = .region 1 R23_1 false := rfl
theorem R23_2_N : dstsOk 43 R23_2 = true := by decide +kernel
theorem R23_2_O : linOk R23_2 [0, 1, 3, 4, 6, 7] [(2, [3, 4, 6, 7], [9]), (5, [6, 7, 9], []), (8, [9], []), (10, [], [11]), (12, [], [13]), (14, [], [])] = true := by decide +kernel
theorem E23_5 : C23_5 = .region 2 R23_2 true := rfl
theorem R23_3_N : dstsOk 43 R23_3 = true := by decide +kernel
theorem E23_7 : C23_7 = .region 3 R23_3 false := rfl
theorem R23_4_N : dstsOk 43 R23_4 = true := by decide +kernel
theorem E23_9 : C23_9 = .region 4 R23_4 false := rfl
theorem R23_5_N : dstsOk 43 R23_5 = true := by decide +kernel
theorem E23_12 : C23_12 = .region 5 R23_5 false := rfl
theorem R23_6_N : dstsOk 43 R23_6 = true := by decide +kernel
theorem E23_16 : C23_16 = .region 6 R23_6 false := rfl
theorem E23_19 : C23_19 = .skip := rfl
theorem E23_20 : C23_20 = .exit 0 := rfl
theorem E23_18 : C23_18 = .cond (.tmp 28) C23_19 C23_20 := rfl
theorem R23_7_N : dstsOk 43 R23_7 = true := by decide +kernel
theorem E23_24 : C23_24 = .region 7 R23_7 false := rfl
theorem R23_8_N : dstsOk 43 R23_8 = true := by decide +kernel
theorem E23_26 : C23_26 = .region 8 R23_8 false := rfl
theorem R23_9_N : dstsOk 43 R23_9 = true := by decide +kernel
theorem E23_27 : C23_27 = .region 9 R23_9 false := rfl
theorem E23_25 : C23_25 = .seq C23_26 C23_27 := rfl
theorem E23_23 : C23_23 = .seq C23_24 C23_25 := rfl
theorem E23_22 : C23_22 = .block 1 C23_23 := rfl
theorem R23_10_N : dstsOk 43 R23_10 = true := by decide +kernel
theorem E23_28 : C23_28 = .region 10 R23_10 false := rfl
theorem E23_21 : C23_21 = .seq C23_22 C23_28 := rfl
theorem E23_17 : C23_17 = .seq C23_18 C23_21 := rfl
theorem E23_15 : C23_15 = .seq C23_16 C23_17 := rfl
theorem E23_14 : C23_14 = .loop C23_15 := rfl
theorem E23_13 : C23_13 = .block 0 C23_14 := rfl
theorem E23_11 : C23_11 = .seq C23_12 C23_13 := rfl
theorem R23_11_N : dstsOk 43 R23_11 = true := by decide +kernel
theorem E23_30 : C23_30 = .region 11 R23_11 false := rfl
theorem E23_31 : C23_31 = .ret := rfl
theorem E23_29 : C23_29 = .seq C23_30 C23_31 := rfl
theorem E23_10 : C23_10 = .seq C23_11 C23_29 := rfl
theorem E23_8 : C23_8 = .seq C23_9 C23_10 := rfl
theorem E23_6 : C23_6 = .seq C23_7 C23_8 := rfl
theorem E23_4 : C23_4 = .seq C23_5 C23_6 := rfl
theorem E23_2 : C23_2 = .seq C23_3 C23_4 := rfl
theorem E23_0 : C23_0 = .seq C23_1 C23_2 := rfl
def S23_1s (Q : (Int × Int × Int × Int × Int × Int × Int × Value × Value × Int × Int × Int × Int × Value × Value × Value) → AW → Prop) (E : List PanicEntry → AW → Prop)  (nx1 : Value → Value → Value → Int → Int → AW → Prop) (s_1 : Value) (t_2 : Value) (t_25 : Value) (t_26 : Int) (t_27 : Int) (aw : AW) : Prop :=
  cnd (decide (t_27 < t_26)) (ixS t_25 t_27 4 fun p2 =>
  ptr p2 fun b11 i12 =>
  gI .u64 aw b11 i12 fun c14 =>
  gI .u64 aw b11 (i12 + 1) fun c15 =>
  gI .u64 aw b11 (i12 + 2) fun c16 =>
  gV aw b11 (i12 + 3) fun c17 =>
  alc aw [.int .u64 0, .int .u64 0, .int .u64 0, (.slice none 0 0)] 40 0 fun p22 aw23 =>
  st aw23 p22 [.int .u64 c14, .int .u64 c15, .int .u64 c16, c17] fun aw26 =>
  fldA p22 3 fun p33 =>
  ldV aw26 p33 fun x41 =>
  CallP prog 57 [x41] aw26 sh57 (fun r43 aw44 =>
  fldA p22 3 fun p45 =>
  st aw44 p45 [r43] fun aw50 =>
  fldA s_1 8 fun p57 =>
  ldV aw50 p57 fun x65 =>
  ptr p22 fun b67 i68 =>
  gI .u64 aw50 b67 i68 fun c70 =>
  gI .u64 aw50 b67 (i68 + 1) fun c71 =>
  gI .u64 aw50 b67 (i68 + 2) fun c72 =>
  gV aw50 b67 (i68 + 3) fun c73 =>
  alcS aw50 [.int .u64 c70, .int .u64 c71, .int .u64 c72, c73] 40 4 1 fun p78 aw79 =>
  app aw79 40 4 48 x65 p78 fun v82 aw83 =>
  fldA s_1 8 fun p85 =>
  st aw83 p85 [v82] fun aw90 =>
  nx1 s_1 t_2 t_25 t_26 (IntKind.i64.wrap (t_27 + 1)) aw90) E) (ptr s_1 fun b97 i98 =>
  gI .i64 aw b97 i98 fun c100 =>
  gI .i64 aw b97 (i98 + 1) fun c101 =>
  gI .i64 aw b97 (i98 + 2) fun c102 =>
  gI .u64 aw b97 (i98 + 3) fun c103 =>
  gI .i64 aw b97 (i98 + 4) fun c104 =>
  gI .u64 aw b97 (i98 + 5) fun c105 =>
  gI .u64 aw b97 (i98 + 6) fun c106 =>
  gV aw b97 (i98 + 7) fun c107 =>
  gV aw b97 (i98 + 8) fun c108 =>
  gI .u64 aw b97 (i98 + 9) fun c109 =>
  gI .u8 aw b97 (i98 + 10) fun c110 =>
  gI .i64 aw b97 (i98 + 11) fun c111 =>
  gI .i64 aw b97 (i98 + 12) fun c112 =>
  gV aw b97 (i98 + 13) fun c113 =>
  gV aw b97 (i98 + 14) fun c114 =>
  gV aw b97 (i98 + 15) fun c115 =>
  st aw t_2 [.int .i64 c100, .int .i64 c101, .int .i64 c102, .int .u64 c103, .int .i64 c104, .int .u64 c105, .int .u64 c106, c107, c108, .int .u64 c109, .int .u8 c110, .int .i64 c111, .int .i64 c112, c113, c114, c115] fun aw132 =>
  ptr t_2 fun b139 i140 => gI .i64 aw132 b139 i140 fun c142 => gI .i64 aw132 b139 (i140 + 1) fun c143 => gI .i64 aw132 b139 (i140 + 2) fun c144 => gI .u64 aw132 b139 (i140 + 3) fun c145 => gI .i64 aw132 b139 (i140 + 4) fun c146 => gI .u64 aw132 b139 (i140 + 5) fun c147 => gI .u64 aw132 b139 (i140 + 6) fun c148 => gV aw132 b139 (i140 + 7) fun c149 => gV aw132 b139 (i140 + 8) fun c150 => gI .u64 aw132 b139 (i140 + 9) fun c151 => gI .u8 aw132 b139 (i140 + 10) fun c152 => gI .i64 aw132 b139 (i140 + 11) fun c153 => gI .i64 aw132 b139 (i140 + 12) fun c154 => gV aw132 b139 (i140 + 13) fun c155 => gV aw132 b139 (i140 + 14) fun c156 => gV aw132 b139 (i140 + 15) fun c157 => Q (c142, c143, c144, c145, c146, c147, c148, c149, c150, c151, c152, c153, c154, c155, c156, c157) aw132)
def S23_1 (Q : (Int × Int × Int × Int × Int × Int × Int × Value × Value × Int × Int × Int × Int × Value × Value × Value) → AW → Prop) (E : List PanicEntry → AW → Prop)  : Nat → Value → Value → Value → Int → Int → AW → Prop
  | 0 => fun _ _ _ _ _ _ => False
  | n + 1 => S23_1s Q E  (S23_1 Q E  n)
def S23_0 (Q : (Int × Int × Int × Int × Int × Int × Int × Value × Value × Int × Int × Int × Int × Value × Value × Value) → AW → Prop) (E : List PanicEntry → AW → Prop)  (s_0_0 : Int) (s_0_1 : Int) (s_0_2 : Int) (s_0_3 : Int) (s_0_4 : Int) (s_0_5 : Int) (s_0_6 : Int) (s_0_7 : Value) (s_0_8 : Value) (s_0_9 : Int) (s_0_10 : Int) (s_0_11 : Int) (s_0_12 : Int) (s_0_13 : Value) (s_0_14 : Value) (s_0_15 : Value) (aw : AW) : Prop :=
  alc aw [.int .i64 s_0_0, .int .i64 s_0_1, .int .i64 s_0_2, .int .u64 s_0_3, .int .i64 s_0_4, .int .u64 s_0_5, .int .u64 s_0_6, s_0_7, s_0_8, .int .u64 s_0_9, .int .u8 s_0_10, .int .i64 s_0_11, .int .i64 s_0_12, s_0_13, s_0_14, s_0_15] 30 0 fun p174 aw175 =>
  alc aw175 [.int .i64 0, .int .i64 0, .int .i64 0, .int .u64 0, .int .i64 0, .int .u64 0, .int .u64 0, (.slice none 0 0), (.slice none 0 0), .int .u64 0, .int .u8 0, .int .i64 0, .int .i64 0, (.slice none 0 0), (.slice none 0 0), (.slice none 0 0)] 30 0 fun p178 aw179 =>
  fldA p174 7 fun p182 =>
  ldV aw179 p182 fun x190 =>
  CallP prog 57 [x190] aw179 sh57 (fun r192 aw193 =>
  fldA p174 7 fun p194 =>
  st aw193 p194 [r192] fun aw199 =>
  fldA p174 13 fun p206 =>
  ldV aw199 p206 fun x214 =>
  fldA p174 14 fun p216 =>
  ldV aw199 p216 fun x224 =>
  fldA p174 15 fun p226 =>
  ldV aw199 p226 fun x234 =>
  CallP prog 58 [x214] aw199 sh58 (fun r236 aw237 =>
  again1 aw237 p216 (x224) ∧ again1 aw237 p226 (x234) ∧ fldA p174 13 fun p238 =>
  CallP prog 59 [x224] aw237 sh59 (fun r243 aw244 =>
  again1 aw244 p226 (x234) ∧ CallP prog 59 [x234] aw244 sh59 (fun r245 aw246 =>
  st aw246 p238 [r236] fun aw247 =>
  fldA p174 14 fun p254 =>
  st aw247 p254 [r243] fun aw259 =>
  fldA p174 15 fun p266 =>
  st aw259 p266 [r245] fun aw271 =>
  fldA p174 8 fun p278 =>
  ldV aw271 p278 fun x286 =>
  fldA p174 8 fun p288 =>
  st aw271 p288 [(.slice none 0 0)] fun aw293 =>
  slen x286 fun n300 =>
  ∃ n, S23_1 Q E  n p174 p178 x286 n300 0 aw293) E) E) E) E
theorem S23_1s_ok (Q : (Int × Int × Int × Int × Int × Int × Int × Value × Value × Int × Int × Int × Int × Value × Value × Value) → AW → Prop) (E : List PanicEntry → AW → Prop)  (nx1 : Value → Value → Value → Int → Int → AW → Prop) (L1 : ∀ (ρ : Env) (s_1 : Value) (t_2 : Value) (t_25 : Value) (t_26 : Int) (t_27 : Int) (aw : AW) (h1 : ρ 1 = s_1) (h2 : ρ 2 = t_2) (h25 : ρ 25 = t_25) (h26 : ρ 26 = .int .i64 t_26) (h27 : ρ 27 = .int .i64 t_27), nx1 s_1 t_2 t_25 t_26 t_27 aw → AGo prog 43 [.code C23_15, .inLoop C23_15, .inBlock 0, .code C23_29] ρ [] aw (RR prog f23 43 sh23 Q E)) (ρ : Env) (s_1 : Value) (t_2 : Value) (t_25 : Value) (t_26 : Int) (t_27 : Int) (aw : AW) (h1 : ρ 1 = s_1) (h2 : ρ 2 = t_2) (h25 : ρ 25 = t_25) (h26 : ρ 26 = .int .i64 t_26) (h27 : ρ 27 = .int .i64 t_27) (H : S23_1s Q E  nx1 s_1 t_2 t_25 t_26 t_27 aw) :
    AGo prog 43 [.code C23_15, .inLoop C23_15, .inBlock 0, .code C23_29] ρ [] aw (RR prog f23 43 sh23 Q E) := by
  unfold S23_1s at H
  refine ago_seqE E23_15 ?_
  refine ago_regE E23_16 (l := [0]) rfl ?_
  refine lk (dt := some 28) R23_6_N rfl rfl rfl (opv_lt rfl rfl rfl h27 h26) ?_
  refine aops_nil ?_
  refine ago_seqE E23_17 ?_
  refine ago_condE  E23_18 rfl rfl (fun hb1 => ?_) (fun hb1 => ?_)
  · replace H := cnd_t H hb1
    refine ago_skipE E23_19 ?_
    refine ago_seqE E23_21 ?_
    refine ago_blockE E23_22 ?_
    refine ago_seqE E23_23 ?_
    refine ago_regE E23_24 (l := [0, 1, 2, 3]) rfl ?_
    obtain ⟨b3, i4, l5, c6, p2, hp7, h08, hj9, hv10, H⟩ := H
    refine lk (dt := some 29) R23_7_N rfl rfl rfl (ov_ixS rfl rfl rfl underlying26 sz40 h25 h27 hp7 h08 hj9 hv10) ?_
    obtain ⟨b11, i12, hp13, c14, hg18, c15, hg19, c16, hg20, c17, hg21, H⟩ := H
    refine lk (dt := some 30) R23_7_N rfl rfl rfl (ov_ldN rfl underlying40 rfl sz40 rfl rfl hp13 (getN_cons hg18 (getN_cons hg19 (getN_cons hg20 (getN_cons hg21 getN_nil))))) ?_
    obtain ⟨p22, aw23, hp24, ha25, H⟩ := H
    refine lk (dt := some 5) R23_7_N rfl rfl rfl (ov_alloc rfl z40 rfl rfl hp24 ha25) ?_
    obtain ⟨b27, i28, aw26, hp29, hw30, ho31, ha32, H⟩ := H
    refine lk (dt := none) R23_7_N rfl rfl rfl (ov_st rfl rfl rfl rfl rfl rfl sz40 hp29 hw30 ho31 ha32) ?_
    refine aops_nil ?_
    refine ago_seqE E23_25 ?_
    refine ago_regE E23_26 (l := [0, 1, 2, 3, 4]) rfl ?_
    obtain ⟨b34, i35, p33, hp36, hv37, H⟩ := H
    refine lk (dt := some 31) R23_8_N rfl rfl rfl (ov_fldA rfl rfl underlying40 rfl sz25 (by decide) rfl hp36 rfl hv37) ?_
    obtain ⟨b38, i39, x41, hp40, hg42, H⟩ := H
    refine lk (dt := some 32) R23_8_N rfl rfl rfl (ov_ldV rfl underlying25 rfl rfl rfl hp40 hg42) ?_
    refine lk_call (dt := some 33) R23_8_N rfl rfl rfl (opc_of rfl rfl is57 (ma_cons rfl rfl)) H (fun _ _ h => ⟨rfl, h⟩) fun r43 aw44 H => ?_
    obtain ⟨b46, i47, p45, hp48, hv49, H⟩ := H
    refine lk (dt := some 34) R23_8_N rfl rfl rfl (ov_fldA rfl rfl underlying40 rfl sz25 (by decide) rfl hp48 rfl hv49) ?_
    obtain ⟨b51, i52, aw50, hp53, hw54, ho55, ha56, H⟩ := H
    refine lk (dt := none) R23_8_N rfl rfl rfl (ov_st rfl rfl rfl rfl rfl (cells_all ho55) sz25 hp53 hw54 ho55 ha56) ?_
    refine aops_nil ?_
    refine ago_regE E23_27 (l := [0, 1, 2, 3, 4, 5, 6]) rfl ?_
    obtain ⟨b58, i59, p57, hp60, hv61, H⟩ := H
    refine lk (dt := some 35) R23_9_N rfl rfl rfl (ov_fldA rfl rfl underlying30 rfl sz26 (by decide) h1 hp60 rfl hv61) ?_
    obtain ⟨b62, i63, x65, hp64, hg66, H⟩ := H
    refine lk (dt := some 36) R23_9_N rfl rfl rfl (ov_ldV rfl underlying26 rfl rfl rfl hp64 hg66) ?_
    obtain ⟨b67, i68, hp69, c70, hg74, c71, hg75, c72, hg76, c73, hg77, H⟩ := H
    refine lk (dt := some 37) R23_9_N rfl rfl rfl (ov_ldN rfl underlying40 rfl sz40 rfl rfl hp69 (getN_cons hg74 (getN_cons hg75 (getN_cons hg76 (getN_cons hg77 getN_nil))))) ?_
    obtain ⟨p78, aw79, hp80, ha81, H⟩ := H
    refine lk (dt := some 38) R23_9_N rfl rfl rfl (ov_bsA (r := [.int .u64 c70, .int .u64 c71, .int .u64 c72, c73]) (vs := [.agg #[.int .u64 c70, .int .u64 c71, .int .u64 c72, c73]]) rfl rfl underlying26 sz40 z40 rfl rfl rfl rfl rfl (mp_cons rfl rfl) (.cons (v := .agg #[.int .u64 c70, .int .u64 c71, .int .u64 c72, c73]) (xs := [.int .u64 c70, .int .u64 c71, .int .u64 c72, c73]) (r := []) rfl rfl .nil) hp80 ha81) ?_
    obtain ⟨v82, aw83, hq84, H⟩ := H
    refine lk (dt := some 39) R23_9_N rfl rfl rfl (ov_app rfl rfl rfl rfl underlying26 sz40 by40 underlying26 rfl z40 rfl (by decide) (by decide) rfl rfl hq84) ?_
    obtain ⟨b86, i87, p85, hp88, hv89, H⟩ := H
    refine lk (dt := some 40) R23_9_N rfl rfl rfl (ov_fldA rfl rfl underlying30 rfl sz26 (by decide) h1 hp88 rfl hv89) ?_
    obtain ⟨b91, i92, aw90, hp93, hw94, ho95, ha96, H⟩ := H
    refine lk (dt := none) R23_9_N rfl rfl rfl (ov_st rfl rfl rfl rfl rfl (cells_all ho95) sz26 hp93 hw94 ho95 ha96) ?_
    refine aops_nil ?_
    refine ago_inBlock ?_
    refine ago_cut (fun ρ => ρ 1 = s_1 ∧ ρ 2 = t_2 ∧ ρ 25 = t_25 ∧ ρ 26 = .int .i64 t_26 ∧ ρ 27 = .int .i64 t_27 ∧ True) ⟨h1, h2, h25, h26, h27, trivial⟩ (fun ρ ⟨h1, h2, h25, h26, h27, _⟩ => ?_)
    refine ago_regE E23_28 (l := [0, 1]) rfl ?_
    refine lk (dt := some 41) R23_10_N rfl rfl rfl (opv_add rfl rfl rfl h27 rfl) ?_
    refine lk (dt := some 27) R23_10_N rfl rfl rfl (opv_move rfl rfl rfl) ?_
    refine aops_nil ?_
    refine ago_inLoop ?_
    exact L1 _ s_1 t_2 t_25 t_26 (IntKind.i64.wrap (t_27 + 1)) aw90 h1 h2 h25 h26 rfl H
  replace H := cnd_f H hb1
  refine ago_exitE E23_20 rfl ?_
  refine ago_seqE E23_29 ?_
  refine ago_regE E23_30 (l := [0, 1]) rfl ?_
  obtain ⟨b97, i98, hp99, c100, hg116, c101, hg117, c102, hg118, c103, hg119, c104, hg120, c105, hg121, c106, hg122, c107, hg123, c108, hg124, c109, hg125, c110, hg126, c111, hg127, c112, hg128, c113, hg129, c114, hg130, c115, hg131, H⟩ := H
  refine lk (dt := some 42) R23_11_N rfl rfl rfl (ov_ldN rfl underlying30 rfl sz30 rfl h1 hp99 (getN_cons hg116 (getN_cons hg117 (getN_cons hg118 (getN_cons hg119 (getN_cons hg120 (getN_cons hg121 (getN_cons hg122 (getN_cons hg123 (getN_cons hg124 (getN_cons hg125 (getN_cons hg126 (getN_cons hg127 (getN_cons hg128 (getN_cons hg129 (getN_cons hg130 (getN_cons hg131 getN_nil))))))))))))))))) ?_
  obtain ⟨b133, i134, aw132, hp135, hw136, ho137, ha138, H⟩ := H
  refine lk (dt := none) R23_11_N rfl rfl rfl (ov_st rfl rfl rfl h2 rfl rfl sz30 hp135 hw136 ho137 ha138) ?_
  refine aops_nil ?_
  obtain ⟨b139, i140, hp141, c142, hg158, c143, hg159, c144, hg160, c145, hg161, c146, hg162, c147, hg163, c148, hg164, c149, hg165, c150, hg166, c151, hg167, c152, hg168, c153, hg169, c154, hg170, c155, hg171, c156, hg172, c157, hg173, H⟩ := H
  exact ago_retE E23_31 (r := (c142, c143, c144, c145, c146, c147, c148, c149, c150, c151, c152, c153, c154, c155, c156, c157)) (ares_1 rfl (oneN h2 hp141 underlying30 rfl sz30 (getN_cons hg158 (getN_cons hg159 (getN_cons hg160 (getN_cons hg161 (getN_cons hg162 (getN_cons hg163 (getN_cons hg164 (getN_cons hg165 (getN_cons hg166 (getN_cons hg167 (getN_cons hg168 (getN_cons hg169 (getN_cons hg170 (getN_cons hg171 (getN_cons hg172 (getN_cons hg173 getN_nil)))))))))))))))))) rfl H
theorem S23_1_ok (Q : (Int × Int × Int × Int × Int × Int × Int × Value × Value × Int × Int × Int × Int × Value × Value × Value) → AW → Prop) (E : List PanicEntry → AW → Prop)  : ∀ (n : Nat) (ρ : Env) (s_1 : Value) (t_2 : Value) (t_25 : Value) (t_26 : Int) (t_27 : Int) (aw : AW) (h1 : ρ 1 = s_1) (h2 : ρ 2 = t_2) (h25 : ρ 25 = t_25) (h26 : ρ 26 = .int .i64 t_26) (h27 : ρ 27 = .int .i64 t_27), S23_1 Q E  n s_1 t_2 t_25 t_26 t_27 aw →
    AGo prog 43 [.code C23_15, .inLoop C23_15, .inBlock 0, .code C23_29] ρ [] aw (RR prog f23 43 sh23 Q E)
  | 0, _, _, _, _, _, _, _, _, _, _, _, _ => fun H => H.elim
  | n + 1, ρ, s_1, t_2, t_25, t_26, t_27, aw, h1, h2, h25, h26, h27 => fun H => S23_1s_ok Q E  _ (S23_1_ok Q E  n) ρ s_1 t_2 t_25 t_26 t_27 aw h1 h2 h25 h26 h27 H
theorem S23_0_ok (Q : (Int × Int × Int × Int × Int × Int × Int × Value × Value × Int × Int × Int × Int × Value × Value × Value) → AW → Prop) (E : List PanicEntry → AW → Prop)  (ρ : Env) (s_0_0 : Int) (s_0_1 : Int) (s_0_2 : Int) (s_0_3 : Int) (s_0_4 : Int) (s_0_5 : Int) (s_0_6 : Int) (s_0_7 : Value) (s_0_8 : Value) (s_0_9 : Int) (s_0_10 : Int) (s_0_11 : Int) (s_0_12 : Int) (s_0_13 : Value) (s_0_14 : Value) (s_0_15 : Value) (aw : AW) (h0 : ρ 0 = .agg #[.int .i64 s_0_0, .int .i64 s_0_1, .int .i64 s_0_2, .int .u64 s_0_3, .int .i64 s_0_4, .int .u64 s_0_5, .int .u64 s_0_6, s_0_7, s_0_8, .int .u64 s_0_9, .int .u8 s_0_10, .int .i64 s_0_11, .int .i64 s_0_12, s_0_13, s_0_14, s_0_15]) (H : S23_0 Q E  s_0_0 s_0_1 s_0_2 s_0_3 s_0_4 s_0_5 s_0_6 s_0_7 s_0_8 s_0_9 s_0_10 s_0_11 s_0_12 s_0_13 s_0_14 s_0_15 aw) :
    AGo prog 43 [.code C23_0] ρ [] aw (RR prog f23 43 sh23 Q E) := by
  unfold S23_0 at H
  refine ago_seqE E23_0 ?_
  refine ago_regE E23_1 (l := [0, 1]) rfl ?_
  obtain ⟨p174, aw175, hp176, ha177, H⟩ := H
  refine lk (dt := some 1) R23_0_N rfl rfl rfl (ov_box rfl rfl h0 rfl hp176 ha177) ?_
  obtain ⟨p178, aw179, hp180, ha181, H⟩ := H
  refine lk (dt := some 2) R23_0_N rfl rfl rfl (ov_alloc rfl z30 rfl rfl hp180 ha181) ?_
  refine aops_nil ?_
  refine ago_seqE E23_2 ?_
  refine ago_regE E23_3 (l := [0, 1, 2, 3, 4]) rfl ?_
  obtain ⟨b183, i184, p182, hp185, hv186, H⟩ := H
  refine lk (dt := some 6) R23_1_N rfl rfl rfl (ov_fldA rfl rfl underlying30 rfl sz25 (by decide) rfl hp185 rfl hv186) ?_
  obtain ⟨b187, i188, x190, hp189, hg191, H⟩ := H
  refine lk (dt := some 7) R23_1_N rfl rfl rfl (ov_ldV rfl underlying25 rfl rfl rfl hp189 hg191) ?_
  refine lk_call (dt := some 8) R23_1_N rfl rfl rfl (opc_of rfl rfl is57 (ma_cons rfl rfl)) H (fun _ _ h => ⟨rfl, h⟩) fun r192 aw193 H => ?_
  obtain ⟨b195, i196, p194, hp197, hv198, H⟩ := H
  refine lk (dt := some 9) R23_1_N rfl rfl rfl (ov_fldA rfl rfl underlying30 rfl sz25 (by decide) rfl hp197 rfl hv198) ?_
  obtain ⟨b200, i201, aw199, hp202, hw203, ho204, ha205, H⟩ := H
  refine lk (dt := none) R23_1_N rfl rfl rfl (ov_st rfl rfl rfl rfl rfl (cells_all ho204) sz25 hp202 hw203 ho204 ha205) ?_
  refine aops_nil ?_
  refine ago_seqE E23_4 ?_
  obtain ⟨b207, i208, p206, hp209, hv210, H⟩ := H
  obtain ⟨b211, i212, x214, hp213, hg215, H⟩ := H
  obtain ⟨b217, i218, p216, hp219, hv220, H⟩ := H
  obtain ⟨b221, i222, x224, hp223, hg225, H⟩ := H
  obtain ⟨b227, i228, p226, hp229, hv230, H⟩ := H
  obtain ⟨b231, i232, x234, hp233, hg235, H⟩ := H
  refine ago_drawH (p := [0, 1, 3, 4, 6, 7]) (tl := [(2, [3, 4, 6, 7], [9]), (5, [6, 7, 9], []), (8, [9], []), (10, [], [11]), (12, [], [13]), (14, [], [])]) (hv := [(0, p206), (1, x214), (3, p216), (4, x224), (6, p226), (7, x234)]) E23_5 mixed R23_2_N R23_2_O rfl (pv_cons rfl (pv_cons rfl (pv_cons rfl (pv_cons rfl (pv_cons rfl (pv_cons rfl (pv_nil _)))))))
    (ffc (d := 10) (v := p206) (hd_v rfl fun ρ hρ => ⟨rfl, ov_fldA rfl rfl underlying30 rfl sz27 (by decide) ((hρ 1 (lmem rfl)).trans rfl) hp209 rfl hv210⟩) rfl rfl
    (ffc (d := 11) (v := x214) (hd_v rfl fun ρ hρ => ⟨rfl, ov_ldV rfl underlying27 rfl rfl ((hρ 10 (lmem rfl)).trans rfl) hp213 hg215⟩) rfl rfl
    (ffc (d := 13) (v := p216) (hd_v rfl fun ρ hρ => ⟨rfl, ov_fldA rfl rfl underlying30 rfl sz28 (by decide) ((hρ 1 (lmem rfl)).trans rfl) hp219 rfl hv220⟩) rfl rfl
    (ffc (d := 14) (v := x224) (hd_v rfl fun ρ hρ => ⟨rfl, ov_ldV rfl underlying28 rfl rfl ((hρ 13 (lmem rfl)).trans rfl) hp223 hg225⟩) rfl rfl
    (ffc (d := 16) (v := p226) (hd_v rfl fun ρ hρ => ⟨rfl, ov_fldA rfl rfl underlying30 rfl sz28 (by decide) ((hρ 1 (lmem rfl)).trans rfl) hp229 rfl hv230⟩) rfl rfl
    (ffc (d := 17) (v := x234) (hd_v rfl fun ρ hρ => ⟨rfl, ov_ldV rfl underlying28 rfl rfl ((hρ 16 (lmem rfl)).trans rfl) hp233 hg235⟩) rfl rfl
    ffn)))))) ?_
  refine lt_call (dt := some 12) rfl rfl (fun ρ hρ => ⟨rfl, opc_of rfl rfl is58 (ma_cons ((hρ 11 (lmem rfl)).trans rfl) rfl)⟩) H (fun _ _ h _ => ⟨rfl, h⟩) fun r236 aw237 H => ?_
  obtain ⟨hg225, H⟩ := H
  replace hg225 := hg225 _ _ hp223
  obtain ⟨hg235, H⟩ := H
  replace hg235 := hg235 _ _ hp233
  obtain ⟨b239, i240, p238, hp241, hv242, H⟩ := H
  refine lt_next (l := [3, 4, 6, 7, 9]) (hv := [(9, p238)]) rfl rfl (pv_cons rfl (pv_nil _))
    (ffc (d := 13) (v := p216) (hd_v rfl fun ρ hρ => ⟨rfl, ov_fldA rfl rfl underlying30 rfl sz28 (by decide) ((hρ 1 (lmem rfl)).trans rfl) hp219 rfl hv220⟩) rfl rfl
    (ffc (d := 14) (v := x224) (hd_v rfl fun ρ hρ => ⟨rfl, ov_ldV rfl underlying28 rfl rfl ((hρ 13 (lmem rfl)).trans rfl) hp223 hg225⟩) rfl rfl
    (ffc (d := 16) (v := p226) (hd_v rfl fun ρ hρ => ⟨rfl, ov_fldA rfl rfl underlying30 rfl sz28 (by decide) ((hρ 1 (lmem rfl)).trans rfl) hp229 rfl hv230⟩) rfl rfl
    (ffc (d := 17) (v := x234) (hd_v rfl fun ρ hρ => ⟨rfl, ov_ldV rfl underlying28 rfl rfl ((hρ 16 (lmem rfl)).trans rfl) hp233 hg235⟩) rfl rfl
    (ffc (d := 19) (v := p238) (hd_v rfl fun ρ hρ => ⟨rfl, ov_fldA rfl rfl underlying30 rfl sz27 (by decide) ((hρ 1 (lmem rfl)).trans rfl) hp241 rfl hv242⟩) rfl rfl
    ffn))))) ?_
  refine lt_call (dt := some 15) rfl rfl (fun ρ hρ => ⟨rfl, opc_of rfl rfl is59 (ma_cons ((hρ 14 (lmem rfl)).trans rfl) rfl)⟩) H (fun _ _ h _ => ⟨rfl, h⟩) fun r243 aw244 H => ?_
  obtain ⟨hg235, H⟩ := H
  replace hg235 := hg235 _ _ hp233
  refine lt_next (l := [6, 7, 9]) (hv := []) rfl rfl (pv_nil _)
    (ffc (d := 16) (v := p226) (hd_v rfl fun ρ hρ => ⟨rfl, ov_fldA rfl rfl underlying30 rfl sz28 (by decide) ((hρ 1 (lmem rfl)).trans rfl) hp229 rfl hv230⟩) rfl rfl
    (ffc (d := 17) (v := x234) (hd_v rfl fun ρ hρ => ⟨rfl, ov_ldV rfl underlying28 rfl rfl ((hρ 16 (lmem rfl)).trans rfl) hp233 hg235⟩) rfl rfl
    (ffc (d := 19) (v := p238) (hd_v rfl fun ρ hρ => ⟨rfl, ov_fldA rfl rfl underlying30 rfl sz27 (by decide) ((hρ 1 (lmem rfl)).trans rfl) hp241 rfl hv242⟩) rfl rfl
    ffn))) ?_
  refine lt_call (dt := some 18) rfl rfl (fun ρ hρ => ⟨rfl, opc_of rfl rfl is59 (ma_cons ((hρ 17 (lmem rfl)).trans rfl) rfl)⟩) H (fun _ _ h _ => ⟨rfl, h⟩) fun r245 aw246 H => ?_
  refine lt_next (l := [9]) (hv := []) rfl rfl (pv_nil _)
    (ffc (d := 19) (v := p238) (hd_v rfl fun ρ hρ => ⟨rfl, ov_fldA rfl rfl underlying30 rfl sz27 (by decide) ((hρ 1 (lmem rfl)).trans rfl) hp241 rfl hv242⟩) rfl rfl
    ffn) ?_
  obtain ⟨b248, i249, aw247, hp250, hw251, ho252, ha253, H⟩ := H
  refine lt_val (dt := none) (v := undef) rfl rfl (fun ρ hρ => ⟨rfl, ov_st rfl rfl rfl ((hρ 19 (lmem rfl)).trans rfl) ((hρ 12 (lmem rfl)).trans rfl) (cells_all ho252) sz27 hp250 hw251 ho252 ha253⟩) ?_
  obtain ⟨b255, i256, p254, hp257, hv258, H⟩ := H
  refine lt_next (l := [11]) (hv := [(11, p254)]) rfl rfl (pv_cons rfl (pv_nil _))
    (ffc (d := 20) (v := p254) (hd_v rfl fun ρ hρ => ⟨rfl, ov_fldA rfl rfl underlying30 rfl sz28 (by decide) ((hρ 1 (lmem rfl)).trans rfl) hp257 rfl hv258⟩) rfl rfl
    ffn) ?_
  obtain ⟨b260, i261, aw259, hp262, hw263, ho264, ha265, H⟩ := H
  refine lt_val (dt := none) (v := undef) rfl rfl (fun ρ hρ => ⟨rfl, ov_st rfl rfl rfl ((hρ 20 (lmem rfl)).trans rfl) ((hρ 15 (lmem rfl)).trans rfl) (cells_all ho264) sz28 hp262 hw263 ho264 ha265⟩) ?_
  obtain ⟨b267, i268, p266, hp269, hv270, H⟩ := H
  refine lt_next (l := [13]) (hv := [(13, p266)]) rfl rfl (pv_cons rfl (pv_nil _))
    (ffc (d := 21) (v := p266) (hd_v rfl fun ρ hρ => ⟨rfl, ov_fldA rfl rfl underlying30 rfl sz28 (by decide) ((hρ 1 (lmem rfl)).trans rfl) hp269 rfl hv270⟩) rfl rfl
    ffn) ?_
  obtain ⟨b272, i273, aw271, hp274, hw275, ho276, ha277, H⟩ := H
  refine lt_val (dt := none) (v := undef) rfl rfl (fun ρ hρ => ⟨rfl, ov_st rfl rfl rfl ((hρ 21 (lmem rfl)).trans rfl) ((hρ 18 (lmem rfl)).trans rfl) (cells_all ho276) sz28 hp274 hw275 ho276 ha277⟩) ?_
  refine lt_next (l := []) (hv := []) rfl rfl (pv_nil _)
    ffn ?_
  refine lt_end ?_
  refine ago_seqE E23_6 ?_
  refine ago_cut (fun ρ => ρ 1 = p174 ∧ ρ 2 = p178 ∧ True) ⟨rfl, rfl, trivial⟩ (fun ρ ⟨h1, h2, _⟩ => ?_)
  refine ago_regE E23_7 (l := [0, 1, 2]) rfl ?_
  obtain ⟨b279, i280, p278, hp281, hv282, H⟩ := H
  refine lk (dt := some 22) R23_3_N rfl rfl rfl (ov_fldA rfl rfl underlying30 rfl sz26 (by decide) h1 hp281 rfl hv282) ?_
  obtain ⟨b283, i284, x286, hp285, hg287, H⟩ := H
  refine lk (dt := some 23) R23_3_N rfl rfl rfl (ov_ldV rfl underlying26 rfl rfl rfl hp285 hg287) ?_
  refine lk (dt := some 3) R23_3_N rfl rfl rfl (opv_assign rfl rfl rfl) ?_
  refine aops_nil ?_
  refine ago_seqE E23_8 ?_
  refine ago_regE E23_9 (l := [0, 1]) rfl ?_
  obtain ⟨b289, i290, p288, hp291, hv292, H⟩ := H
  refine lk (dt := some 24) R23_4_N rfl rfl rfl (ov_fldA rfl rfl underlying30 rfl sz26 (by decide) h1 hp291 rfl hv292) ?_
  obtain ⟨b294, i295, aw293, hp296, hw297, ho298, ha299, H⟩ := H
  refine lk (dt := none) R23_4_N rfl rfl rfl (ov_st rfl rfl rfl rfl rfl (cells_all ho298) sz26 hp296 hw297 ho298 ha299) ?_
  refine aops_nil ?_
  refine ago_seqE E23_10 ?_
  refine ago_seqE E23_11 ?_
  refine ago_regE E23_12 (l := [0, 1, 2]) rfl ?_
  refine lk (dt := some 25) R23_5_N rfl rfl rfl (opv_move rfl rfl rfl) ?_
  obtain ⟨q301, l302, c303, n300, hv304, hn305, H⟩ := H
  refine lk (dt := some 26) R23_5_N rfl rfl rfl (ov_len rfl rfl rfl underlying26 rfl hv304 hn305) ?_
  refine lk (dt := some 27) R23_5_N rfl rfl rfl (opv_move rfl rfl rfl) ?_
  refine aops_nil ?_
  refine ago_blockE E23_13 ?_
  refine ago_loopE E23_14 ?_
  obtain ⟨n, H⟩ := H
  exact S23_1_ok Q E  n _ p174 p178 x286 n300 0 aw293 h1 h2 rfl rfl rfl H
theorem F23_ok {Q : (Int × Int × Int × Int × Int × Int × Int × Value × Value × Int × Int × Int × Int × Value × Value × Value) → AW → Prop} {E : List PanicEntry → AW → Prop} (s_0_0 : Int) (s_0_1 : Int) (s_0_2 : Int) (s_0_3 : Int) (s_0_4 : Int) (s_0_5 : Int) (s_0_6 : Int) (s_0_7 : Value) (s_0_8 : Value) (s_0_9 : Int) (s_0_10 : Int) (s_0_11 : Int) (s_0_12 : Int) (s_0_13 : Value) (s_0_14 : Value) (s_0_15 : Value) (aw : AW) (H : S23_0 Q E s_0_0 s_0_1 s_0_2 s_0_3 s_0_4 s_0_5 s_0_6 s_0_7 s_0_8 s_0_9 s_0_10 s_0_11 s_0_12 s_0_13 s_0_14 s_0_15 aw) : CallP prog 23 [.agg #[.int .i64 s_0_0, .int .i64 s_0_1, .int .i64 s_0_2, .int .u64 s_0_3, .int .i64 s_0_4, .int .u64 s_0_5, .int .u64 s_0_6, s_0_7, s_0_8, .int .u64 s_0_9, .int .u8 s_0_10, .int .i64 s_0_11, .int .i64 s_0_12, s_0_13, s_0_14, s_0_15]] aw sh23 Q E :=
  callP_of func23 C23_is rfl (Nat.le_of_ble_eq_true rfl) (S23_0_ok Q E _ s_0_0 s_0_1 s_0_2 s_0_3 s_0_4 s_0_5 s_0_6 s_0_7 s_0_8 s_0_9 s_0_10 s_0_11 s_0_12 s_0_13 s_0_14 s_0_15 aw rfl H)
def C27_0 : Code := bodyOf f27
theorem C27_is : f27.body = some C27_0 := by kernel_rfl
def C27_1 : Code := cl C27_0
def R27_0 : Array Oper := regOps C27_1
def C27_2 : Code := cr C27_0
def C27_3 : Code := cl C27_2
def C27_4 : Code := cl C27_3
def C27_5 : Code := cl C27_4
def R27_1 : Array Oper := regOps C27_5
def C27_6 : Code := cr C27_4
def C27_7 : Code := cl C27_6
def C27_8 : Code := cl C27_7
def R27_2 : Array Oper := regOps C27_8
def C27_9 : Code := cr C27_7
def C27_10 : Code := cr C27_6
def C27_11 : Code := cl C27_10
def R27_3 : Array Oper := regOps C27_11
def C27_12 : Code := cr C27_10
def C27_13 : Code := cl C27_12
def C27_14 : Code := cl C27_13
def R27_4 : Array Oper := regOps C27_14
def C27_15 : Code := cr C27_13
def C27_16 : Code := cr C27_12
def C27_17 : Code := cr C27_2
def C27_18 : Code := cl C27_17
def R27_5 : Array Oper := regOps C27_18
def C27_19 : Code := cr C27_17
theorem R27_0_N : dstsOk 34 R27_0 = true := by decide +kernel
theorem E27_1 : C27_1 = .region 0 R27_0 false := rfl
theorem R27_1_N : dstsOk 34 R27_1 = true := by decide +kernel
theorem E27_5 : C27_5 = .region 1 R27_1 false := rfl
theorem R27_2_N : dstsOk 34 R27_2 = true := by decide +kernel
theorem E27_8 : C27_8 = .region 2 R27_2 false := rfl
theorem E27_9 : C27_9 = .ret := rfl
theorem E27_7 : C27_7 = .seq C27_8 C27_9 := rfl
theorem R27_3_N : dstsOk 34 R27_3 = true := by decide +kernel
theorem E27_11 : C27_11 = .region 3 R27_3 false := rfl
theorem R27_4_N : dstsOk 34 R27_4 = true := by decide +kernel
theorem E27_14 : C27_14 = .region 4 R27_4 false := rfl
theorem E27_15 : C27_15 = .ret := rfl
theorem E27_13 : C27_13 = .seq C27_14 C27_15 := rfl
theorem E27_16 : C27_16 = .skip := rfl
theorem E27_12 : C27_12 = .cond (.tmp 17) C27_13 C27_16 := rfl
theorem E27_10 : C27_10 = .seq C27_11 C27_12 := rfl
theorem E27_6 : C27_6 = .cond (.tmp 6) C27_7 C27_10 := rfl
theorem E27_4 : C27_4 = .seq C27_5 C27_6 := rfl
theorem E27_3 : C27_3 = .block 0 C27_4 := rfl
theorem R27_5_N : dstsOk 34 R27_5 = true := by decide +kernel
theorem E27_18 : C27_18 = .region 5 R27_5 false := rfl
theorem E27_19 : C27_19 = .ret := rfl
theorem E27_17 : C27_17 = .seq C27_18 C27_19 := rfl
theorem E27_2 : C27_2 = .seq C27_3 C27_17 := rfl
theorem E27_0 : C27_0 = .seq C27_1 C27_2 := rfl
def S27_1 (Q : (Int × Bool) → AW → Prop) (E : List PanicEntry → AW → Prop)  (i_1 : Int) (s_2 : Value) (t_6 : Bool) (aw : AW) : Prop :=
  cnd t_6 (Q (0, false) aw) (fldA s_2 5 fun p2 =>
  ldI .u64 aw p2 fun x10 =>
  cnd (decide (i_1 = x10)) (fldA s_2 6 fun p13 =>
  ldI .u64 aw p13 fun x21 =>
  Q (x21, true) aw) (fldA s_2 8 fun p23 =>
  ldV aw p23 fun x31 =>
  fldA s_2 5 fun p33 =>
  ldI .u64 aw p33 fun x41 =>
  ixS x31 (IntKind.u64.wrap ((IntKind.u64.wrap (i_1 - x41)) - 1)) 4 fun p43 =>
  fldA p43 0 fun p52 =>
  ldI .u64 aw p52 fun x60 =>
  Q (x60, true) aw))
def S27_0 (Q : (Int × Bool) → AW → Prop) (E : List PanicEntry → AW → Prop)  (s_0_0 : Int) (s_0_1 : Int) (s_0_2 : Int) (s_0_3 : Int) (s_0_4 : Int) (s_0_5 : Int) (s_0_6 : Int) (s_0_7 : Value) (s_0_8 : Value) (s_0_9 : Int) (s_0_10 : Int) (s_0_11 : Int) (s_0_12 : Int) (s_0_13 : Value) (s_0_14 : Value) (s_0_15 : Value) (i_1 : Int) (aw : AW) : Prop :=
  alc aw [.int .i64 s_0_0, .int .i64 s_0_1, .int .i64 s_0_2, .int .u64 s_0_3, .int .i64 s_0_4, .int .u64 s_0_5, .int .u64 s_0_6, s_0_7, s_0_8, .int .u64 s_0_9, .int .u8 s_0_10, .int .i64 s_0_11, .int .i64 s_0_12, s_0_13, s_0_14, s_0_15] 30 0 fun p62 aw63 =>
  fldA p62 5 fun p66 =>
  ldI .u64 aw63 p66 fun x74 =>
  cnd (decide (i_1 < x74)) (S27_1 Q E  i_1 p62 true aw63) (ptr p62 fun b77 i78 =>
  gI .i64 aw63 b77 i78 fun c80 =>
  gI .i64 aw63 b77 (i78 + 1) fun c81 =>
  gI .i64 aw63 b77 (i78 + 2) fun c82 =>
  gI .u64 aw63 b77 (i78 + 3) fun c83 =>
  gI .i64 aw63 b77 (i78 + 4) fun c84 =>
  gI .u64 aw63 b77 (i78 + 5) fun c85 =>
  gI .u64 aw63 b77 (i78 + 6) fun c86 =>
  gV aw63 b77 (i78 + 7) fun c87 =>
  gV aw63 b77 (i78 + 8) fun c88 =>
  gI .u64 aw63 b77 (i78 + 9) fun c89 =>
  gI .u8 aw63 b77 (i78 + 10) fun c90 =>
  gI .i64 aw63 b77 (i78 + 11) fun c91 =>
  gI .i64 aw63 b77 (i78 + 12) fun c92 =>
  gV aw63 b77 (i78 + 13) fun c93 =>
  gV aw63 b77 (i78 + 14) fun c94 =>
  gV aw63 b77 (i78 + 15) fun c95 =>
  CallP prog 22 [.agg #[.int .i64 c80, .int .i64 c81, .int .i64 c82, .int .u64 c83, .int .i64 c84, .int .u64 c85, .int .u64 c86, c87, c88, .int .u64 c89, .int .u8 c90, .int .i64 c91, .int .i64 c92, c93, c94, c95]] aw63 sh22 (fun r112 aw113 =>
  S27_1 Q E  i_1 p62 (decide (r112 < i_1)) aw113) E)
theorem S27_1_ok (Q : (Int × Bool) → AW → Prop) (E : List PanicEntry → AW → Prop)  (ρ : Env) (i_1 : Int) (s_2 : Value) (t_6 : Bool) (aw : AW) (h1 : ρ 1 = .int .u64 i_1) (h2 : ρ 2 = s_2) (h6 : ρ 6 = .bool t_6) (H : S27_1 Q E  i_1 s_2 t_6 aw) :
    AGo prog 34 [.code C27_6, .inBlock 0, .code C27_17] ρ [] aw (RR prog f27 34 sh27 Q E) := by
  unfold S27_1 at H
  refine ago_condE  E27_6 rfl h6 (fun hb1 => ?_) (fun hb1 => ?_)
  · replace H := cnd_t H hb1
    refine ago_seqE E27_7 ?_
    refine ago_regE E27_8 (l := [0, 1]) rfl ?_
    refine lk (dt := some 4) R27_2_N rfl rfl rfl (opv_assign rfl rfl rfl) ?_
    refine lk (dt := some 5) R27_2_N rfl rfl rfl (opv_assign rfl rfl rfl) ?_
    refine aops_nil ?_
    exact ago_retE E27_9 (r := (0, false)) (ares_2 rfl (oneT rfl) (oneT rfl)) rfl H
  replace H := cnd_f H hb1
  refine ago_seqE E27_10 ?_
  refine ago_regE E27_11 (l := [0, 1, 2, 3, 4]) rfl ?_
  refine lk (dt := some 18) R27_3_N rfl rfl rfl (opv_move rfl rfl h1) ?_
  obtain ⟨b3, i4, p2, hp5, hv6, H⟩ := H
  refine lk (dt := some 19) R27_3_N rfl rfl rfl (ov_fldA rfl rfl underlying30 rfl sz24 (by decide) h2 hp5 rfl hv6) ?_
  obtain ⟨b7, i8, x10, hp9, hg11, H⟩ := H
  refine lk (dt := some 20) R27_3_N rfl rfl rfl (ov_ldI rfl underlying24 rfl rfl hp9 hg11) ?_
  refine lk (dt := some 21) R27_3_N rfl rfl rfl (opv_eqI rfl rfl rfl rfl rfl) ?_
  refine lk (dt := some 17) R27_3_N rfl rfl rfl (opv_assign rfl rfl rfl) ?_
  refine aops_nil ?_
  refine ago_condE  E27_12 rfl rfl (fun hb12 => ?_) (fun hb12 => ?_)
  · replace H := cnd_t H hb12
    refine ago_seqE E27_13 ?_
    refine ago_regE E27_14 (l := [0, 1, 2, 3]) rfl ?_
    obtain ⟨b14, i15, p13, hp16, hv17, H⟩ := H
    refine lk (dt := some 22) R27_4_N rfl rfl rfl (ov_fldA rfl rfl underlying30 rfl sz24 (by decide) h2 hp16 rfl hv17) ?_
    obtain ⟨b18, i19, x21, hp20, hg22, H⟩ := H
    refine lk (dt := some 23) R27_4_N rfl rfl rfl (ov_ldI rfl underlying24 rfl rfl hp20 hg22) ?_
    refine lk (dt := some 4) R27_4_N rfl rfl rfl (opv_assign rfl rfl rfl) ?_
    refine lk (dt := some 5) R27_4_N rfl rfl rfl (opv_assign rfl rfl rfl) ?_
    refine aops_nil ?_
    exact ago_retE E27_15 (r := (x21, true)) (ares_2 rfl (oneT rfl) (oneT rfl)) rfl H
  replace H := cnd_f H hb12
  refine ago_skipE E27_16 ?_
  refine ago_inBlock ?_
  refine ago_seqE E27_17 ?_
  refine ago_regE E27_18 (l := [0, 1, 2, 3, 4, 5, 6, 7, 8, 9, 10, 11]) rfl ?_
  obtain ⟨b24, i25, p23, hp26, hv27, H⟩ := H
  refine lk (dt := some 24) R27_5_N rfl rfl rfl (ov_fldA rfl rfl underlying30 rfl sz26 (by decide) h2 hp26 rfl hv27) ?_
  obtain ⟨b28, i29, x31, hp30, hg32, H⟩ := H
  refine lk (dt := some 25) R27_5_N rfl rfl rfl (ov_ldV rfl underlying26 rfl rfl rfl hp30 hg32) ?_
  refine lk (dt := some 26) R27_5_N rfl rfl rfl (opv_move rfl rfl h1) ?_
  obtain ⟨b34, i35, p33, hp36, hv37, H⟩ := H
  refine lk (dt := some 27) R27_5_N rfl rfl rfl (ov_fldA rfl rfl underlying30 rfl sz24 (by decide) h2 hp36 rfl hv37) ?_
  obtain ⟨b38, i39, x41, hp40, hg42, H⟩ := H
  refine lk (dt := some 28) R27_5_N rfl rfl rfl (ov_ldI rfl underlying24 rfl rfl hp40 hg42) ?_
  refine lk (dt := some 29) R27_5_N rfl rfl rfl (opv_sub rfl rfl rfl rfl rfl) ?_
  refine lk (dt := some 30) R27_5_N rfl rfl rfl (opv_sub rfl rfl rfl rfl rfl) ?_
  obtain ⟨b44, i45, l46, c47, p43, hp48, h049, hj50, hv51, H⟩ := H
  refine lk (dt := some 31) R27_5_N rfl rfl rfl (ov_ixS rfl rfl rfl underlying26 sz40 rfl rfl hp48 h049 hj50 hv51) ?_
  obtain ⟨b53, i54, p52, hp55, hv56, H⟩ := H
  refine lk (dt := some 32) R27_5_N rfl rfl rfl (ov_fldA rfl rfl underlying40 rfl sz24 (by decide) rfl hp55 rfl hv56) ?_
  obtain ⟨b57, i58, x60, hp59, hg61, H⟩ := H
  refine lk (dt := some 33) R27_5_N rfl rfl rfl (ov_ldI rfl underlying24 rfl rfl hp59 hg61) ?_
  refine lk (dt := some 4) R27_5_N rfl rfl rfl (opv_assign rfl rfl rfl) ?_
  refine lk (dt := some 5) R27_5_N rfl rfl rfl (opv_assign rfl rfl rfl) ?_
  refine aops_nil ?_
  exact ago_retE E27_19 (r := (x60, true)) (ares_2 rfl (oneT rfl) (oneT rfl)) rfl H
theorem S27_0_ok (Q : (Int × Bool) → AW → Prop) (E : List PanicEntry → AW → Prop)  (ρ : Env) (s_0_0 : Int) (s_0_1 : Int) (s_0_2 : Int) (s_0_3 : Int) (s_0_4 : Int) (s_0_5 : Int) (s_0_6 : Int) (s_0_7 : Value) (s_0_8 : Value) (s_0_9 : Int) (s_0_10 : Int) (s_0_11 : Int) (s_0_12 : Int) (s_0_13 : Value) (s_0_14 : Value) (s_0_15 : Value) (i_1 : Int) (aw : AW) (h0 : ρ 0 = .agg #[.int .i64 s_0_0, .int .i64 s_0_1, .int .i64 s_0_2, .int .u64 s_0_3, .int .i64 s_0_4, .int .u64 s_0_5, .int .u64 s_0_6, s_0_7, s_0_8, .int .u64 s_0_9, .int .u8 s_0_10, .int .i64 s_0_11, .int .i64 s_0_12, s_0_13, s_0_14, s_0_15]) (h1 : ρ 1 = .int .u64 i_1) (H : S27_0 Q E  s_0_0 s_0_1 s_0_2 s_0_3 s_0_4 s_0_5 s_0_6 s_0_7 s_0_8 s_0_9 s_0_10 s_0_11 s_0_12 s_0_13 s_0_14 s_0_15 i_1 aw) :
    AGo prog 34 [.code C27_0] ρ [] aw (RR prog f27 34 sh27 Q E) := by
  unfold S27_0 at H
  refine ago_seqE E27_0 ?_
  refine ago_regE E27_1 (l := [0, 1, 2]) rfl ?_
  obtain ⟨p62, aw63, hp64, ha65, H⟩ := H
  refine lk (dt := some 2) R27_0_N rfl rfl rfl (ov_box rfl rfl h0 rfl hp64 ha65) ?_
  refine lk (dt := some 4) R27_0_N rfl rfl rfl (opv_assign rfl rfl rfl) ?_
  refine lk (dt := some 5) R27_0_N rfl rfl rfl (opv_assign rfl rfl rfl) ?_
  refine aops_nil ?_
  refine ago_seqE E27_2 ?_
  refine ago_blockE E27_3 ?_
  refine ago_seqE E27_4 ?_
  refine ago_regE E27_5 (l := [0, 1, 2, 3, 4, 5, 6, 7, 8, 9, 10]) rfl ?_
  refine lk (dt := some 7) R27_1_N rfl rfl rfl (opv_move rfl rfl h1) ?_
  obtain ⟨b67, i68, p66, hp69, hv70, H⟩ := H
  refine lk (dt := some 8) R27_1_N rfl rfl rfl (ov_fldA rfl rfl underlying30 rfl sz24 (by decide) rfl hp69 rfl hv70) ?_
  obtain ⟨b71, i72, x74, hp73, hg75, H⟩ := H
  refine lk (dt := some 9) R27_1_N rfl rfl rfl (ov_ldI rfl underlying24 rfl rfl hp73 hg75) ?_
  refine lk (dt := some 10) R27_1_N rfl rfl rfl (opv_lt rfl rfl rfl rfl rfl) ?_
  refine lk (dt := some 11) R27_1_N rfl rfl rfl (opv_move rfl rfl rfl) ?_
  rcases Bool.eq_false_or_eq_true (decide (i_1 < x74)) with hb76 | hb76
  · replace H := cnd_t H hb76
    refine lk_skip (dt := some 12) R27_1_N rfl rfl ⟨_, rfl, .inl ⟨_, rfl, gq hb76 rfl⟩⟩ ?_
    refine lk_skip (dt := some 13) R27_1_N rfl rfl ⟨_, rfl, .inl ⟨_, rfl, gq hb76 rfl⟩⟩ ?_
    refine lk_skip (dt := some 14) R27_1_N rfl rfl ⟨_, rfl, .inl ⟨_, rfl, gq hb76 rfl⟩⟩ ?_
    refine lk_skip (dt := some 15) R27_1_N rfl rfl ⟨_, rfl, .inl ⟨_, rfl, gq hb76 rfl⟩⟩ ?_
    refine lk (dt := some 16) R27_1_N rfl rfl rfl (ov_pickT rfl rfl rfl rfl rfl hb76 rfl) ?_
    refine lk (dt := some 6) R27_1_N rfl rfl rfl (opv_assign rfl rfl rfl) ?_
    refine aops_nil ?_
    exact S27_1_ok Q E  _ i_1 p62 true aw63 h1 rfl rfl H
  · replace H := cnd_f H hb76
    refine lk (dt := some 12) R27_1_N rfl rfl ⟨_, rfl, .inl ⟨_, rfl, gq hb76 rfl⟩⟩ (opv_move rfl rfl h1) ?_
    obtain ⟨b77, i78, hp79, c80, hg96, c81, hg97, c82, hg98, c83, hg99, c84, hg100, c85, hg101, c86, hg102, c87, hg103, c88, hg104, c89, hg105, c90, hg106, c91, hg107, c92, hg108, c93, hg109, c94, hg110, c95, hg111, H⟩ := H
    refine lk (dt := some 13) R27_1_N rfl rfl ⟨_, rfl, .inl ⟨_, rfl, gq hb76 rfl⟩⟩ (ov_ldN rfl underlying30 rfl sz30 rfl rfl hp79 (getN_cons hg96 (getN_cons hg97 (getN_cons hg98 (getN_cons hg99 (getN_cons hg100 (getN_cons hg101 (getN_cons hg102 (getN_cons hg103 (getN_cons hg104 (getN_cons hg105 (getN_cons hg106 (getN_cons hg107 (getN_cons hg108 (getN_cons hg109 (getN_cons hg110 (getN_cons hg111 getN_nil))))))))))))))))) ?_
    refine lk_call (dt := some 14) R27_1_N rfl rfl ⟨_, rfl, .inl ⟨_, rfl, gq hb76 rfl⟩⟩ (opc_of rfl rfl is22 (ma_cons rfl rfl)) H (fun _ _ h => ⟨rfl, h⟩) fun r112 aw113 H => ?_
    refine lk (dt := some 15) R27_1_N rfl rfl ⟨_, rfl, .inl ⟨_, rfl, gq hb76 rfl⟩⟩ (opv_gt rfl rfl rfl rfl rfl) ?_
    refine lk (dt := some 16) R27_1_N rfl rfl rfl (ov_pickF rfl rfl rfl rfl rfl hb76 rfl) ?_
    refine lk (dt := some 6) R27_1_N rfl rfl rfl (opv_assign rfl rfl rfl) ?_
    refine aops_nil ?_
    exact S27_1_ok Q E  _ i_1 p62 (decide (r112 < i_1)) aw113 h1 rfl rfl H
theorem F27_ok {Q : (Int × Bool) → AW → Prop} {E : List PanicEntry → AW → Prop} (s_0_0 : Int) (s_0_1 : Int) (s_0_2 : Int) (s_0_3 : Int) (s_0_4 : Int) (s_0_5 : Int) (s_0_6 : Int) (s_0_7 : Value) (s_0_8 : Value) (s_0_9 : Int) (s_0_10 : Int) (s_0_11 : Int) (s_0_12 : Int) (s_0_13 : Value) (s_0_14 : Value) (s_0_15 : Value) (i_1 : Int) (aw : AW) (H : S27_0 Q E s_0_0 s_0_1 s_0_2 s_0_3 s_0_4 s_0_5 s_0_6 s_0_7 s_0_8 s_0_9 s_0_10 s_0_11 s_0_12 s_0_13 s_0_14 s_0_15 i_1 aw) : CallP prog 27 [.agg #[.int .i64 s_0_0, .int .i64 s_0_1, .int .i64 s_0_2, .int .u64 s_0_3, .int .i64 s_0_4, .int .u64 s_0_5, .int .u64 s_0_6, s_0_7, s_0_8, .int .u64 s_0_9, .int .u8 s_0_10, .int .i64 s_0_11, .int .i64 s_0_12, s_0_13, s_0_14, s_0_15], .int .u64 i_1] aw sh27 Q E :=
  callP_of func27 C27_is rfl (Nat.le_of_ble_eq_true rfl) (S27_0_ok Q E _ s_0_0 s_0_1 s_0_2 s_0_3 s_0_4 s_0_5 s_0_6 s_0_7 s_0_8 s_0_9 s_0_10 s_0_11 s_0_12 s_0_13 s_0_14 s_0_15 i_1 aw rfl rfl H)
def C26_0 : Code := bodyOf f26
theorem C26_is : f26.body = some C26_0 := by kernel_rfl
def R26_0 : Array Oper := regOps C26_0
theorem R26_0_N : dstsOk 22 R26_0 = true := by decide +kernel
theorem R26_0_O : linOk R26_0 [0, 1, 2, 3, 4, 5, 6, 7, 8, 9, 10, 11, 12, 13, 14, 15, 16, 17] [(18, [], [])] = true := by decide +kernel
theorem E26_0 : C26_0 = .region 0 R26_0 true := rfl
def S26_0 (Q : Unit → AW → Prop) (E : List PanicEntry → AW → Prop)  (p_0 : Value) (draw_1 : Int) (aw : AW) : Prop :=
  nck p_0 (fldA p_0 0 fun p2 =>
  fldA p2 2 fun p7 =>
  ldI .i64 aw p7 fun x15 =>
  nck p_0 (fldA p_0 0 fun p18 =>
  fldA p18 2 fun p23 =>
  ldI .i64 aw p23 fun x31 =>
  nck p_0 (fldA p_0 0 fun p34 =>
  fldA p34 12 fun p39 =>
  st aw p39 [.int .i64 (IntKind.i64.wrap (x15 + (max 0 (min draw_1 x31))))] fun aw44 =>
  Q () aw44)))
theorem S26_0_ok (Q : Unit → AW → Prop) (E : List PanicEntry → AW → Prop)  (ρ : Env) (p_0 : Value) (draw_1 : Int) (aw : AW) (h0 : ρ 0 = p_0) (h1 : ρ 1 = .int .i64 draw_1) (H : S26_0 Q E  p_0 draw_1 aw) :
    AGo prog 22 [.code C26_0] ρ [] aw (RR prog f26 22 sh26 Q E) := by
  unfold S26_0 at H
  obtain ⟨hp1, H⟩ := H
  obtain ⟨b3, i4, p2, hp5, hv6, H⟩ := H
  obtain ⟨b8, i9, p7, hp10, hv11, H⟩ := H
  obtain ⟨b12, i13, x15, hp14, hg16, H⟩ := H
  obtain ⟨hp17, H⟩ := H
  obtain ⟨b19, i20, p18, hp21, hv22, H⟩ := H
  obtain ⟨b24, i25, p23, hp26, hv27, H⟩ := H
  obtain ⟨b28, i29, x31, hp30, hg32, H⟩ := H
  obtain ⟨hp33, H⟩ := H
  obtain ⟨b35, i36, p34, hp37, hv38, H⟩ := H
  obtain ⟨b40, i41, p39, hp42, hv43, H⟩ := H
  refine ago_drawH (p := [0, 1, 2, 3, 4, 5, 6, 7, 8, 9, 10, 11, 12, 13, 14, 15, 16, 17]) (tl := [(18, [], [])]) (hv := [(0, p_0), (1, p_0), (2, p_0), (3, p2), (4, p7), (5, Value.int .i64 x15), (6, Value.int .i64 draw_1), (7, p_0), (8, p_0), (9, p18), (10, p23), (11, Value.int .i64 x31), (12, Value.int .i64 (min draw_1 x31)), (13, Value.int .i64 (max 0 (min draw_1 x31))), (14, Value.int .i64 (IntKind.i64.wrap (x15 + (max 0 (min draw_1 x31))))), (15, p_0), (16, p34), (17, p39)]) E26_0 mixed R26_0_N R26_0_O rfl (pv_cons rfl (pv_cons rfl (pv_cons rfl (pv_cons rfl (pv_cons rfl (pv_cons rfl (pv_cons rfl (pv_cons rfl (pv_cons rfl (pv_cons rfl (pv_cons rfl (pv_cons rfl (pv_cons rfl (pv_cons rfl (pv_cons rfl (pv_cons rfl (pv_cons rfl (pv_cons rfl (pv_nil _)))))))))))))))))))
    (ffc (d := 4) (v := p_0) (hd_v rfl fun ρ hρ => ⟨rfl, opv_move rfl rfl ((hρ 0 (lmem rfl)).trans h0)⟩) rfl rfl
    (ffc (d := 5) (v := p_0) (hd_v rfl fun ρ hρ => ⟨rfl, opv_move rfl rfl ((hρ 0 (lmem rfl)).trans h0)⟩) rfl rfl
    (ffc (d := 6) (v := p_0) (hd_v rfl fun ρ hρ => ⟨rfl, ov_nck rfl rfl ((hρ 5 (lmem rfl)).trans rfl) hp1⟩) rfl rfl
    (ffc (d := 7) (v := p2) (hd_v rfl fun ρ hρ => ⟨rfl, ov_fldA rfl rfl underlying76 rfl sz30 (by decide) ((hρ 6 (lmem rfl)).trans rfl) hp5 rfl hv6⟩) rfl rfl
    (ffc (d := 8) (v := p7) (hd_v rfl fun ρ hρ => ⟨rfl, ov_fldA rfl rfl underlying30 rfl sz3 (by decide) ((hρ 7 (lmem rfl)).trans rfl) hp10 rfl hv11⟩) rfl rfl
    (ffc (d := 9) (v := .int .i64 x15) (hd_v rfl fun ρ hρ => ⟨rfl, ov_ldI rfl underlying3 rfl ((hρ 8 (lmem rfl)).trans rfl) hp14 hg16⟩) rfl rfl
    (ffc (d := 10) (v := .int .i64 draw_1) (hd_v rfl fun ρ hρ => ⟨rfl, opv_move rfl rfl ((hρ 1 (lmem rfl)).trans h1)⟩) rfl rfl
    (ffc (d := 11) (v := p_0) (hd_v rfl fun ρ hρ => ⟨rfl, opv_move rfl rfl ((hρ 0 (lmem rfl)).trans h0)⟩) rfl rfl
    (ffc (d := 12) (v := p_0) (hd_v rfl fun ρ hρ => ⟨rfl, ov_nck rfl rfl ((hρ 11 (lmem rfl)).trans rfl) hp17⟩) rfl rfl
    (ffc (d := 13) (v := p18) (hd_v rfl fun ρ hρ => ⟨rfl, ov_fldA rfl rfl underlying76 rfl sz30 (by decide) ((hρ 12 (lmem rfl)).trans rfl) hp21 rfl hv22⟩) rfl rfl
    (ffc (d := 14) (v := p23) (hd_v rfl fun ρ hρ => ⟨rfl, ov_fldA rfl rfl underlying30 rfl sz3 (by decide) ((hρ 13 (lmem rfl)).trans rfl) hp26 rfl hv27⟩) rfl rfl
    (ffc (d := 15) (v := .int .i64 x31) (hd_v rfl fun ρ hρ => ⟨rfl, ov_ldI rfl underlying3 rfl ((hρ 14 (lmem rfl)).trans rfl) hp30 hg32⟩) rfl rfl
    (ffc (d := 16) (v := .int .i64 (min draw_1 x31)) (hd_v rfl fun ρ hρ => ⟨rfl, opv_min rfl rfl rfl ((hρ 10 (lmem rfl)).trans rfl) ((hρ 15 (lmem rfl)).trans rfl)⟩) rfl rfl
    (ffc (d := 17) (v := .int .i64 (max 0 (min draw_1 x31))) (hd_v rfl fun ρ hρ => ⟨rfl, opv_max rfl rfl rfl rfl ((hρ 16 (lmem rfl)).trans rfl)⟩) rfl rfl
    (ffc (d := 18) (v := .int .i64 (IntKind.i64.wrap (x15 + (max 0 (min draw_1 x31))))) (hd_v rfl fun ρ hρ => ⟨rfl, opv_add rfl rfl rfl ((hρ 9 (lmem rfl)).trans rfl) ((hρ 17 (lmem rfl)).trans rfl)⟩) rfl rfl
    (ffc (d := 19) (v := p_0) (hd_v rfl fun ρ hρ => ⟨rfl, ov_nck rfl rfl ((hρ 4 (lmem rfl)).trans rfl) hp33⟩) rfl rfl
    (ffc (d := 20) (v := p34) (hd_v rfl fun ρ hρ => ⟨rfl, ov_fldA rfl rfl underlying76 rfl sz30 (by decide) ((hρ 19 (lmem rfl)).trans rfl) hp37 rfl hv38⟩) rfl rfl
    (ffc (d := 21) (v := p39) (hd_v rfl fun ρ hρ => ⟨rfl, ov_fldA rfl rfl underlying30 rfl sz3 (by decide) ((hρ 20 (lmem rfl)).trans rfl) hp42 rfl hv43⟩) rfl rfl
    ffn)))))))))))))))))) ?_
  obtain ⟨b45, i46, aw44, hp47, hw48, ho49, ha50, H⟩ := H
  refine lt_val (dt := none) (v := undef) rfl rfl (fun ρ hρ => ⟨rfl, ov_st rfl rfl rfl ((hρ 21 (lmem rfl)).trans rfl) ((hρ 18 (lmem rfl)).trans rfl) rfl sz3 hp47 hw48 ho49 ha50⟩) ?_
  refine lt_next (l := []) (hv := []) rfl rfl (pv_nil _)
    ffn ?_
  refine lt_end ?_
  exact ago_nilR (r := ()) (ares_0 rfl ) rfl H
theorem F26_ok {Q : Unit → AW → Prop} {E : List PanicEntry → AW → Prop} (p_0 : Value) (draw_1 : Int) (aw : AW) (H : S26_0 Q E p_0 draw_1 aw) : CallP prog 26 [p_0, .int .i64 draw_1] aw sh26 Q E :=
  callP_of func26 C26_is rfl (Nat.le_of_ble_eq_true rfl) (S26_0_ok Q E _ p_0 draw_1 aw rfl rfl H)
def C24_0 : Code := bodyOf f24
theorem C24_is : f24.body = some C24_0 := by kernel_rfl
def C24_1 : Code := cl C24_0
def R24_0 : Array Oper := regOps C24_1
def C24_2 : Code := cr C24_0
def C24_3 : Code := cl C24_2
def C24_4 : Code := cl C24_3
def C24_5 : Code := cl C24_4
def R24_1 : Array Oper := regOps C24_5
def C24_6 : Code := cr C24_4
def C24_7 : Code := cl C24_6
def C24_8 : Code := cl C24_7
def C24_9 : Code := cr C24_7
def C24_10 : Code := cr C24_6
def C24_11 : Code := cl C24_10
def C24_12 : Code := cl C24_11
def C24_13 : Code := cl C24_12
def R24_2 : Array Oper := regOps C24_13
def C24_14 : Code := cr C24_12
def C24_15 : Code := cl C24_14
def R24_3 : Array Oper := regOps C24_15
def C24_16 : Code := cr C24_14
def C24_17 : Code := cl C24_16
def R24_4 : Array Oper := regOps C24_17
def C24_18 : Code := cr C24_16
def C24_19 : Code := cr C24_10
def R24_5 : Array Oper := regOps C24_19
theorem R24_0_N : dstsOk 24 R24_0 = true := by decide +kernel
theorem E24_1 : C24_1 = .region 0 R24_0 false := rfl
theorem R24_1_N : dstsOk 24 R24_1 = true := by decide +kernel
theorem E24_5 : C24_5 = .region 1 R24_1 false := rfl
theorem E24_8 : C24_8 = .skip := rfl
theorem E24_9 : C24_9 = .exit 0 := rfl
theorem E24_7 : C24_7 = .cond (.tmp 11) C24_8 C24_9 := rfl
theorem R24_2_N : dstsOk 24 R24_2 = true := by decide +kernel
theorem E24_13 : C24_13 = .region 2 R24_2 false := rfl
theorem R24_3_N : dstsOk 24 R24_3 = true := by decide +kernel
theorem E24_15 : C24_15 = .region 3 R24_3 false := rfl
theorem R24_4_N : dstsOk 24 R24_4 = true := by decide +kernel
theorem E24_17 : C24_17 = .region 4 R24_4 false := rfl
theorem E24_18 : C24_18 = .skip := rfl
theorem E24_16 : C24_16 = .cond (.tmp 19) C24_17 C24_18 := rfl
theorem E24_14 : C24_14 = .seq C24_15 C24_16 := rfl
theorem E24_12 : C24_12 = .seq C24_13 C24_14 := rfl
theorem E24_11 : C24_11 = .block 1 C24_12 := rfl
theorem R24_5_N : dstsOk 24 R24_5 = true := by decide +kernel
theorem E24_19 : C24_19 = .region 5 R24_5 false := rfl
theorem E24_10 : C24_10 = .seq C24_11 C24_19 := rfl
theorem E24_6 : C24_6 = .seq C24_7 C24_10 := rfl
theorem E24_4 : C24_4 = .seq C24_5 C24_6 := rfl
theorem E24_3 : C24_3 = .loop C24_4 := rfl
theorem E24_2 : C24_2 = .block 0 C24_3 := rfl
theorem E24_0 : C24_0 = .seq C24_1 C24_2 := rfl
def S24_2 (Q : Unit → AW → Prop) (E : List PanicEntry → AW → Prop) (nx1 : Value → Value → Int → Int → AW → Prop) (p_0 : Value) (f_1 : Value) (t_9 : Int) (t_10 : Int) (aw : AW) : Prop :=
  nx1 p_0 f_1 t_9 (IntKind.i64.wrap (t_10 + 1)) aw
def S24_1s (Q : Unit → AW → Prop) (E : List PanicEntry → AW → Prop)  (nx1 : Value → Value → Int → Int → AW → Prop) (p_0 : Value) (f_1 : Value) (t_9 : Int) (t_10 : Int) (aw : AW) : Prop :=
  cnd (decide (t_10 < t_9)) (nck p_0 (fldA p_0 0 fun p3 =>
  fldA p3 1 fun p8 =>
  ldI .i64 aw p8 fun x16 =>
  cnd (!decide (t_10 = x16)) (CallV prog f_1 [.int .i64 t_10] aw shT (fun r19 aw20 =>
  S24_2 Q E nx1 p_0 f_1 t_9 t_10 aw20) E) (S24_2 Q E nx1 p_0 f_1 t_9 t_10 aw))) (Q () aw)
def S24_1 (Q : Unit → AW → Prop) (E : List PanicEntry → AW → Prop)  : Nat → Value → Value → Int → Int → AW → Prop
  | 0 => fun _ _ _ _ _ => False
  | n + 1 => S24_1s Q E  (S24_1 Q E  n)
def S24_0 (Q : Unit → AW → Prop) (E : List PanicEntry → AW → Prop)  (p_0 : Value) (f_1 : Value) (aw : AW) : Prop :=
  nck p_0 (fldA p_0 0 fun p22 =>
  fldA p22 0 fun p27 =>
  ldI .i64 aw p27 fun x35 =>
  ∃ n, S24_1 Q E  n p_0 f_1 x35 0 aw)
theorem S24_2_ok (Q : Unit → AW → Prop) (E : List PanicEntry → AW → Prop) (nx1 : Value → Value → Int → Int → AW → Prop) (L1 : ∀ (ρ : Env) (p_0 : Value) (f_1 : Value) (t_9 : Int) (t_10 : Int) (aw : AW) (h0 : ρ 0 = p_0) (h1 : ρ 1 = f_1) (h9 : ρ 9 = .int .i64 t_9) (h10 : ρ 10 = .int .i64 t_10), nx1 p_0 f_1 t_9 t_10 aw → AGo prog 24 [.code C24_4, .inLoop C24_4, .inBlock 0] ρ [] aw (RR prog f24 24 sh24 Q E)) (ρ : Env) (p_0 : Value) (f_1 : Value) (t_9 : Int) (t_10 : Int) (aw : AW) (h0 : ρ 0 = p_0) (h1 : ρ 1 = f_1) (h9 : ρ 9 = .int .i64 t_9) (h10 : ρ 10 = .int .i64 t_10) (H : S24_2 Q E nx1 p_0 f_1 t_9 t_10 aw) :
    AGo prog 24 [.inBlock 1, .code C24_19, .inLoop C24_4, .inBlock 0] ρ [] aw (RR prog f24 24 sh24 Q E) := by
  unfold S24_2 at H
  refine ago_inBlock ?_
  refine ago_regE E24_19 (l := [0, 1]) rfl ?_
  refine lk (dt := some 23) R24_5_N rfl rfl rfl (opv_add rfl rfl rfl h10 rfl) ?_
  refine lk (dt := some 10) R24_5_N rfl rfl rfl (opv_move rfl rfl rfl) ?_
  refine aops_nil ?_
  refine ago_inLoop ?_
  exact L1 _ p_0 f_1 t_9 (IntKind.i64.wrap (t_10 + 1)) aw h0 h1 h9 rfl H
theorem S24_1s_ok (Q : Unit → AW → Prop) (E : List PanicEntry → AW → Prop)  (nx1 : Value → Value → Int → Int → AW → Prop) (L1 : ∀ (ρ : Env) (p_0 : Value) (f_1 : Value) (t_9 : Int) (t_10 : Int) (aw : AW) (h0 : ρ 0 = p_0) (h1 : ρ 1 = f_1) (h9 : ρ 9 = .int .i64 t_9) (h10 : ρ 10 = .int .i64 t_10), nx1 p_0 f_1 t_9 t_10 aw → AGo prog 24 [.code C24_4, .inLoop C24_4, .inBlock 0] ρ [] aw (RR prog f24 24 sh24 Q E)) (ρ : Env) (p_0 : Value) (f_1 : Value) (t_9 : Int) (t_10 : Int) (aw : AW) (h0 : ρ 0 = p_0) (h1 : ρ 1 = f_1) (h9 : ρ 9 = .int .i64 t_9) (h10 : ρ 10 = .int .i64 t_10) (H : S24_1s Q E  nx1 p_0 f_1 t_9 t_10 aw) :
    AGo prog 24 [.code C24_4, .inLoop C24_4, .inBlock 0] ρ [] aw (RR prog f24 24 sh24 Q E) := by
  unfold S24_1s at H
  refine ago_seqE E24_4 ?_
  refine ago_regE E24_5 (l := [0]) rfl ?_
  refine lk (dt := some 11) R24_1_N rfl rfl rfl (opv_lt rfl rfl rfl h10 h9) ?_
  refine aops_nil ?_
  refine ago_seqE E24_6 ?_
  refine ago_condE  E24_7 rfl rfl (fun hb1 => ?_) (fun hb1 => ?_)
  · replace H := cnd_t H hb1
    refine ago_skipE E24_8 ?_
    refine ago_seqE E24_10 ?_
    refine ago_blockE E24_11 ?_
    refine ago_seqE E24_12 ?_
    refine ago_regE E24_13 (l := [0, 1]) rfl ?_
    refine lk (dt := some 12) R24_2_N rfl rfl rfl (opv_move rfl rfl h10) ?_
    refine lk (dt := some 4) R24_2_N rfl rfl rfl (opv_assign rfl rfl rfl) ?_
    refine aops_nil ?_
    refine ago_seqE E24_14 ?_
    refine ago_regE E24_15 (l := [0, 1, 2, 3, 4, 5, 6]) rfl ?_
    refine lk (dt := some 13) R24_3_N rfl rfl rfl (opv_move rfl rfl rfl) ?_
    refine lk (dt := some 14) R24_3_N rfl rfl rfl (opv_move rfl rfl h0) ?_
    obtain ⟨hp2, H⟩ := H
    refine lk (dt := some 15) R24_3_N rfl rfl rfl (ov_nck rfl rfl rfl hp2) ?_
    obtain ⟨b4, i5, p3, hp6, hv7, H⟩ := H
    refine lk (dt := some 16) R24_3_N rfl rfl rfl (ov_fldA rfl rfl underlying76 rfl sz30 (by decide) rfl hp6 rfl hv7) ?_
    obtain ⟨b9, i10, p8, hp11, hv12, H⟩ := H
    refine lk (dt := some 17) R24_3_N rfl rfl rfl (ov_fldA rfl rfl underlying30 rfl sz3 (by decide) rfl hp11 rfl hv12) ?_
    obtain ⟨b13, i14, x16, hp15, hg17, H⟩ := H
    refine lk (dt := some 18) R24_3_N rfl rfl rfl (ov_ldI rfl underlying3 rfl rfl hp15 hg17) ?_
    refine lk (dt := some 19) R24_3_N rfl rfl rfl (opv_neI rfl rfl rfl rfl rfl) ?_
    refine aops_nil ?_
    refine ago_condE  E24_16 rfl rfl (fun hb18 => ?_) (fun hb18 => ?_)
    · replace H := cnd_t H hb18
      refine ago_regE E24_17 (l := [0, 1, 2]) rfl ?_
      refine lk (dt := some 20) R24_4_N rfl rfl rfl (opv_move rfl rfl h1) ?_
      refine lk (dt := some 21) R24_4_N rfl rfl rfl (opv_move rfl rfl rfl) ?_
      refine lk_callV (dt := some 22) R24_4_N rfl rfl rfl rfl rfl rfl rfl (ma_cons rfl rfl) H (fun _ _ h => ⟨rfl, h⟩) fun r19 aw20 H => ?_
      refine aops_nil ?_
      exact S24_2_ok Q E nx1 L1 _ p_0 f_1 t_9 t_10 aw20 h0 h1 h9 h10 H
    replace H := cnd_f H hb18
    refine ago_skipE E24_18 ?_
    exact S24_2_ok Q E nx1 L1 _ p_0 f_1 t_9 t_10 aw h0 h1 h9 h10 H
  replace H := cnd_f H hb1
  refine ago_exitE E24_9 rfl ?_
  exact ago_nilR (r := ()) (ares_0 rfl ) rfl H
theorem S24_1_ok (Q : Unit → AW → Prop) (E : List PanicEntry → AW → Prop)  : ∀ (n : Nat) (ρ : Env) (p_0 : Value) (f_1 : Value) (t_9 : Int) (t_10 : Int) (aw : AW) (h0 : ρ 0 = p_0) (h1 : ρ 1 = f_1) (h9 : ρ 9 = .int .i64 t_9) (h10 : ρ 10 = .int .i64 t_10), S24_1 Q E  n p_0 f_1 t_9 t_10 aw →
    AGo prog 24 [.code C24_4, .inLoop C24_4, .inBlock 0] ρ [] aw (RR prog f24 24 sh24 Q E)
  | 0, _, _, _, _, _, _, _, _, _, _ => fun H => H.elim
  | n + 1, ρ, p_0, f_1, t_9, t_10, aw, h0, h1, h9, h10 => fun H => S24_1s_ok Q E  _ (S24_1_ok Q E  n) ρ p_0 f_1 t_9 t_10 aw h0 h1 h9 h10 H
theorem S24_0_ok (Q : Unit → AW → Prop) (E : List PanicEntry → AW → Prop)  (ρ : Env) (p_0 : Value) (f_1 : Value) (aw : AW) (h0 : ρ 0 = p_0) (h1 : ρ 1 = f_1) (H : S24_0 Q E  p_0 f_1 aw) :
    AGo prog 24 [.code C24_0] ρ [] aw (RR prog f24 24 sh24 Q E) := by
  unfold S24_0 at H
  refine ago_seqE E24_0 ?_
  refine ago_regE E24_1 (l := [0, 1, 2, 3, 4, 5]) rfl ?_
  refine lk (dt := some 5) R24_0_N rfl rfl rfl (opv_move rfl rfl h0) ?_
  obtain ⟨hp21, H⟩ := H
  refine lk (dt := some 6) R24_0_N rfl rfl rfl (ov_nck rfl rfl rfl hp21) ?_
  obtain ⟨b23, i24, p22, hp25, hv26, H⟩ := H
  refine lk (dt := some 7) R24_0_N rfl rfl rfl (ov_fldA rfl rfl underlying76 rfl sz30 (by decide) rfl hp25 rfl hv26) ?_
  obtain ⟨b28, i29, p27, hp30, hv31, H⟩ := H
  refine lk (dt := some 8) R24_0_N rfl rfl rfl (ov_fldA rfl rfl underlying30 rfl sz3 (by decide) rfl hp30 rfl hv31) ?_
  obtain ⟨b32, i33, x35, hp34, hg36, H⟩ := H
  refine lk (dt := some 9) R24_0_N rfl rfl rfl (ov_ldI rfl underlying3 rfl rfl hp34 hg36) ?_
  refine lk (dt := some 10) R24_0_N rfl rfl rfl (opv_move rfl rfl rfl) ?_
  refine aops_nil ?_
  refine ago_blockE E24_2 ?_
  refine ago_loopE E24_3 ?_
  obtain ⟨n, H⟩ := H
  exact S24_1_ok Q E  n _ p_0 f_1 x35 0 aw h0 h1 rfl rfl H
theorem F24_ok {Q : Unit → AW → Prop} {E : List PanicEntry → AW → Prop} (p_0 : Value) (f_1 : Value) (aw : AW) (H : S24_0 Q E p_0 f_1 aw) : CallP prog 24 [p_0, f_1] aw sh24 Q E :=
  callP_of func24 C24_is rfl (Nat.le_of_ble_eq_true rfl) (S24_0_ok Q E _ p_0 f_1 aw rfl rfl H)
end
end Go.Proofs.Try
