/- Printed by a program of the prover: what the Go functions of this seat do, in steps. -/
import Derived.Test.YtfdfakapkhflcaaBaF
set_option linter.unusedSectionVars false
set_option linter.unusedSimpArgs false
set_option linter.unusedVariables false
namespace Go.Proofs.Try
open Go Go.Am Go.RowKit
set_option maxHeartbeats 4000000
set_option maxRecDepth 100000
noncomputable section
variable [SymE]
def C72_0 : Code := bodyOf f72
theorem C72_is : f72.body = some C72_0 := by kernel_rfl
def C72_1 : Code := cl C72_0
def R72_0 : Array Oper := regOps C72_1
def C72_2 : Code := cr C72_0
def C72_3 : Code := cl C72_2
def R72_1 : Array Oper := regOps C72_3
def C72_4 : Code := cr C72_2
def C72_5 : Code := cl C72_4
def R72_2 : Array Oper := regOps C72_5
def C72_6 : Code := cr C72_4
def C72_7 : Code := cl C72_6
def R72_3 : Array Oper := regOps C72_7
def C72_8 : Code := cr C72_6
theorem R72_0_N : dstsOk 9 R72_0 = true := by decide +kernel
theorem E72_1 : C72_1 = .region 0 R72_0 false := rfl
theorem R72_1_N : dstsOk 9 R72_1 = true := by decide +kernel
theorem E72_3 : C72_3 = .region 1 R72_1 false := rfl
theorem R72_2_N : dstsOk 9 R72_2 = true := by decide +kernel
theorem E72_5 : C72_5 = .region 2 R72_2 false := rfl
theorem R72_3_N : dstsOk 9 R72_3 = true := by decide +kernel
theorem E72_7 : C72_7 = .region 3 R72_3 false := rfl
theorem E72_8 : C72_8 = .ret := rfl
theorem E72_6 : C72_6 = .seq C72_7 C72_8 := rfl
theorem E72_4 : C72_4 = .seq C72_5 C72_6 := rfl
theorem E72_2 : C72_2 = .seq C72_3 C72_4 := rfl
theorem E72_0 : C72_0 = .seq C72_1 C72_2 := rfl
def S72_0 (Q : Value → AW → Prop) (E : List PanicEntry → AW → Prop)  (seq_0 : Value) (aw : AW) : Prop :=
  CallP prog 74 [seq_0] aw sh74 (fun r1 aw2 =>
  CallP prog 75 [r1] aw2 sh75 (fun r3 aw4 =>
  Q r1 aw4) E) E
theorem S72_0_ok (Q : Value → AW → Prop) (E : List PanicEntry → AW → Prop)  (ρ : Env) (seq_0 : Value) (aw : AW) (h0 : ρ 0 = seq_0) (H : S72_0 Q E  seq_0 aw) :
    AGo prog 9 [.code C72_0] ρ [] aw (RR prog f72 9 sh72 Q E) := by
  unfold S72_0 at H
  refine ago_seqE E72_0 ?_
  refine ago_regE E72_1 (l := [0]) rfl ?_
  refine lk (dt := some 2) R72_0_N rfl rfl rfl (opv_assign rfl rfl rfl) ?_
  refine aops_nil ?_
  refine ago_seqE E72_2 ?_
  refine ago_regE E72_3 (l := [0, 1, 2]) rfl ?_
  refine lk (dt := some 4) R72_1_N rfl rfl rfl (opv_move rfl rfl h0) ?_
  refine lk_call (dt := some 5) R72_1_N rfl rfl rfl (opc_of rfl rfl is74 (ma_cons rfl rfl)) H (fun _ _ h => ⟨rfl, h⟩) fun r1 aw2 H => ?_
  refine lk (dt := some 3) R72_1_N rfl rfl rfl (opv_assign rfl rfl rfl) ?_
  refine aops_nil ?_
  refine ago_seqE E72_4 ?_
  refine ago_regE E72_5 (l := [0, 1]) rfl ?_
  refine lk (dt := some 6) R72_2_N rfl rfl rfl (opv_move rfl rfl rfl) ?_
  refine lk_call (dt := some 7) R72_2_N rfl rfl rfl (opc_of rfl rfl is75 (ma_cons rfl rfl)) H (fun _ _ h => ⟨rfl, h⟩) fun r3 aw4 H => ?_
  refine aops_nil ?_
  refine ago_seqE E72_6 ?_
  refine ago_regE E72_7 (l := [0, 1]) rfl ?_
  refine lk (dt := some 8) R72_3_N rfl rfl rfl (opv_move rfl rfl rfl) ?_
  refine lk (dt := some 2) R72_3_N rfl rfl rfl (opv_assign rfl rfl rfl) ?_
  refine aops_nil ?_
  exact ago_retE E72_8 (r := r1) (ares_1 rfl (oneT rfl)) rfl H
theorem F72_ok {Q : Value → AW → Prop} {E : List PanicEntry → AW → Prop} (seq_0 : Value) (aw : AW) (H : S72_0 Q E seq_0 aw) : CallP prog 72 [seq_0] aw sh72 Q E :=
  callP_of func72 C72_is rfl (Nat.le_of_ble_eq_true rfl) (S72_0_ok Q E _ seq_0 aw rfl H)
def C73_0 : Code := bodyOf f73
theorem C73_is : f73.body = some C73_0 := by kernel_rfl
def C73_1 : Code := cl C73_0
def R73_0 : Array Oper := regOps C73_1
def C73_2 : Code := cr C73_0
def C73_3 : Code := cl C73_2
def R73_1 : Array Oper := regOps C73_3
def C73_4 : Code := cr C73_2
theorem R73_0_N : dstsOk 4 R73_0 = true := by decide +kernel
theorem E73_1 : C73_1 = .region 0 R73_0 false := rfl
theorem R73_1_N : dstsOk 4 R73_1 = true := by decide +kernel
theorem E73_3 : C73_3 = .region 1 R73_1 false := rfl
theorem E73_4 : C73_4 = .ret := rfl
theorem E73_2 : C73_2 = .seq C73_3 C73_4 := rfl
theorem E73_0 : C73_0 = .seq C73_1 C73_2 := rfl
def S73_0 (Q : Value → AW → Prop) (E : List PanicEntry → AW → Prop)  (s_0 : Value) (aw : AW) : Prop :=
  one s_0 = true ∧ alc aw [s_0] 28 0 fun p1 aw2 =>
  Q (.func (.func 76) #[] #[p1]) aw2
theorem S73_0_ok (Q : Value → AW → Prop) (E : List PanicEntry → AW → Prop)  (ρ : Env) (s_0 : Value) (aw : AW) (h0 : ρ 0 = s_0) (H : S73_0 Q E  s_0 aw) :
    AGo prog 4 [.code C73_0] ρ [] aw (RR prog f73 4 sh73 Q E) := by
  unfold S73_0 at H
  refine ago_seqE E73_0 ?_
  refine ago_regE E73_1 (l := [0, 1]) rfl ?_
  obtain ⟨h15, H⟩ := H
  obtain ⟨p1, aw2, hp3, ha4, H⟩ := H
  refine lk (dt := some 1) R73_0_N rfl rfl rfl (ov_box rfl rfl h0 (cells_one h15) hp3 ha4) ?_
  refine lk (dt := some 2) R73_0_N rfl rfl rfl (opv_assign rfl rfl rfl) ?_
  refine aops_nil ?_
  refine ago_seqE E73_2 ?_
  refine ago_regE E73_3 (l := [0, 1]) rfl ?_
  refine lk (dt := some 3) R73_1_N rfl rfl rfl (ov_mkF rfl rfl rfl rfl (ma_cons rfl rfl)) ?_
  refine lk (dt := some 2) R73_1_N rfl rfl rfl (opv_assign rfl rfl rfl) ?_
  refine aops_nil ?_
  exact ago_retE E73_4 (r := (.func (.func 76) #[] #[p1])) (ares_1 rfl (oneT rfl)) rfl H
theorem F73_ok {Q : Value → AW → Prop} {E : List PanicEntry → AW → Prop} (s_0 : Value) (aw : AW) (H : S73_0 Q E s_0 aw) : CallP prog 73 [s_0] aw sh73 Q E :=
  callP_of func73 C73_is rfl (Nat.le_of_ble_eq_true rfl) (S73_0_ok Q E _ s_0 aw rfl H)
def C74_0 : Code := bodyOf f74
theorem C74_is : f74.body = some C74_0 := by kernel_rfl
def C74_1 : Code := cl C74_0
def R74_0 : Array Oper := regOps C74_1
def C74_2 : Code := cr C74_0
def C74_3 : Code := cl C74_2
def R74_1 : Array Oper := regOps C74_3
def C74_4 : Code := cr C74_2
theorem R74_0_N : dstsOk 5 R74_0 = true := by decide +kernel
theorem E74_1 : C74_1 = .region 0 R74_0 false := rfl
theorem R74_1_N : dstsOk 5 R74_1 = true := by decide +kernel
theorem E74_3 : C74_3 = .region 1 R74_1 false := rfl
theorem E74_4 : C74_4 = .ret := rfl
theorem E74_2 : C74_2 = .seq C74_3 C74_4 := rfl
theorem E74_0 : C74_0 = .seq C74_1 C74_2 := rfl
def S74_0 (Q : Value → AW → Prop) (E : List PanicEntry → AW → Prop)  (seq_0 : Value) (aw : AW) : Prop :=
  CallP prog 77 [(.slice none 0 0), seq_0] aw sh77 (fun r1 aw2 =>
  Q r1 aw2) E
theorem S74_0_ok (Q : Value → AW → Prop) (E : List PanicEntry → AW → Prop)  (ρ : Env) (seq_0 : Value) (aw : AW) (h0 : ρ 0 = seq_0) (H : S74_0 Q E  seq_0 aw) :
    AGo prog 5 [.code C74_0] ρ [] aw (RR prog f74 5 sh74 Q E) := by
  unfold S74_0 at H
  refine ago_seqE E74_0 ?_
  refine ago_regE E74_1 (l := [0]) rfl ?_
  refine lk (dt := some 2) R74_0_N rfl rfl rfl (opv_assign rfl rfl rfl) ?_
  refine aops_nil ?_
  refine ago_seqE E74_2 ?_
  refine ago_regE E74_3 (l := [0, 1, 2]) rfl ?_
  refine lk (dt := some 3) R74_1_N rfl rfl rfl (opv_move rfl rfl h0) ?_
  refine lk_call (dt := some 4) R74_1_N rfl rfl rfl (opc_of rfl rfl is77 (ma_cons rfl (ma_cons rfl rfl))) H (fun _ _ h => ⟨rfl, h⟩) fun r1 aw2 H => ?_
  refine lk (dt := some 2) R74_1_N rfl rfl rfl (opv_assign rfl rfl rfl) ?_
  refine aops_nil ?_
  exact ago_retE E74_4 (r := r1) (ares_1 rfl (oneT rfl)) rfl H
theorem F74_ok {Q : Value → AW → Prop} {E : List PanicEntry → AW → Prop} (seq_0 : Value) (aw : AW) (H : S74_0 Q E seq_0 aw) : CallP prog 74 [seq_0] aw sh74 Q E :=
  callP_of func74 C74_is rfl (Nat.le_of_ble_eq_true rfl) (S74_0_ok Q E _ seq_0 aw rfl H)
def C75_0 : Code := bodyOf f75
theorem C75_is : f75.body = some C75_0 := by kernel_rfl
def C75_1 : Code := cl C75_0
def R75_0 : Array Oper := regOps C75_1
def C75_2 : Code := cr C75_0
def R75_1 : Array Oper := regOps C75_2
theorem R75_0_N : dstsOk 11 R75_0 = true := by decide +kernel
theorem E75_1 : C75_1 = .region 0 R75_0 false := rfl
theorem R75_1_N : dstsOk 11 R75_1 = true := by decide +kernel
theorem E75_2 : C75_2 = .region 1 R75_1 false := rfl
theorem E75_0 : C75_0 = .seq C75_1 C75_2 := rfl
def S75_0 (Q : Unit → AW → Prop) (E : List PanicEntry → AW → Prop)  (x_0 : Value) (aw : AW) : Prop :=
  slen x_0 fun n1 =>
  CallP prog 79 [.int .u64 (IntKind.u64.wrap n1)] aw sh79 (fun r7 aw8 =>
  CallP prog 78 [x_0, .int .i64 0, .int .i64 n1, .int .i64 r7] aw8 sh78 (fun r9 aw10 =>
  Q () aw10) E) E
theorem S75_0_ok (Q : Unit → AW → Prop) (E : List PanicEntry → AW → Prop)  (ρ : Env) (x_0 : Value) (aw : AW) (h0 : ρ 0 = x_0) (H : S75_0 Q E  x_0 aw) :
    AGo prog 11 [.code C75_0] ρ [] aw (RR prog f75 11 sh75 Q E) := by
  unfold S75_0 at H
  refine ago_seqE E75_0 ?_
  refine ago_regE E75_1 (l := [0, 1, 2]) rfl ?_
  refine lk (dt := some 3) R75_0_N rfl rfl rfl (opv_move rfl rfl h0) ?_
  obtain ⟨q2, l3, c4, n1, hv5, hn6, H⟩ := H
  refine lk (dt := some 4) R75_0_N rfl rfl rfl (ov_len rfl rfl rfl underlying28 rfl hv5 hn6) ?_
  refine lk (dt := some 2) R75_0_N rfl rfl rfl (opv_assign rfl rfl rfl) ?_
  refine aops_nil ?_
  refine ago_regE E75_2 (l := [0, 1, 2, 3, 4, 5]) rfl ?_
  refine lk (dt := some 5) R75_1_N rfl rfl rfl (opv_move rfl rfl h0) ?_
  refine lk (dt := some 6) R75_1_N rfl rfl rfl (opv_move rfl rfl rfl) ?_
  refine lk (dt := some 7) R75_1_N rfl rfl rfl (opv_move rfl rfl rfl) ?_
  refine lk (dt := some 8) R75_1_N rfl rfl rfl (opv_conv rfl rfl underlying3 underlying117 rfl) ?_
  refine lk_call (dt := some 9) R75_1_N rfl rfl rfl (opc_of rfl rfl is79 (ma_cons rfl rfl)) H (fun _ _ h => ⟨rfl, h⟩) fun r7 aw8 H => ?_
  refine lk_call (dt := some 10) R75_1_N rfl rfl rfl (opc_of rfl rfl is78 (ma_cons rfl (ma_cons rfl (ma_cons rfl (ma_cons rfl rfl))))) H (fun _ _ h => ⟨rfl, h⟩) fun r9 aw10 H => ?_
  refine aops_nil ?_
  exact ago_nilR (r := ()) (ares_0 rfl ) rfl H
theorem F75_ok {Q : Unit → AW → Prop} {E : List PanicEntry → AW → Prop} (x_0 : Value) (aw : AW) (H : S75_0 Q E x_0 aw) : CallP prog 75 [x_0] aw sh75 Q E :=
  callP_of func75 C75_is rfl (Nat.le_of_ble_eq_true rfl) (S75_0_ok Q E _ x_0 aw rfl H)
def C78_0 : Code := bodyOf f78
theorem C78_is : f78.body = some C78_0 := by kernel_rfl
def C78_1 : Code := cl C78_0
def R78_0 : Array Oper := regOps C78_1
def C78_2 : Code := cr C78_0
def C78_3 : Code := cl C78_2
def R78_1 : Array Oper := regOps C78_3
def C78_4 : Code := cr C78_2
def C78_5 : Code := cl C78_4
def C78_6 : Code := cl C78_5
def C78_7 : Code := cl C78_6
def C78_8 : Code := cl C78_7
def R78_2 : Array Oper := regOps C78_8
def C78_9 : Code := cr C78_7
def C78_10 : Code := cl C78_9
def C78_11 : Code := cl C78_10
def R78_3 : Array Oper := regOps C78_11
def C78_12 : Code := cr C78_10
def C78_13 : Code := cl C78_12
def C78_14 : Code := cl C78_13
def R78_4 : Array Oper := regOps C78_14
def C78_15 : Code := cr C78_13
def C78_16 : Code := cr C78_12
def C78_17 : Code := cr C78_9
def C78_18 : Code := cl C78_17
def C78_19 : Code := cl C78_18
def R78_5 : Array Oper := regOps C78_19
def C78_20 : Code := cr C78_18
def C78_21 : Code := cl C78_20
def C78_22 : Code := cl C78_21
def R78_6 : Array Oper := regOps C78_22
def C78_23 : Code := cr C78_21
def C78_24 : Code := cr C78_20
def C78_25 : Code := cr C78_17
def C78_26 : Code := cl C78_25
def C78_27 : Code := cl C78_26
def R78_7 : Array Oper := regOps C78_27
def C78_28 : Code := cr C78_26
def C78_29 : Code := cl C78_28
def C78_30 : Code := cl C78_29
def R78_8 : Array Oper := regOps C78_30
def C78_31 : Code := cr C78_29
def R78_9 : Array Oper := regOps C78_31
def C78_32 : Code := cr C78_28
def C78_33 : Code := cr C78_25
def C78_34 : Code := cl C78_33
def R78_10 : Array Oper := regOps C78_34
def C78_35 : Code := cr C78_33
def C78_36 : Code := cl C78_35
def C78_37 : Code := cl C78_36
def R78_11 : Array Oper := regOps C78_37
def C78_38 : Code := cr C78_36
def C78_39 : Code := cl C78_38
def C78_40 : Code := cl C78_39
def R78_12 : Array Oper := regOps C78_40
def C78_41 : Code := cr C78_39
def C78_42 : Code := cl C78_41
def R78_13 : Array Oper := regOps C78_42
def C78_43 : Code := cr C78_41
def R78_14 : Array Oper := regOps C78_43
def C78_44 : Code := cr C78_38
def C78_45 : Code := cr C78_35
def C78_46 : Code := cl C78_45
def C78_47 : Code := cl C78_46
def R78_15 : Array Oper := regOps C78_47
def C78_48 : Code := cr C78_46
def C78_49 : Code := cl C78_48
def C78_50 : Code := cl C78_49
def R78_16 : Array Oper := regOps C78_50
def C78_51 : Code := cr C78_49
def C78_52 : Code := cl C78_51
def C78_53 : Code := cr C78_51
def C78_54 : Code := cr C78_48
def C78_55 : Code := cr C78_45
def C78_56 : Code := cl C78_55
def C78_57 : Code := cl C78_56
def R78_17 : Array Oper := regOps C78_57
def C78_58 : Code := cr C78_56
def C78_59 : Code := cl C78_58
def C78_60 : Code := cl C78_59
def R78_18 : Array Oper := regOps C78_60
def C78_61 : Code := cr C78_59
def C78_62 : Code := cl C78_61
def R78_19 : Array Oper := regOps C78_62
def C78_63 : Code := cr C78_61
def C78_64 : Code := cr C78_58
def C78_65 : Code := cr C78_55
def C78_66 : Code := cl C78_65
def R78_20 : Array Oper := regOps C78_66
def C78_67 : Code := cr C78_65
def C78_68 : Code := cl C78_67
def R78_21 : Array Oper := regOps C78_68
def C78_69 : Code := cr C78_67
def C78_70 : Code := cl C78_69
def R78_22 : Array Oper := regOps C78_70
def C78_71 : Code := cr C78_69
def C78_72 : Code := cl C78_71
def R78_23 : Array Oper := regOps C78_72
def C78_73 : Code := cr C78_71
def C78_74 : Code := cl C78_73
def R78_24 : Array Oper := regOps C78_74
def C78_75 : Code := cr C78_73
def C78_76 : Code := cl C78_75
def C78_77 : Code := cl C78_76
def R78_25 : Array Oper := regOps C78_77
def C78_78 : Code := cr C78_76
def C78_79 : Code := cl C78_78
def R78_26 : Array Oper := regOps C78_79
def C78_80 : Code := cr C78_78
def R78_27 : Array Oper := regOps C78_80
def C78_81 : Code := cr C78_75
def C78_82 : Code := cl C78_81
def R78_28 : Array Oper := regOps C78_82
def C78_83 : Code := cr C78_81
def C78_84 : Code := cl C78_83
def R78_29 : Array Oper := regOps C78_84
def C78_85 : Code := cr C78_83
def R78_30 : Array Oper := regOps C78_85
theorem R78_0_N : dstsOk 134 R78_0 = true := by decide +kernel
theorem E78_1 : C78_1 = .region 0 R78_0 false := rfl
theorem R78_1_N : dstsOk 134 R78_1 = true := by decide +kernel
theorem E78_3 : C78_3 = .region 1 R78_1 false := rfl
theorem R78_2_N : dstsOk 134 R78_2 = true := by decide +kernel
theorem E78_8 : C78_8 = .region 2 R78_2 false := rfl
theorem R78_3_N : dstsOk 134 R78_3 = true := by decide +kernel
theorem E78_11 : C78_11 = .region 3 R78_3 false := rfl
theorem R78_4_N : dstsOk 134 R78_4 = true := by decide +kernel
theorem E78_14 : C78_14 = .region 4 R78_4 false := rfl
theorem E78_15 : C78_15 = .ret := rfl
theorem E78_13 : C78_13 = .seq C78_14 C78_15 := rfl
theorem E78_16 : C78_16 = .skip := rfl
theorem E78_12 : C78_12 = .cond (.tmp 23) C78_13 C78_16 := rfl
theorem E78_10 : C78_10 = .seq C78_11 C78_12 := rfl
theorem R78_5_N : dstsOk 134 R78_5 = true := by decide +kernel
theorem E78_19 : C78_19 = .region 5 R78_5 false := rfl
theorem R78_6_N : dstsOk 134 R78_6 = true := by decide +kernel
theorem E78_22 : C78_22 = .region 6 R78_6 false := rfl
theorem E78_23 : C78_23 = .ret := rfl
theorem E78_21 : C78_21 = .seq C78_22 C78_23 := rfl
theorem E78_24 : C78_24 = .skip := rfl
theorem E78_20 : C78_20 = .cond (.tmp 29) C78_21 C78_24 := rfl
theorem E78_18 : C78_18 = .seq C78_19 C78_20 := rfl
theorem R78_7_N : dstsOk 134 R78_7 = true := by decide +kernel
theorem E78_27 : C78_27 = .region 7 R78_7 false := rfl
theorem R78_8_N : dstsOk 134 R78_8 = true := by decide +kernel
theorem E78_30 : C78_30 = .region 8 R78_8 false := rfl
theorem R78_9_N : dstsOk 134 R78_9 = true := by decide +kernel
theorem E78_31 : C78_31 = .region 9 R78_9 false := rfl
theorem E78_29 : C78_29 = .seq C78_30 C78_31 := rfl
theorem E78_32 : C78_32 = .skip := rfl
theorem E78_28 : C78_28 = .cond (.tmp 35) C78_29 C78_32 := rfl
theorem E78_26 : C78_26 = .seq C78_27 C78_28 := rfl
theorem R78_10_N : dstsOk 134 R78_10 = true := by decide +kernel
theorem E78_34 : C78_34 = .region 10 R78_10 false := rfl
theorem R78_11_N : dstsOk 134 R78_11 = true := by decide +kernel
theorem E78_37 : C78_37 = .region 11 R78_11 false := rfl
theorem R78_12_N : dstsOk 134 R78_12 = true := by decide +kernel
theorem E78_40 : C78_40 = .region 12 R78_12 false := rfl
theorem R78_13_N : dstsOk 134 R78_13 = true := by decide +kernel
theorem E78_42 : C78_42 = .region 13 R78_13 false := rfl
theorem R78_14_N : dstsOk 134 R78_14 = true := by decide +kernel
theorem E78_43 : C78_43 = .region 14 R78_14 false := rfl
theorem E78_41 : C78_41 = .seq C78_42 C78_43 := rfl
theorem E78_39 : C78_39 = .seq C78_40 C78_41 := rfl
theorem E78_44 : C78_44 = .skip := rfl
theorem E78_38 : C78_38 = .cond (.tmp 50) C78_39 C78_44 := rfl
theorem E78_36 : C78_36 = .seq C78_37 C78_38 := rfl
theorem R78_15_N : dstsOk 134 R78_15 = true := by decide +kernel
theorem E78_47 : C78_47 = .region 15 R78_15 false := rfl
theorem R78_16_N : dstsOk 134 R78_16 = true := by decide +kernel
theorem E78_50 : C78_50 = .region 16 R78_16 false := rfl
theorem E78_52 : C78_52 = .ret := rfl
theorem E78_53 : C78_53 = .skip := rfl
theorem E78_51 : C78_51 = .cond (.tmp 72) C78_52 C78_53 := rfl
theorem E78_49 : C78_49 = .seq C78_50 C78_51 := rfl
theorem E78_54 : C78_54 = .skip := rfl
theorem E78_48 : C78_48 = .cond (.tmp 68) C78_49 C78_54 := rfl
theorem E78_46 : C78_46 = .seq C78_47 C78_48 := rfl
theorem R78_17_N : dstsOk 134 R78_17 = true := by decide +kernel
theorem R78_17_O : linOk R78_17 [0, 1, 2, 3, 4, 5, 6, 7, 8, 9, 10, 11] [(12, [], [13, 14])] = true := by decide +kernel
theorem E78_57 : C78_57 = .region 17 R78_17 true := rfl
theorem R78_18_N : dstsOk 134 R78_18 = true := by decide +kernel
theorem E78_60 : C78_60 = .region 18 R78_18 false := rfl
theorem R78_19_N : dstsOk 134 R78_19 = true := by decide +kernel
theorem E78_62 : C78_62 = .region 19 R78_19 false := rfl
theorem E78_63 : C78_63 = .exit 1 := rfl
theorem E78_61 : C78_61 = .seq C78_62 C78_63 := rfl
theorem E78_59 : C78_59 = .seq C78_60 C78_61 := rfl
theorem E78_64 : C78_64 = .skip := rfl
theorem E78_58 : C78_58 = .cond (.tmp 87) C78_59 C78_64 := rfl
theorem E78_56 : C78_56 = .seq C78_57 C78_58 := rfl
theorem R78_20_N : dstsOk 134 R78_20 = true := by decide +kernel
theorem E78_66 : C78_66 = .region 20 R78_20 false := rfl
theorem R78_21_N : dstsOk 134 R78_21 = true := by decide +kernel
theorem E78_68 : C78_68 = .region 21 R78_21 false := rfl
theorem R78_22_N : dstsOk 134 R78_22 = true := by decide +kernel
theorem E78_70 : C78_70 = .region 22 R78_22 false := rfl
theorem R78_23_N : dstsOk 134 R78_23 = true := by decide +kernel
theorem E78_72 : C78_72 = .region 23 R78_23 false := rfl
theorem R78_24_N : dstsOk 134 R78_24 = true := by decide +kernel
theorem E78_74 : C78_74 = .region 24 R78_24 false := rfl
theorem R78_25_N : dstsOk 134 R78_25 = true := by decide +kernel
theorem E78_77 : C78_77 = .region 25 R78_25 false := rfl
theorem R78_26_N : dstsOk 134 R78_26 = true := by decide +kernel
theorem E78_79 : C78_79 = .region 26 R78_26 false := rfl
theorem R78_27_N : dstsOk 134 R78_27 = true := by decide +kernel
theorem E78_80 : C78_80 = .region 27 R78_27 false := rfl
theorem E78_78 : C78_78 = .seq C78_79 C78_80 := rfl
theorem E78_76 : C78_76 = .seq C78_77 C78_78 := rfl
theorem R78_28_N : dstsOk 134 R78_28 = true := by decide +kernel
theorem E78_82 : C78_82 = .region 28 R78_28 false := rfl
theorem R78_29_N : dstsOk 134 R78_29 = true := by decide +kernel
theorem E78_84 : C78_84 = .region 29 R78_29 false := rfl
theorem R78_30_N : dstsOk 134 R78_30 = true := by decide +kernel
theorem E78_85 : C78_85 = .region 30 R78_30 false := rfl
theorem E78_83 : C78_83 = .seq C78_84 C78_85 := rfl
theorem E78_81 : C78_81 = .seq C78_82 C78_83 := rfl
theorem E78_75 : C78_75 = .cond (.tmp 113) C78_76 C78_81 := rfl
theorem E78_73 : C78_73 = .seq C78_74 C78_75 := rfl
theorem E78_71 : C78_71 = .seq C78_72 C78_73 := rfl
theorem E78_69 : C78_69 = .seq C78_70 C78_71 := rfl
theorem E78_67 : C78_67 = .seq C78_68 C78_69 := rfl
theorem E78_65 : C78_65 = .seq C78_66 C78_67 := rfl
theorem E78_55 : C78_55 = .seq C78_56 C78_65 := rfl
theorem E78_45 : C78_45 = .seq C78_46 C78_55 := rfl
theorem E78_35 : C78_35 = .seq C78_36 C78_45 := rfl
theorem E78_33 : C78_33 = .seq C78_34 C78_35 := rfl
theorem E78_25 : C78_25 = .seq C78_26 C78_33 := rfl
theorem E78_17 : C78_17 = .seq C78_18 C78_25 := rfl
theorem E78_9 : C78_9 = .seq C78_10 C78_17 := rfl
theorem E78_7 : C78_7 = .seq C78_8 C78_9 := rfl
theorem E78_6 : C78_6 = .block 1 C78_7 := rfl
theorem E78_5 : C78_5 = .loop C78_6 := rfl
theorem E78_4 : C78_4 = .block 0 C78_5 := rfl
theorem E78_2 : C78_2 = .seq C78_3 C78_4 := rfl
theorem E78_0 : C78_0 = .seq C78_1 C78_2 := rfl
def S78_5 (Q : Unit → AW → Prop) (E : List PanicEntry → AW → Prop) (nx1 : Value → Int → Int → Int → Bool → Bool → AW → Prop) (data_0 : Value) (a_1 : Int) (b_2 : Int) (limit_3 : Int) (wasBalanced_8 : Bool) (wasPartitioned_9 : Bool) (length_10 : Int) (pivot_11 : Int) (t_87 : Bool) (aw : AW) : Prop :=
  cnd t_87 (CallP prog 87 [data_0, .int .i64 a_1, .int .i64 b_2, .int .i64 pivot_11] aw sh87 (fun r2 aw3 =>
  nx1 data_0 r2 b_2 limit_3 wasBalanced_8 wasPartitioned_9 aw3) E) (CallP prog 88 [data_0, .int .i64 a_1, .int .i64 b_2, .int .i64 pivot_11] aw sh88 (fun r4 aw5 =>
  cnd (decide ((IntKind.i64.wrap (r4.1 - a_1)) < (IntKind.i64.wrap (b_2 - r4.1)))) (CallP prog 78 [data_0, .int .i64 a_1, .int .i64 r4.1, .int .i64 limit_3] aw5 sh78 (fun r7 aw8 =>
  nx1 data_0 (IntKind.i64.wrap (r4.1 + 1)) b_2 limit_3 (decide ((IntKind.i64.wrap (Int.tdiv length_10 8)) ≤ (IntKind.i64.wrap (r4.1 - a_1)))) r4.2 aw8) E) (CallP prog 78 [data_0, .int .i64 (IntKind.i64.wrap (r4.1 + 1)), .int .i64 b_2, .int .i64 limit_3] aw5 sh78 (fun r9 aw10 =>
  nx1 data_0 a_1 r4.1 limit_3 (decide ((IntKind.i64.wrap (Int.tdiv length_10 8)) ≤ (IntKind.i64.wrap (b_2 - r4.1)))) r4.2 aw10) E)) E)
def S78_4 (Q : Unit → AW → Prop) (E : List PanicEntry → AW → Prop) (nx1 : Value → Int → Int → Int → Bool → Bool → AW → Prop) (data_0 : Value) (a_1 : Int) (b_2 : Int) (limit_3 : Int) (wasBalanced_8 : Bool) (wasPartitioned_9 : Bool) (length_10 : Int) (pivot_11 : Int) (aw : AW) : Prop :=
  cnd (decide (0 < a_1)) (ixS data_0 (IntKind.i64.wrap (a_1 - 1)) 1 fun p12 =>
  ldI .u64 aw p12 fun x24 =>
  ixS data_0 pivot_11 1 fun p26 =>
  ldI .u64 aw p26 fun x38 =>
  CallP prog 86 [.int .u64 x24, .int .u64 x38] aw sh86 (fun r40 aw41 =>
  S78_5 Q E nx1 data_0 a_1 b_2 limit_3 wasBalanced_8 wasPartitioned_9 length_10 pivot_11 (!r40) aw41) E) (S78_5 Q E nx1 data_0 a_1 b_2 limit_3 wasBalanced_8 wasPartitioned_9 length_10 pivot_11 false aw)
def S78_3 (Q : Unit → AW → Prop) (E : List PanicEntry → AW → Prop) (nx1 : Value → Int → Int → Int → Bool → Bool → AW → Prop) (data_0 : Value) (a_1 : Int) (b_2 : Int) (limit_3 : Int) (wasBalanced_8 : Bool) (wasPartitioned_9 : Bool) (length_10 : Int) (pivot_11 : Int) (hint_12 : Int) (aw : AW) : Prop :=
  cnd wasBalanced_8 (cnd wasPartitioned_9 (cnd (decide (hint_12 = 1)) (CallP prog 85 [data_0, .int .i64 a_1, .int .i64 b_2] aw sh85 (fun r45 aw46 =>
  cnd r45 (Q () aw46) (S78_4 Q E nx1 data_0 a_1 b_2 limit_3 wasBalanced_8 wasPartitioned_9 length_10 pivot_11 aw46)) E) (S78_4 Q E nx1 data_0 a_1 b_2 limit_3 wasBalanced_8 wasPartitioned_9 length_10 pivot_11 aw)) (S78_4 Q E nx1 data_0 a_1 b_2 limit_3 wasBalanced_8 wasPartitioned_9 length_10 pivot_11 aw)) (S78_4 Q E nx1 data_0 a_1 b_2 limit_3 wasBalanced_8 wasPartitioned_9 length_10 pivot_11 aw)
def S78_2 (Q : Unit → AW → Prop) (E : List PanicEntry → AW → Prop) (nx1 : Value → Int → Int → Int → Bool → Bool → AW → Prop) (data_0 : Value) (a_1 : Int) (b_2 : Int) (limit_3 : Int) (wasBalanced_8 : Bool) (wasPartitioned_9 : Bool) (length_10 : Int) (aw : AW) : Prop :=
  CallP prog 83 [data_0, .int .i64 a_1, .int .i64 b_2] aw sh83 (fun r50 aw51 =>
  cnd (decide (r50.2 = 2)) (CallP prog 84 [data_0, .int .i64 a_1, .int .i64 b_2] aw51 sh84 (fun r53 aw54 =>
  S78_3 Q E nx1 data_0 a_1 b_2 limit_3 wasBalanced_8 wasPartitioned_9 length_10 (IntKind.i64.wrap ((IntKind.i64.wrap (b_2 - 1)) - (IntKind.i64.wrap (r50.1 - a_1)))) 1 aw54) E) (S78_3 Q E nx1 data_0 a_1 b_2 limit_3 wasBalanced_8 wasPartitioned_9 length_10 r50.1 r50.2 aw51)) E
def S78_1s (Q : Unit → AW → Prop) (E : List PanicEntry → AW → Prop)  (nx1 : Value → Int → Int → Int → Bool → Bool → AW → Prop) (data_0 : Value) (a_1 : Int) (b_2 : Int) (limit_3 : Int) (wasBalanced_8 : Bool) (wasPartitioned_9 : Bool) (aw : AW) : Prop :=
  cnd (decide ((IntKind.i64.wrap (b_2 - a_1)) ≤ 12)) (CallP prog 80 [data_0, .int .i64 a_1, .int .i64 b_2] aw sh80 (fun r56 aw57 =>
  Q () aw57) E) (cnd (decide (limit_3 = 0)) (CallP prog 81 [data_0, .int .i64 a_1, .int .i64 b_2] aw sh81 (fun r59 aw60 =>
  Q () aw60) E) (cnd (!wasBalanced_8) (CallP prog 82 [data_0, .int .i64 a_1, .int .i64 b_2] aw sh82 (fun r62 aw63 =>
  S78_2 Q E nx1 data_0 a_1 b_2 (IntKind.i64.wrap (limit_3 - 1)) wasBalanced_8 wasPartitioned_9 (IntKind.i64.wrap (b_2 - a_1)) aw63) E) (S78_2 Q E nx1 data_0 a_1 b_2 limit_3 wasBalanced_8 wasPartitioned_9 (IntKind.i64.wrap (b_2 - a_1)) aw)))
def S78_1 (Q : Unit → AW → Prop) (E : List PanicEntry → AW → Prop)  : Nat → Value → Int → Int → Int → Bool → Bool → AW → Prop
  | 0 => fun _ _ _ _ _ _ _ => False
  | n + 1 => S78_1s Q E  (S78_1 Q E  n)
def S78_0 (Q : Unit → AW → Prop) (E : List PanicEntry → AW → Prop)  (data_0 : Value) (a_1 : Int) (b_2 : Int) (limit_3 : Int) (aw : AW) : Prop :=
  ∃ n, S78_1 Q E  n data_0 a_1 b_2 limit_3 true true aw
theorem S78_5_ok (Q : Unit → AW → Prop) (E : List PanicEntry → AW → Prop) (nx1 : Value → Int → Int → Int → Bool → Bool → AW → Prop) (L1 : ∀ (ρ : Env) (data_0 : Value) (a_1 : Int) (b_2 : Int) (limit_3 : Int) (wasBalanced_8 : Bool) (wasPartitioned_9 : Bool) (aw : AW) (h0 : ρ 0 = data_0) (h1 : ρ 1 = .int .i64 a_1) (h2 : ρ 2 = .int .i64 b_2) (h3 : ρ 3 = .int .i64 limit_3) (h8 : ρ 8 = .bool wasBalanced_8) (h9 : ρ 9 = .bool wasPartitioned_9), nx1 data_0 a_1 b_2 limit_3 wasBalanced_8 wasPartitioned_9 aw → AGo prog 134 [.code C78_6, .inLoop C78_6, .inBlock 0] ρ [] aw (RR prog f78 134 sh78 Q E)) (ρ : Env) (data_0 : Value) (a_1 : Int) (b_2 : Int) (limit_3 : Int) (wasBalanced_8 : Bool) (wasPartitioned_9 : Bool) (length_10 : Int) (pivot_11 : Int) (t_87 : Bool) (aw : AW) (h0 : ρ 0 = data_0) (h1 : ρ 1 = .int .i64 a_1) (h2 : ρ 2 = .int .i64 b_2) (h3 : ρ 3 = .int .i64 limit_3) (h8 : ρ 8 = .bool wasBalanced_8) (h9 : ρ 9 = .bool wasPartitioned_9) (h10 : ρ 10 = .int .i64 length_10) (h11 : ρ 11 = .int .i64 pivot_11) (h87 : ρ 87 = .bool t_87) (H : S78_5 Q E nx1 data_0 a_1 b_2 limit_3 wasBalanced_8 wasPartitioned_9 length_10 pivot_11 t_87 aw) :
    AGo prog 134 [.code C78_58, .code C78_65, .inBlock 1, .inLoop C78_6, .inBlock 0] ρ [] aw (RR prog f78 134 sh78 Q E) := by
  unfold S78_5 at H
  refine ago_condE  E78_58 rfl h87 (fun hb1 => ?_) (fun hb1 => ?_)
  · replace H := cnd_t H hb1
    refine ago_seqE E78_59 ?_
    refine ago_regE E78_60 (l := [0, 1, 2, 3, 4, 5]) rfl ?_
    refine lk (dt := some 88) R78_18_N rfl rfl rfl (opv_move rfl rfl h0) ?_
    refine lk (dt := some 89) R78_18_N rfl rfl rfl (opv_move rfl rfl h1) ?_
    refine lk (dt := some 90) R78_18_N rfl rfl rfl (opv_move rfl rfl h2) ?_
    refine lk (dt := some 91) R78_18_N rfl rfl rfl (opv_move rfl rfl h11) ?_
    refine lk_call (dt := some 92) R78_18_N rfl rfl rfl (opc_of rfl rfl is87 (ma_cons rfl (ma_cons rfl (ma_cons rfl (ma_cons rfl rfl))))) H (fun _ _ h => ⟨rfl, h⟩) fun r2 aw3 H => ?_
    refine lk (dt := some 13) R78_18_N rfl rfl rfl (opv_assign rfl rfl rfl) ?_
    refine aops_nil ?_
    refine ago_seqE E78_61 ?_
    refine ago_regE E78_62 (l := [0, 1]) rfl ?_
    refine lk (dt := some 93) R78_19_N rfl rfl rfl (opv_move rfl rfl rfl) ?_
    refine lk (dt := some 1) R78_19_N rfl rfl rfl (opv_assign rfl rfl rfl) ?_
    refine aops_nil ?_
    refine ago_exitE E78_63 rfl ?_
    refine ago_inLoop ?_
    exact L1 _ data_0 r2 b_2 limit_3 wasBalanced_8 wasPartitioned_9 aw3 h0 rfl h2 h3 h8 h9 H
  replace H := cnd_f H hb1
  refine ago_skipE E78_64 ?_
  refine ago_seqE E78_65 ?_
  refine ago_regE E78_66 (l := [0, 1, 2, 3, 4, 5, 6, 7, 8, 9]) rfl ?_
  refine lk (dt := some 95) R78_20_N rfl rfl rfl (opv_move rfl rfl h0) ?_
  refine lk (dt := some 96) R78_20_N rfl rfl rfl (opv_move rfl rfl h1) ?_
  refine lk (dt := some 97) R78_20_N rfl rfl rfl (opv_move rfl rfl h2) ?_
  refine lk (dt := some 98) R78_20_N rfl rfl rfl (opv_move rfl rfl h11) ?_
  refine lk_call (dt := some 99) R78_20_N rfl rfl rfl (opc_of rfl rfl is88 (ma_cons rfl (ma_cons rfl (ma_cons rfl (ma_cons rfl rfl))))) H (fun _ _ h => ⟨rfl, h⟩) fun r4 aw5 H => ?_
  refine lk (dt := some 94) R78_20_N rfl rfl rfl (opv_move rfl rfl rfl) ?_
  refine lk (dt := some 100) R78_20_N rfl rfl rfl (opv_extract rfl rfl rfl rfl) ?_
  refine lk (dt := some 101) R78_20_N rfl rfl rfl (opv_extract rfl rfl rfl rfl) ?_
  refine lk (dt := some 14) R78_20_N rfl rfl rfl (opv_assign rfl rfl rfl) ?_
  refine lk (dt := some 15) R78_20_N rfl rfl rfl (opv_assign rfl rfl rfl) ?_
  refine aops_nil ?_
  refine ago_seqE E78_67 ?_
  refine ago_regE E78_68 (l := [0, 1]) rfl ?_
  refine lk (dt := some 102) R78_21_N rfl rfl rfl (opv_move rfl rfl rfl) ?_
  refine lk (dt := some 9) R78_21_N rfl rfl rfl (opv_assign rfl rfl rfl) ?_
  refine aops_nil ?_
  refine ago_seqE E78_69 ?_
  refine ago_cut (fun ρ => ρ 0 = data_0 ∧ ρ 1 = .int .i64 a_1 ∧ ρ 2 = .int .i64 b_2 ∧ ρ 3 = .int .i64 limit_3 ∧ ρ 9 = .bool r4.2 ∧ ρ 10 = .int .i64 length_10 ∧ ρ 14 = .int .i64 r4.1 ∧ True) ⟨h0, h1, h2, h3, rfl, h10, rfl, trivial⟩ (fun ρ ⟨h0, h1, h2, h3, h9, h10, h14, _⟩ => ?_)
  refine ago_regE E78_70 (l := [0, 1, 2, 3, 4, 5, 6, 7]) rfl ?_
  refine lk (dt := some 103) R78_22_N rfl rfl rfl (opv_move rfl rfl h14) ?_
  refine lk (dt := some 104) R78_22_N rfl rfl rfl (opv_move rfl rfl h1) ?_
  refine lk (dt := some 105) R78_22_N rfl rfl rfl (opv_sub rfl rfl rfl rfl rfl) ?_
  refine lk (dt := some 106) R78_22_N rfl rfl rfl (opv_move rfl rfl h2) ?_
  refine lk (dt := some 107) R78_22_N rfl rfl rfl (opv_move rfl rfl h14) ?_
  refine lk (dt := some 108) R78_22_N rfl rfl rfl (opv_sub rfl rfl rfl rfl rfl) ?_
  refine lk (dt := some 16) R78_22_N rfl rfl rfl (opv_assign rfl rfl rfl) ?_
  refine lk (dt := some 17) R78_22_N rfl rfl rfl (opv_assign rfl rfl rfl) ?_
  refine aops_nil ?_
  refine ago_seqE E78_71 ?_
  refine ago_regE E78_72 (l := [0, 1, 2]) rfl ?_
  refine lk (dt := some 109) R78_23_N rfl rfl rfl (opv_move rfl rfl h10) ?_
  refine lk (dt := some 110) R78_23_N rfl rfl rfl (opv_quo rfl rfl rfl rfl rfl (by decide)) ?_
  refine lk (dt := some 18) R78_23_N rfl rfl rfl (opv_assign rfl rfl rfl) ?_
  refine aops_nil ?_
  refine ago_seqE E78_73 ?_
  refine ago_regE E78_74 (l := [0, 1, 2]) rfl ?_
  refine lk (dt := some 111) R78_24_N rfl rfl rfl (opv_move rfl rfl rfl) ?_
  refine lk (dt := some 112) R78_24_N rfl rfl rfl (opv_move rfl rfl rfl) ?_
  refine lk (dt := some 113) R78_24_N rfl rfl rfl (opv_lt rfl rfl rfl rfl rfl) ?_
  refine aops_nil ?_
  refine ago_condE  E78_75 rfl rfl (fun hb6 => ?_) (fun hb6 => ?_)
  · replace H := cnd_t H hb6
    refine ago_seqE E78_76 ?_
    refine ago_cut (fun ρ => ρ 0 = data_0 ∧ ρ 1 = .int .i64 a_1 ∧ ρ 2 = .int .i64 b_2 ∧ ρ 3 = .int .i64 limit_3 ∧ ρ 9 = .bool r4.2 ∧ ρ 14 = .int .i64 r4.1 ∧ ρ 16 = .int .i64 (IntKind.i64.wrap (r4.1 - a_1)) ∧ ρ 18 = .int .i64 (IntKind.i64.wrap (Int.tdiv length_10 8)) ∧ True) ⟨h0, h1, h2, h3, h9, h14, rfl, rfl, trivial⟩ (fun ρ ⟨h0, h1, h2, h3, h9, h14, h16, h18, _⟩ => ?_)
    refine ago_regE E78_77 (l := [0, 1, 2, 3]) rfl ?_
    refine lk (dt := some 114) R78_25_N rfl rfl rfl (opv_move rfl rfl h16) ?_
    refine lk (dt := some 115) R78_25_N rfl rfl rfl (opv_move rfl rfl h18) ?_
    refine lk (dt := some 116) R78_25_N rfl rfl rfl (opv_ge rfl rfl rfl rfl rfl) ?_
    refine lk (dt := some 8) R78_25_N rfl rfl rfl (opv_assign rfl rfl rfl) ?_
    refine aops_nil ?_
    refine ago_seqE E78_78 ?_
    refine ago_regE E78_79 (l := [0, 1, 2, 3, 4]) rfl ?_
    refine lk (dt := some 117) R78_26_N rfl rfl rfl (opv_move rfl rfl h0) ?_
    refine lk (dt := some 118) R78_26_N rfl rfl rfl (opv_move rfl rfl h1) ?_
    refine lk (dt := some 119) R78_26_N rfl rfl rfl (opv_move rfl rfl h14) ?_
    refine lk (dt := some 120) R78_26_N rfl rfl rfl (opv_move rfl rfl h3) ?_
    refine lk_call (dt := some 121) R78_26_N rfl rfl rfl (opc_of rfl rfl is78 (ma_cons rfl (ma_cons rfl (ma_cons rfl (ma_cons rfl rfl))))) H (fun _ _ h => ⟨rfl, h⟩) fun r7 aw8 H => ?_
    refine aops_nil ?_
    refine ago_regE E78_80 (l := [0, 1, 2]) rfl ?_
    refine lk (dt := some 122) R78_27_N rfl rfl rfl (opv_move rfl rfl h14) ?_
    refine lk (dt := some 123) R78_27_N rfl rfl rfl (opv_add rfl rfl rfl rfl rfl) ?_
    refine lk (dt := some 1) R78_27_N rfl rfl rfl (opv_assign rfl rfl rfl) ?_
    refine aops_nil ?_
    refine ago_inBlock ?_
    refine ago_inLoop ?_
    exact L1 _ data_0 (IntKind.i64.wrap (r4.1 + 1)) b_2 limit_3 (decide ((IntKind.i64.wrap (Int.tdiv length_10 8)) ≤ (IntKind.i64.wrap (r4.1 - a_1)))) r4.2 aw8 h0 rfl h2 h3 rfl h9 H
  replace H := cnd_f H hb6
  refine ago_seqE E78_81 ?_
  refine ago_cut (fun ρ => ρ 0 = data_0 ∧ ρ 1 = .int .i64 a_1 ∧ ρ 2 = .int .i64 b_2 ∧ ρ 3 = .int .i64 limit_3 ∧ ρ 9 = .bool r4.2 ∧ ρ 14 = .int .i64 r4.1 ∧ ρ 17 = .int .i64 (IntKind.i64.wrap (b_2 - r4.1)) ∧ ρ 18 = .int .i64 (IntKind.i64.wrap (Int.tdiv length_10 8)) ∧ True) ⟨h0, h1, h2, h3, h9, h14, rfl, rfl, trivial⟩ (fun ρ ⟨h0, h1, h2, h3, h9, h14, h17, h18, _⟩ => ?_)
  refine ago_regE E78_82 (l := [0, 1, 2, 3]) rfl ?_
  refine lk (dt := some 124) R78_28_N rfl rfl rfl (opv_move rfl rfl h17) ?_
  refine lk (dt := some 125) R78_28_N rfl rfl rfl (opv_move rfl rfl h18) ?_
  refine lk (dt := some 126) R78_28_N rfl rfl rfl (opv_ge rfl rfl rfl rfl rfl) ?_
  refine lk (dt := some 8) R78_28_N rfl rfl rfl (opv_assign rfl rfl rfl) ?_
  refine aops_nil ?_
  refine ago_seqE E78_83 ?_
  refine ago_regE E78_84 (l := [0, 1, 2, 3, 4, 5]) rfl ?_
  refine lk (dt := some 127) R78_29_N rfl rfl rfl (opv_move rfl rfl h0) ?_
  refine lk (dt := some 128) R78_29_N rfl rfl rfl (opv_move rfl rfl h14) ?_
  refine lk (dt := some 129) R78_29_N rfl rfl rfl (opv_add rfl rfl rfl rfl rfl) ?_
  refine lk (dt := some 130) R78_29_N rfl rfl rfl (opv_move rfl rfl h2) ?_
  refine lk (dt := some 131) R78_29_N rfl rfl rfl (opv_move rfl rfl h3) ?_
  refine lk_call (dt := some 132) R78_29_N rfl rfl rfl (opc_of rfl rfl is78 (ma_cons rfl (ma_cons rfl (ma_cons rfl (ma_cons rfl rfl))))) H (fun _ _ h => ⟨rfl, h⟩) fun r9 aw10 H => ?_
  refine aops_nil ?_
  refine ago_regE E78_85 (l := [0, 1]) rfl ?_
  refine lk (dt := some 133) R78_30_N rfl rfl rfl (opv_move rfl rfl h14) ?_
  refine lk (dt := some 2) R78_30_N rfl rfl rfl (opv_assign rfl rfl rfl) ?_
  refine aops_nil ?_
  refine ago_inBlock ?_
  refine ago_inLoop ?_
  exact L1 _ data_0 a_1 r4.1 limit_3 (decide ((IntKind.i64.wrap (Int.tdiv length_10 8)) ≤ (IntKind.i64.wrap (b_2 - r4.1)))) r4.2 aw10 h0 h1 rfl h3 rfl h9 H
theorem S78_4_ok (Q : Unit → AW → Prop) (E : List PanicEntry → AW → Prop) (nx1 : Value → Int → Int → Int → Bool → Bool → AW → Prop) (L1 : ∀ (ρ : Env) (data_0 : Value) (a_1 : Int) (b_2 : Int) (limit_3 : Int) (wasBalanced_8 : Bool) (wasPartitioned_9 : Bool) (aw : AW) (h0 : ρ 0 = data_0) (h1 : ρ 1 = .int .i64 a_1) (h2 : ρ 2 = .int .i64 b_2) (h3 : ρ 3 = .int .i64 limit_3) (h8 : ρ 8 = .bool wasBalanced_8) (h9 : ρ 9 = .bool wasPartitioned_9), nx1 data_0 a_1 b_2 limit_3 wasBalanced_8 wasPartitioned_9 aw → AGo prog 134 [.code C78_6, .inLoop C78_6, .inBlock 0] ρ [] aw (RR prog f78 134 sh78 Q E)) (ρ : Env) (data_0 : Value) (a_1 : Int) (b_2 : Int) (limit_3 : Int) (wasBalanced_8 : Bool) (wasPartitioned_9 : Bool) (length_10 : Int) (pivot_11 : Int) (aw : AW) (h0 : ρ 0 = data_0) (h1 : ρ 1 = .int .i64 a_1) (h2 : ρ 2 = .int .i64 b_2) (h3 : ρ 3 = .int .i64 limit_3) (h8 : ρ 8 = .bool wasBalanced_8) (h9 : ρ 9 = .bool wasPartitioned_9) (h10 : ρ 10 = .int .i64 length_10) (h11 : ρ 11 = .int .i64 pivot_11) (H : S78_4 Q E nx1 data_0 a_1 b_2 limit_3 wasBalanced_8 wasPartitioned_9 length_10 pivot_11 aw) :
    AGo prog 134 [.code C78_55, .inBlock 1, .inLoop C78_6, .inBlock 0] ρ [] aw (RR prog f78 134 sh78 Q E) := by
  unfold S78_4 at H
  refine ago_seqE E78_55 ?_
  refine ago_seqE E78_56 ?_
  rcases Bool.eq_false_or_eq_true (decide (0 < a_1)) with hb11 | hb11
  · replace H := cnd_t H hb11
    obtain ⟨b13, i14, l15, c16, p12, hp17, h018, hj19, hv20, H⟩ := H
    obtain ⟨b21, i22, x24, hp23, hg25, H⟩ := H
    obtain ⟨b27, i28, l29, c30, p26, hp31, h032, hj33, hv34, H⟩ := H
    obtain ⟨b35, i36, x38, hp37, hg39, H⟩ := H
    refine ago_drawH (p := [0, 1, 2, 3, 4, 5, 6, 7, 8, 9, 10, 11]) (tl := [(12, [], [13, 14])]) (hv := [(0, Value.int .i64 a_1), (1, Value.bool (decide (0 < a_1))), (2, Value.bool (decide (0 < a_1))), (3, data_0), (4, Value.int .i64 a_1), (5, Value.int .i64 (IntKind.i64.wrap (a_1 - 1))), (6, p12), (7, Value.int .u64 x24), (8, data_0), (9, Value.int .i64 pivot_11), (10, p26), (11, Value.int .u64 x38)]) E78_57 mixed R78_17_N R78_17_O rfl (pv_cons rfl (pv_cons rfl (pv_cons rfl (pv_cons rfl (pv_cons rfl (pv_cons rfl (pv_cons rfl (pv_cons rfl (pv_cons rfl (pv_cons rfl (pv_cons rfl (pv_cons rfl (pv_nil _)))))))))))))
      (ffc (d := 73) (v := .int .i64 a_1) (hd_v rfl fun ρ hρ => ⟨rfl, opv_move rfl rfl ((hρ 1 (lmem rfl)).trans h1)⟩) rfl rfl
      (ffc (d := 74) (v := .bool (decide (0 < a_1))) (hd_v rfl fun ρ hρ => ⟨rfl, opv_gt rfl rfl rfl ((hρ 73 (lmem rfl)).trans rfl) rfl⟩) rfl rfl
      (ffc (d := 75) (v := .bool (decide (0 < a_1))) (hd_v rfl fun ρ hρ => ⟨rfl, opv_move rfl rfl ((hρ 74 (lmem rfl)).trans rfl)⟩) rfl rfl
      (ffc (d := 76) (v := data_0) (hd_v rfl fun ρ hρ => ⟨⟨_, rfl, .inl ⟨_, ((hρ 75 (lmem rfl)).trans rfl), gq hb11 rfl⟩⟩, opv_move rfl rfl ((hρ 0 (lmem rfl)).trans h0)⟩) rfl rfl
      (ffc (d := 77) (v := .int .i64 a_1) (hd_v rfl fun ρ hρ => ⟨⟨_, rfl, .inl ⟨_, ((hρ 75 (lmem rfl)).trans rfl), gq hb11 rfl⟩⟩, opv_move rfl rfl ((hρ 1 (lmem rfl)).trans h1)⟩) rfl rfl
      (ffc (d := 78) (v := .int .i64 (IntKind.i64.wrap (a_1 - 1))) (hd_v rfl fun ρ hρ => ⟨⟨_, rfl, .inl ⟨_, ((hρ 75 (lmem rfl)).trans rfl), gq hb11 rfl⟩⟩, opv_sub rfl rfl rfl ((hρ 77 (lmem rfl)).trans rfl) rfl⟩) rfl rfl
      (ffc (d := 79) (v := p12) (hd_v rfl fun ρ hρ => ⟨⟨_, rfl, .inl ⟨_, ((hρ 75 (lmem rfl)).trans rfl), gq hb11 rfl⟩⟩, ov_ixS rfl rfl rfl underlying28 sz24 ((hρ 76 (lmem rfl)).trans rfl) ((hρ 78 (lmem rfl)).trans rfl) hp17 h018 hj19 hv20⟩) rfl rfl
      (ffc (d := 80) (v := .int .u64 x24) (hd_v rfl fun ρ hρ => ⟨⟨_, rfl, .inl ⟨_, ((hρ 75 (lmem rfl)).trans rfl), gq hb11 rfl⟩⟩, ov_ldI rfl underlying24 rfl ((hρ 79 (lmem rfl)).trans rfl) hp23 hg25⟩) rfl rfl
      (ffc (d := 81) (v := data_0) (hd_v rfl fun ρ hρ => ⟨⟨_, rfl, .inl ⟨_, ((hρ 75 (lmem rfl)).trans rfl), gq hb11 rfl⟩⟩, opv_move rfl rfl ((hρ 0 (lmem rfl)).trans h0)⟩) rfl rfl
      (ffc (d := 82) (v := .int .i64 pivot_11) (hd_v rfl fun ρ hρ => ⟨⟨_, rfl, .inl ⟨_, ((hρ 75 (lmem rfl)).trans rfl), gq hb11 rfl⟩⟩, opv_move rfl rfl ((hρ 11 (lmem rfl)).trans h11)⟩) rfl rfl
      (ffc (d := 83) (v := p26) (hd_v rfl fun ρ hρ => ⟨⟨_, rfl, .inl ⟨_, ((hρ 75 (lmem rfl)).trans rfl), gq hb11 rfl⟩⟩, ov_ixS rfl rfl rfl underlying28 sz24 ((hρ 81 (lmem rfl)).trans rfl) ((hρ 82 (lmem rfl)).trans rfl) hp31 h032 hj33 hv34⟩) rfl rfl
      (ffc (d := 84) (v := .int .u64 x38) (hd_v rfl fun ρ hρ => ⟨⟨_, rfl, .inl ⟨_, ((hρ 75 (lmem rfl)).trans rfl), gq hb11 rfl⟩⟩, ov_ldI rfl underlying24 rfl ((hρ 83 (lmem rfl)).trans rfl) hp37 hg39⟩) rfl rfl
      ffn)))))))))))) ?_
    refine lt_call (dt := some 85) rfl rfl (fun ρ hρ => ⟨⟨_, rfl, .inl ⟨_, ((hρ 75 (lmem rfl)).trans rfl), gq hb11 rfl⟩⟩, opc_of rfl rfl is86 (ma_cons ((hρ 80 (lmem rfl)).trans rfl) (ma_cons ((hρ 84 (lmem rfl)).trans rfl) rfl))⟩) H (fun _ _ h _ => ⟨rfl, h⟩) fun r40 aw41 H => ?_
    refine lt_next (l := [13, 14]) (hv := [(13, Value.bool (!r40)), (14, Value.bool (!r40))]) rfl rfl (pv_cons rfl (pv_cons rfl (pv_nil _)))
      (ffc (d := 86) (v := .bool (!r40)) (hd_v rfl fun ρ hρ => ⟨⟨_, rfl, .inl ⟨_, ((hρ 75 (lmem rfl)).trans rfl), gq hb11 rfl⟩⟩, opv_not rfl rfl ((hρ 85 (lmem rfl)).trans rfl)⟩) rfl rfl
      (ffc (d := 87) (v := .bool (!r40)) (hd_v rfl fun ρ hρ => ⟨rfl, ov_pickT rfl rfl rfl rfl ((hρ 75 (lmem rfl)).trans rfl) hb11 ((hρ 86 (lmem rfl)).trans rfl)⟩) rfl rfl
      ffn)) ?_
    refine lt_end ?_
    exact S78_5_ok Q E nx1 L1 _ data_0 a_1 b_2 limit_3 wasBalanced_8 wasPartitioned_9 length_10 pivot_11 (!r40) aw41 h0 h1 h2 h3 h8 h9 h10 h11 rfl H
  · replace H := cnd_f H hb11
    refine ago_drawH (p := [0, 1, 2, 3, 4, 5, 6, 7, 8, 9, 10, 11]) (tl := [(12, [], [13, 14])]) (hv := [(0, Value.int .i64 a_1), (1, Value.bool (decide (0 < a_1))), (2, Value.bool (decide (0 < a_1))), (3, undef), (4, undef), (5, undef), (6, undef), (7, undef), (8, undef), (9, undef), (10, undef), (11, undef)]) E78_57 mixed R78_17_N R78_17_O rfl (pv_cons rfl (pv_cons rfl (pv_cons rfl (pv_cons rfl (pv_cons rfl (pv_cons rfl (pv_cons rfl (pv_cons rfl (pv_cons rfl (pv_cons rfl (pv_cons rfl (pv_cons rfl (pv_nil _)))))))))))))
      (ffc (d := 73) (v := .int .i64 a_1) (hd_v rfl fun ρ hρ => ⟨rfl, opv_move rfl rfl ((hρ 1 (lmem rfl)).trans h1)⟩) rfl rfl
      (ffc (d := 74) (v := .bool (decide (0 < a_1))) (hd_v rfl fun ρ hρ => ⟨rfl, opv_gt rfl rfl rfl ((hρ 73 (lmem rfl)).trans rfl) rfl⟩) rfl rfl
      (ffc (d := 75) (v := .bool (decide (0 < a_1))) (hd_v rfl fun ρ hρ => ⟨rfl, opv_move rfl rfl ((hρ 74 (lmem rfl)).trans rfl)⟩) rfl rfl
      (ffc (d := 76) (v := undef) (hd_s rfl (fun ρ hρ => ⟨_, rfl, .inl ⟨_, ((hρ 75 (lmem rfl)).trans rfl), gq hb11 rfl⟩⟩) rfl) rfl rfl
      (ffc (d := 77) (v := undef) (hd_s rfl (fun ρ hρ => ⟨_, rfl, .inl ⟨_, ((hρ 75 (lmem rfl)).trans rfl), gq hb11 rfl⟩⟩) rfl) rfl rfl
      (ffc (d := 78) (v := undef) (hd_s rfl (fun ρ hρ => ⟨_, rfl, .inl ⟨_, ((hρ 75 (lmem rfl)).trans rfl), gq hb11 rfl⟩⟩) rfl) rfl rfl
      (ffc (d := 79) (v := undef) (hd_s rfl (fun ρ hρ => ⟨_, rfl, .inl ⟨_, ((hρ 75 (lmem rfl)).trans rfl), gq hb11 rfl⟩⟩) rfl) rfl rfl
      (ffc (d := 80) (v := undef) (hd_s rfl (fun ρ hρ => ⟨_, rfl, .inl ⟨_, ((hρ 75 (lmem rfl)).trans rfl), gq hb11 rfl⟩⟩) rfl) rfl rfl
      (ffc (d := 81) (v := undef) (hd_s rfl (fun ρ hρ => ⟨_, rfl, .inl ⟨_, ((hρ 75 (lmem rfl)).trans rfl), gq hb11 rfl⟩⟩) rfl) rfl rfl
      (ffc (d := 82) (v := undef) (hd_s rfl (fun ρ hρ => ⟨_, rfl, .inl ⟨_, ((hρ 75 (lmem rfl)).trans rfl), gq hb11 rfl⟩⟩) rfl) rfl rfl
      (ffc (d := 83) (v := undef) (hd_s rfl (fun ρ hρ => ⟨_, rfl, .inl ⟨_, ((hρ 75 (lmem rfl)).trans rfl), gq hb11 rfl⟩⟩) rfl) rfl rfl
      (ffc (d := 84) (v := undef) (hd_s rfl (fun ρ hρ => ⟨_, rfl, .inl ⟨_, ((hρ 75 (lmem rfl)).trans rfl), gq hb11 rfl⟩⟩) rfl) rfl rfl
      ffn)))))))))))) ?_
    refine lt_skip (dt := some 85) rfl rfl (fun ρ hρ => ⟨_, rfl, .inl ⟨_, ((hρ 75 (lmem rfl)).trans rfl), gq hb11 rfl⟩⟩) ?_
    refine lt_next (l := [13, 14]) (hv := [(13, undef), (14, Value.bool false)]) rfl rfl (pv_cons rfl (pv_cons rfl (pv_nil _)))
      (ffc (d := 86) (v := undef) (hd_s rfl (fun ρ hρ => ⟨_, rfl, .inl ⟨_, ((hρ 75 (lmem rfl)).trans rfl), gq hb11 rfl⟩⟩) rfl) rfl rfl
      (ffc (d := 87) (v := .bool false) (hd_v rfl fun ρ hρ => ⟨rfl, ov_pickF rfl rfl rfl rfl ((hρ 75 (lmem rfl)).trans rfl) hb11 rfl⟩) rfl rfl
      ffn)) ?_
    refine lt_end ?_
    exact S78_5_ok Q E nx1 L1 _ data_0 a_1 b_2 limit_3 wasBalanced_8 wasPartitioned_9 length_10 pivot_11 false aw h0 h1 h2 h3 h8 h9 h10 h11 rfl H
theorem S78_3_ok (Q : Unit → AW → Prop) (E : List PanicEntry → AW → Prop) (nx1 : Value → Int → Int → Int → Bool → Bool → AW → Prop) (L1 : ∀ (ρ : Env) (data_0 : Value) (a_1 : Int) (b_2 : Int) (limit_3 : Int) (wasBalanced_8 : Bool) (wasPartitioned_9 : Bool) (aw : AW) (h0 : ρ 0 = data_0) (h1 : ρ 1 = .int .i64 a_1) (h2 : ρ 2 = .int .i64 b_2) (h3 : ρ 3 = .int .i64 limit_3) (h8 : ρ 8 = .bool wasBalanced_8) (h9 : ρ 9 = .bool wasPartitioned_9), nx1 data_0 a_1 b_2 limit_3 wasBalanced_8 wasPartitioned_9 aw → AGo prog 134 [.code C78_6, .inLoop C78_6, .inBlock 0] ρ [] aw (RR prog f78 134 sh78 Q E)) (ρ : Env) (data_0 : Value) (a_1 : Int) (b_2 : Int) (limit_3 : Int) (wasBalanced_8 : Bool) (wasPartitioned_9 : Bool) (length_10 : Int) (pivot_11 : Int) (hint_12 : Int) (aw : AW) (h0 : ρ 0 = data_0) (h1 : ρ 1 = .int .i64 a_1) (h2 : ρ 2 = .int .i64 b_2) (h3 : ρ 3 = .int .i64 limit_3) (h8 : ρ 8 = .bool wasBalanced_8) (h9 : ρ 9 = .bool wasPartitioned_9) (h10 : ρ 10 = .int .i64 length_10) (h11 : ρ 11 = .int .i64 pivot_11) (h12 : ρ 12 = .int .i64 hint_12) (H : S78_3 Q E nx1 data_0 a_1 b_2 limit_3 wasBalanced_8 wasPartitioned_9 length_10 pivot_11 hint_12 aw) :
    AGo prog 134 [.code C78_45, .inBlock 1, .inLoop C78_6, .inBlock 0] ρ [] aw (RR prog f78 134 sh78 Q E) := by
  unfold S78_3 at H
  refine ago_seqE E78_45 ?_
  refine ago_seqE E78_46 ?_
  refine ago_regE E78_47 (l := [0, 1, 2, 3, 4, 5, 6, 7]) rfl ?_
  refine lk (dt := some 61) R78_15_N rfl rfl rfl (opv_move rfl rfl h8) ?_
  refine lk (dt := some 62) R78_15_N rfl rfl rfl (opv_move rfl rfl rfl) ?_
  rcases Bool.eq_false_or_eq_true wasBalanced_8 with hb42 | hb42
  · replace H := cnd_t H hb42
    refine lk (dt := some 63) R78_15_N rfl rfl ⟨_, rfl, .inl ⟨_, rfl, gq hb42 rfl⟩⟩ (opv_move rfl rfl h9) ?_
    refine lk (dt := some 64) R78_15_N rfl rfl rfl (ov_pickT rfl rfl rfl rfl rfl hb42 rfl) ?_
    refine lk (dt := some 65) R78_15_N rfl rfl rfl (opv_move rfl rfl rfl) ?_
    rcases Bool.eq_false_or_eq_true wasPartitioned_9 with hb43 | hb43
    · replace H := cnd_t H hb43
      refine lk (dt := some 66) R78_15_N rfl rfl ⟨_, rfl, .inl ⟨_, rfl, gq hb43 rfl⟩⟩ (opv_move rfl rfl h12) ?_
      refine lk (dt := some 67) R78_15_N rfl rfl ⟨_, rfl, .inl ⟨_, rfl, gq hb43 rfl⟩⟩ (opv_eqI rfl rfl rfl rfl rfl) ?_
      refine lk (dt := some 68) R78_15_N rfl rfl rfl (ov_pickT rfl rfl rfl rfl rfl hb43 rfl) ?_
      refine aops_nil ?_
      refine ago_condE  E78_48 rfl rfl (fun hb44 => ?_) (fun hb44 => ?_)
      · replace H := cnd_t H hb44
        refine ago_seqE E78_49 ?_
        refine ago_regE E78_50 (l := [0, 1, 2, 3]) rfl ?_
        refine lk (dt := some 69) R78_16_N rfl rfl rfl (opv_move rfl rfl h0) ?_
        refine lk (dt := some 70) R78_16_N rfl rfl rfl (opv_move rfl rfl h1) ?_
        refine lk (dt := some 71) R78_16_N rfl rfl rfl (opv_move rfl rfl h2) ?_
        refine lk_call (dt := some 72) R78_16_N rfl rfl rfl (opc_of rfl rfl is85 (ma_cons rfl (ma_cons rfl (ma_cons rfl rfl)))) H (fun _ _ h => ⟨rfl, h⟩) fun r45 aw46 H => ?_
        refine aops_nil ?_
        refine ago_condE  E78_51 rfl rfl (fun hb47 => ?_) (fun hb47 => ?_)
        · replace H := cnd_t H hb47
          exact ago_retE E78_52 (r := ()) (ares_0 rfl ) rfl H
        replace H := cnd_f H hb47
        refine ago_skipE E78_53 ?_
        exact S78_4_ok Q E nx1 L1 _ data_0 a_1 b_2 limit_3 wasBalanced_8 wasPartitioned_9 length_10 pivot_11 aw46 h0 h1 h2 h3 h8 h9 h10 h11 H
      replace H := cnd_f H hb44
      refine ago_skipE E78_54 ?_
      exact S78_4_ok Q E nx1 L1 _ data_0 a_1 b_2 limit_3 wasBalanced_8 wasPartitioned_9 length_10 pivot_11 aw h0 h1 h2 h3 h8 h9 h10 h11 H
    · replace H := cnd_f H hb43
      refine lk_skip (dt := some 66) R78_15_N rfl rfl ⟨_, rfl, .inl ⟨_, rfl, gq hb43 rfl⟩⟩ ?_
      refine lk_skip (dt := some 67) R78_15_N rfl rfl ⟨_, rfl, .inl ⟨_, rfl, gq hb43 rfl⟩⟩ ?_
      refine lk (dt := some 68) R78_15_N rfl rfl rfl (ov_pickF rfl rfl rfl rfl rfl hb43 rfl) ?_
      refine aops_nil ?_
      refine ago_condE  E78_48 rfl rfl (fun h => ft h) (fun h => ?_)
      refine ago_skipE E78_54 ?_
      exact S78_4_ok Q E nx1 L1 _ data_0 a_1 b_2 limit_3 wasBalanced_8 wasPartitioned_9 length_10 pivot_11 aw h0 h1 h2 h3 h8 h9 h10 h11 H
  · replace H := cnd_f H hb42
    refine lk_skip (dt := some 63) R78_15_N rfl rfl ⟨_, rfl, .inl ⟨_, rfl, gq hb42 rfl⟩⟩ ?_
    refine lk (dt := some 64) R78_15_N rfl rfl rfl (ov_pickF rfl rfl rfl rfl rfl hb42 rfl) ?_
    refine lk (dt := some 65) R78_15_N rfl rfl rfl (opv_move rfl rfl rfl) ?_
    refine lk_skip (dt := some 66) R78_15_N rfl rfl ⟨_, rfl, .inl ⟨_, rfl, gq rfl rfl⟩⟩ ?_
    refine lk_skip (dt := some 67) R78_15_N rfl rfl ⟨_, rfl, .inl ⟨_, rfl, gq rfl rfl⟩⟩ ?_
    refine lk (dt := some 68) R78_15_N rfl rfl rfl (ov_pickF rfl rfl rfl rfl rfl rfl rfl) ?_
    refine aops_nil ?_
    refine ago_condE  E78_48 rfl rfl (fun h => ft h) (fun h => ?_)
    refine ago_skipE E78_54 ?_
    exact S78_4_ok Q E nx1 L1 _ data_0 a_1 b_2 limit_3 wasBalanced_8 wasPartitioned_9 length_10 pivot_11 aw h0 h1 h2 h3 h8 h9 h10 h11 H
theorem S78_2_ok (Q : Unit → AW → Prop) (E : List PanicEntry → AW → Prop) (nx1 : Value → Int → Int → Int → Bool → Bool → AW → Prop) (L1 : ∀ (ρ : Env) (data_0 : Value) (a_1 : Int) (b_2 : Int) (limit_3 : Int) (wasBalanced_8 : Bool) (wasPartitioned_9 : Bool) (aw : AW) (h0 : ρ 0 = data_0) (h1 : ρ 1 = .int .i64 a_1) (h2 : ρ 2 = .int .i64 b_2) (h3 : ρ 3 = .int .i64 limit_3) (h8 : ρ 8 = .bool wasBalanced_8) (h9 : ρ 9 = .bool wasPartitioned_9), nx1 data_0 a_1 b_2 limit_3 wasBalanced_8 wasPartitioned_9 aw → AGo prog 134 [.code C78_6, .inLoop C78_6, .inBlock 0] ρ [] aw (RR prog f78 134 sh78 Q E)) (ρ : Env) (data_0 : Value) (a_1 : Int) (b_2 : Int) (limit_3 : Int) (wasBalanced_8 : Bool) (wasPartitioned_9 : Bool) (length_10 : Int) (aw : AW) (h0 : ρ 0 = data_0) (h1 : ρ 1 = .int .i64 a_1) (h2 : ρ 2 = .int .i64 b_2) (h3 : ρ 3 = .int .i64 limit_3) (h8 : ρ 8 = .bool wasBalanced_8) (h9 : ρ 9 = .bool wasPartitioned_9) (h10 : ρ 10 = .int .i64 length_10) (H : S78_2 Q E nx1 data_0 a_1 b_2 limit_3 wasBalanced_8 wasPartitioned_9 length_10 aw) :
    AGo prog 134 [.code C78_33, .inBlock 1, .inLoop C78_6, .inBlock 0] ρ [] aw (RR prog f78 134 sh78 Q E) := by
  unfold S78_2 at H
  refine ago_seqE E78_33 ?_
  refine ago_regE E78_34 (l := [0, 1, 2, 3, 4, 5, 6, 7, 8]) rfl ?_
  refine lk (dt := some 43) R78_10_N rfl rfl rfl (opv_move rfl rfl h0) ?_
  refine lk (dt := some 44) R78_10_N rfl rfl rfl (opv_move rfl rfl h1) ?_
  refine lk (dt := some 45) R78_10_N rfl rfl rfl (opv_move rfl rfl h2) ?_
  refine lk_call (dt := some 46) R78_10_N rfl rfl rfl (opc_of rfl rfl is83 (ma_cons rfl (ma_cons rfl (ma_cons rfl rfl)))) H (fun _ _ h => ⟨rfl, h⟩) fun r50 aw51 H => ?_
  refine lk (dt := some 42) R78_10_N rfl rfl rfl (opv_move rfl rfl rfl) ?_
  refine lk (dt := some 47) R78_10_N rfl rfl rfl (opv_extract rfl rfl rfl rfl) ?_
  refine lk (dt := some 48) R78_10_N rfl rfl rfl (opv_extract rfl rfl rfl rfl) ?_
  refine lk (dt := some 11) R78_10_N rfl rfl rfl (opv_assign rfl rfl rfl) ?_
  refine lk (dt := some 12) R78_10_N rfl rfl rfl (opv_assign rfl rfl rfl) ?_
  refine aops_nil ?_
  refine ago_seqE E78_35 ?_
  refine ago_seqE E78_36 ?_
  refine ago_regE E78_37 (l := [0, 1]) rfl ?_
  refine lk (dt := some 49) R78_11_N rfl rfl rfl (opv_move rfl rfl rfl) ?_
  refine lk (dt := some 50) R78_11_N rfl rfl rfl (opv_eqI rfl rfl rfl rfl rfl) ?_
  refine aops_nil ?_
  refine ago_condE  E78_38 rfl rfl (fun hb52 => ?_) (fun hb52 => ?_)
  · replace H := cnd_t H hb52
    refine ago_seqE E78_39 ?_
    refine ago_regE E78_40 (l := [0, 1, 2, 3]) rfl ?_
    refine lk (dt := some 51) R78_12_N rfl rfl rfl (opv_move rfl rfl h0) ?_
    refine lk (dt := some 52) R78_12_N rfl rfl rfl (opv_move rfl rfl h1) ?_
    refine lk (dt := some 53) R78_12_N rfl rfl rfl (opv_move rfl rfl h2) ?_
    refine lk_call (dt := some 54) R78_12_N rfl rfl rfl (opc_of rfl rfl is84 (ma_cons rfl (ma_cons rfl (ma_cons rfl rfl)))) H (fun _ _ h => ⟨rfl, h⟩) fun r53 aw54 H => ?_
    refine aops_nil ?_
    refine ago_seqE E78_41 ?_
    refine ago_cut (fun ρ => ρ 0 = data_0 ∧ ρ 1 = .int .i64 a_1 ∧ ρ 2 = .int .i64 b_2 ∧ ρ 3 = .int .i64 limit_3 ∧ ρ 8 = .bool wasBalanced_8 ∧ ρ 9 = .bool wasPartitioned_9 ∧ ρ 10 = .int .i64 length_10 ∧ ρ 11 = .int .i64 r50.1 ∧ True) ⟨h0, h1, h2, h3, h8, h9, h10, rfl, trivial⟩ (fun ρ ⟨h0, h1, h2, h3, h8, h9, h10, h11, _⟩ => ?_)
    refine ago_regE E78_42 (l := [0, 1, 2, 3, 4, 5, 6]) rfl ?_
    refine lk (dt := some 55) R78_13_N rfl rfl rfl (opv_move rfl rfl h2) ?_
    refine lk (dt := some 56) R78_13_N rfl rfl rfl (opv_sub rfl rfl rfl rfl rfl) ?_
    refine lk (dt := some 57) R78_13_N rfl rfl rfl (opv_move rfl rfl h11) ?_
    refine lk (dt := some 58) R78_13_N rfl rfl rfl (opv_move rfl rfl h1) ?_
    refine lk (dt := some 59) R78_13_N rfl rfl rfl (opv_sub rfl rfl rfl rfl rfl) ?_
    refine lk (dt := some 60) R78_13_N rfl rfl rfl (opv_sub rfl rfl rfl rfl rfl) ?_
    refine lk (dt := some 11) R78_13_N rfl rfl rfl (opv_assign rfl rfl rfl) ?_
    refine aops_nil ?_
    refine ago_regE E78_43 (l := [0]) rfl ?_
    refine lk (dt := some 12) R78_14_N rfl rfl rfl (opv_assign rfl rfl rfl) ?_
    refine aops_nil ?_
    exact S78_3_ok Q E nx1 L1 _ data_0 a_1 b_2 limit_3 wasBalanced_8 wasPartitioned_9 length_10 (IntKind.i64.wrap ((IntKind.i64.wrap (b_2 - 1)) - (IntKind.i64.wrap (r50.1 - a_1)))) 1 aw54 h0 h1 h2 h3 h8 h9 h10 rfl rfl H
  replace H := cnd_f H hb52
  refine ago_skipE E78_44 ?_
  exact S78_3_ok Q E nx1 L1 _ data_0 a_1 b_2 limit_3 wasBalanced_8 wasPartitioned_9 length_10 r50.1 r50.2 aw51 h0 h1 h2 h3 h8 h9 h10 rfl rfl H
theorem S78_1s_ok (Q : Unit → AW → Prop) (E : List PanicEntry → AW → Prop)  (nx1 : Value → Int → Int → Int → Bool → Bool → AW → Prop) (L1 : ∀ (ρ : Env) (data_0 : Value) (a_1 : Int) (b_2 : Int) (limit_3 : Int) (wasBalanced_8 : Bool) (wasPartitioned_9 : Bool) (aw : AW) (h0 : ρ 0 = data_0) (h1 : ρ 1 = .int .i64 a_1) (h2 : ρ 2 = .int .i64 b_2) (h3 : ρ 3 = .int .i64 limit_3) (h8 : ρ 8 = .bool wasBalanced_8) (h9 : ρ 9 = .bool wasPartitioned_9), nx1 data_0 a_1 b_2 limit_3 wasBalanced_8 wasPartitioned_9 aw → AGo prog 134 [.code C78_6, .inLoop C78_6, .inBlock 0] ρ [] aw (RR prog f78 134 sh78 Q E)) (ρ : Env) (data_0 : Value) (a_1 : Int) (b_2 : Int) (limit_3 : Int) (wasBalanced_8 : Bool) (wasPartitioned_9 : Bool) (aw : AW) (h0 : ρ 0 = data_0) (h1 : ρ 1 = .int .i64 a_1) (h2 : ρ 2 = .int .i64 b_2) (h3 : ρ 3 = .int .i64 limit_3) (h8 : ρ 8 = .bool wasBalanced_8) (h9 : ρ 9 = .bool wasPartitioned_9) (H : S78_1s Q E  nx1 data_0 a_1 b_2 limit_3 wasBalanced_8 wasPartitioned_9 aw) :
    AGo prog 134 [.code C78_6, .inLoop C78_6, .inBlock 0] ρ [] aw (RR prog f78 134 sh78 Q E) := by
  unfold S78_1s at H
  refine ago_blockE E78_6 ?_
  refine ago_seqE E78_7 ?_
  refine ago_regE E78_8 (l := [0, 1, 2, 3]) rfl ?_
  refine lk (dt := some 19) R78_2_N rfl rfl rfl (opv_move rfl rfl h2) ?_
  refine lk (dt := some 20) R78_2_N rfl rfl rfl (opv_move rfl rfl h1) ?_
  refine lk (dt := some 21) R78_2_N rfl rfl rfl (opv_sub rfl rfl rfl rfl rfl) ?_
  refine lk (dt := some 10) R78_2_N rfl rfl rfl (opv_assign rfl rfl rfl) ?_
  refine aops_nil ?_
  refine ago_seqE E78_9 ?_
  refine ago_seqE E78_10 ?_
  refine ago_regE E78_11 (l := [0, 1]) rfl ?_
  refine lk (dt := some 22) R78_3_N rfl rfl rfl (opv_move rfl rfl rfl) ?_
  refine lk (dt := some 23) R78_3_N rfl rfl rfl (opv_le rfl rfl rfl rfl rfl) ?_
  refine aops_nil ?_
  refine ago_condE  E78_12 rfl rfl (fun hb55 => ?_) (fun hb55 => ?_)
  · replace H := cnd_t H hb55
    refine ago_seqE E78_13 ?_
    refine ago_regE E78_14 (l := [0, 1, 2, 3]) rfl ?_
    refine lk (dt := some 24) R78_4_N rfl rfl rfl (opv_move rfl rfl h0) ?_
    refine lk (dt := some 25) R78_4_N rfl rfl rfl (opv_move rfl rfl h1) ?_
    refine lk (dt := some 26) R78_4_N rfl rfl rfl (opv_move rfl rfl h2) ?_
    refine lk_call (dt := some 27) R78_4_N rfl rfl rfl (opc_of rfl rfl is80 (ma_cons rfl (ma_cons rfl (ma_cons rfl rfl)))) H (fun _ _ h => ⟨rfl, h⟩) fun r56 aw57 H => ?_
    refine aops_nil ?_
    exact ago_retE E78_15 (r := ()) (ares_0 rfl ) rfl H
  replace H := cnd_f H hb55
  refine ago_skipE E78_16 ?_
  refine ago_seqE E78_17 ?_
  refine ago_seqE E78_18 ?_
  refine ago_regE E78_19 (l := [0, 1]) rfl ?_
  refine lk (dt := some 28) R78_5_N rfl rfl rfl (opv_move rfl rfl h3) ?_
  refine lk (dt := some 29) R78_5_N rfl rfl rfl (opv_eqI rfl rfl rfl rfl rfl) ?_
  refine aops_nil ?_
  refine ago_condE  E78_20 rfl rfl (fun hb58 => ?_) (fun hb58 => ?_)
  · replace H := cnd_t H hb58
    refine ago_seqE E78_21 ?_
    refine ago_regE E78_22 (l := [0, 1, 2, 3]) rfl ?_
    refine lk (dt := some 30) R78_6_N rfl rfl rfl (opv_move rfl rfl h0) ?_
    refine lk (dt := some 31) R78_6_N rfl rfl rfl (opv_move rfl rfl h1) ?_
    refine lk (dt := some 32) R78_6_N rfl rfl rfl (opv_move rfl rfl h2) ?_
    refine lk_call (dt := some 33) R78_6_N rfl rfl rfl (opc_of rfl rfl is81 (ma_cons rfl (ma_cons rfl (ma_cons rfl rfl)))) H (fun _ _ h => ⟨rfl, h⟩) fun r59 aw60 H => ?_
    refine aops_nil ?_
    exact ago_retE E78_23 (r := ()) (ares_0 rfl ) rfl H
  replace H := cnd_f H hb58
  refine ago_skipE E78_24 ?_
  refine ago_seqE E78_25 ?_
  refine ago_seqE E78_26 ?_
  refine ago_regE E78_27 (l := [0, 1]) rfl ?_
  refine lk (dt := some 34) R78_7_N rfl rfl rfl (opv_move rfl rfl h8) ?_
  refine lk (dt := some 35) R78_7_N rfl rfl rfl (opv_not rfl rfl rfl) ?_
  refine aops_nil ?_
  refine ago_condE  E78_28 rfl rfl (fun hb61 => ?_) (fun hb61 => ?_)
  · replace H := cnd_t H hb61
    refine ago_seqE E78_29 ?_
    refine ago_regE E78_30 (l := [0, 1, 2, 3]) rfl ?_
    refine lk (dt := some 36) R78_8_N rfl rfl rfl (opv_move rfl rfl h0) ?_
    refine lk (dt := some 37) R78_8_N rfl rfl rfl (opv_move rfl rfl h1) ?_
    refine lk (dt := some 38) R78_8_N rfl rfl rfl (opv_move rfl rfl h2) ?_
    refine lk_call (dt := some 39) R78_8_N rfl rfl rfl (opc_of rfl rfl is82 (ma_cons rfl (ma_cons rfl (ma_cons rfl rfl)))) H (fun _ _ h => ⟨rfl, h⟩) fun r62 aw63 H => ?_
    refine aops_nil ?_
    refine ago_cut (fun ρ => ρ 0 = data_0 ∧ ρ 1 = .int .i64 a_1 ∧ ρ 2 = .int .i64 b_2 ∧ ρ 3 = .int .i64 limit_3 ∧ ρ 8 = .bool wasBalanced_8 ∧ ρ 9 = .bool wasPartitioned_9 ∧ ρ 10 = .int .i64 (IntKind.i64.wrap (b_2 - a_1)) ∧ True) ⟨h0, h1, h2, h3, h8, h9, rfl, trivial⟩ (fun ρ ⟨h0, h1, h2, h3, h8, h9, h10, _⟩ => ?_)
    refine ago_regE E78_31 (l := [0, 1, 2]) rfl ?_
    refine lk (dt := some 40) R78_9_N rfl rfl rfl (opv_move rfl rfl h3) ?_
    refine lk (dt := some 41) R78_9_N rfl rfl rfl (opv_sub rfl rfl rfl rfl rfl) ?_
    refine lk (dt := some 3) R78_9_N rfl rfl rfl (opv_assign rfl rfl rfl) ?_
    refine aops_nil ?_
    exact S78_2_ok Q E nx1 L1 _ data_0 a_1 b_2 (IntKind.i64.wrap (limit_3 - 1)) wasBalanced_8 wasPartitioned_9 (IntKind.i64.wrap (b_2 - a_1)) aw63 h0 h1 h2 rfl h8 h9 h10 H
  replace H := cnd_f H hb61
  refine ago_skipE E78_32 ?_
  exact S78_2_ok Q E nx1 L1 _ data_0 a_1 b_2 limit_3 wasBalanced_8 wasPartitioned_9 (IntKind.i64.wrap (b_2 - a_1)) aw h0 h1 h2 h3 h8 h9 rfl H
theorem S78_1_ok (Q : Unit → AW → Prop) (E : List PanicEntry → AW → Prop)  : ∀ (n : Nat) (ρ : Env) (data_0 : Value) (a_1 : Int) (b_2 : Int) (limit_3 : Int) (wasBalanced_8 : Bool) (wasPartitioned_9 : Bool) (aw : AW) (h0 : ρ 0 = data_0) (h1 : ρ 1 = .int .i64 a_1) (h2 : ρ 2 = .int .i64 b_2) (h3 : ρ 3 = .int .i64 limit_3) (h8 : ρ 8 = .bool wasBalanced_8) (h9 : ρ 9 = .bool wasPartitioned_9), S78_1 Q E  n data_0 a_1 b_2 limit_3 wasBalanced_8 wasPartitioned_9 aw →
    AGo prog 134 [.code C78_6, .inLoop C78_6, .inBlock 0] ρ [] aw (RR prog f78 134 sh78 Q E)
  | 0, _, _, _, _, _, _, _, _, _, _, _, _, _, _ => fun H => H.elim
  | n + 1, ρ, data_0, a_1, b_2, limit_3, wasBalanced_8, wasPartitioned_9, aw, h0, h1, h2, h3, h8, h9 => fun H => S78_1s_ok Q E  _ (S78_1_ok Q E  n) ρ data_0 a_1 b_2 limit_3 wasBalanced_8 wasPartitioned_9 aw h0 h1 h2 h3 h8 h9 H
theorem S78_0_ok (Q : Unit → AW → Prop) (E : List PanicEntry → AW → Prop)  (ρ : Env) (data_0 : Value) (a_1 : Int) (b_2 : Int) (limit_3 : Int) (aw : AW) (h0 : ρ 0 = data_0) (h1 : ρ 1 = .int .i64 a_1) (h2 : ρ 2 = .int .i64 b_2) (h3 : ρ 3 = .int .i64 limit_3) (H : S78_0 Q E  data_0 a_1 b_2 limit_3 aw) :
    AGo prog 134 [.code C78_0] ρ [] aw (RR prog f78 134 sh78 Q E) := by
  unfold S78_0 at H
  refine ago_seqE E78_0 ?_
  refine ago_regE E78_1 (l := [0]) rfl ?_
  refine lk (dt := some 8) R78_0_N rfl rfl rfl (opv_assign rfl rfl rfl) ?_
  refine aops_nil ?_
  refine ago_seqE E78_2 ?_
  refine ago_regE E78_3 (l := [0]) rfl ?_
  refine lk (dt := some 9) R78_1_N rfl rfl rfl (opv_assign rfl rfl rfl) ?_
  refine aops_nil ?_
  refine ago_blockE E78_4 ?_
  refine ago_loopE E78_5 ?_
  obtain ⟨n, H⟩ := H
  exact S78_1_ok Q E  n _ data_0 a_1 b_2 limit_3 true true aw h0 h1 h2 h3 rfl rfl H
theorem F78_ok {Q : Unit → AW → Prop} {E : List PanicEntry → AW → Prop} (data_0 : Value) (a_1 : Int) (b_2 : Int) (limit_3 : Int) (aw : AW) (H : S78_0 Q E data_0 a_1 b_2 limit_3 aw) : CallP prog 78 [data_0, .int .i64 a_1, .int .i64 b_2, .int .i64 limit_3] aw sh78 Q E :=
  callP_of func78 C78_is rfl (Nat.le_of_ble_eq_true rfl) (S78_0_ok Q E _ data_0 a_1 b_2 limit_3 aw rfl rfl rfl rfl H)
def C79_0 : Code := bodyOf f79
theorem C79_is : f79.body = some C79_0 := by kernel_rfl
def C79_1 : Code := cl C79_0
def R79_0 : Array Oper := regOps C79_1
def C79_2 : Code := cr C79_0
def C79_3 : Code := cl C79_2
def C79_4 : Code := cl C79_3
def C79_7 : Code := cr C79_3
def C79_8 : Code := cr C79_2
def C79_9 : Code := cl C79_8
def R79_2 : Array Oper := regOps C79_9
def C79_10 : Code := cr C79_8
theorem R79_0_N : dstsOk 8 R79_0 = true := by decide +kernel
theorem E79_1 : C79_1 = .region 0 R79_0 false := rfl
theorem E79_7 : C79_7 = .skip := rfl
theorem E79_3 : C79_3 = .cond (.const (.bool false)) C79_4 C79_7 := rfl
theorem R79_2_N : dstsOk 8 R79_2 = true := by decide +kernel
theorem E79_9 : C79_9 = .region 2 R79_2 false := rfl
theorem E79_10 : C79_10 = .ret := rfl
theorem E79_8 : C79_8 = .seq C79_9 C79_10 := rfl
theorem E79_2 : C79_2 = .seq C79_3 C79_8 := rfl
theorem E79_0 : C79_0 = .seq C79_1 C79_2 := rfl
def S79_0 (Q : Int → AW → Prop) (E : List PanicEntry → AW → Prop)  (x_0 : Int) (aw : AW) : Prop :=
  CallP prog 90 [.int .u64 x_0] aw sh90 (fun r2 aw3 =>
  Q r2 aw3) E
theorem S79_0_ok (Q : Int → AW → Prop) (E : List PanicEntry → AW → Prop)  (ρ : Env) (x_0 : Int) (aw : AW) (h0 : ρ 0 = .int .u64 x_0) (H : S79_0 Q E  x_0 aw) :
    AGo prog 8 [.code C79_0] ρ [] aw (RR prog f79 8 sh79 Q E) := by
  unfold S79_0 at H
  refine ago_seqE E79_0 ?_
  refine ago_regE E79_1 (l := [0]) rfl ?_
  refine lk (dt := some 2) R79_0_N rfl rfl rfl (opv_assign rfl rfl rfl) ?_
  refine aops_nil ?_
  refine ago_seqE E79_2 ?_
  refine ago_condE  E79_3 rfl rfl (fun h => ft h) (fun h => ?_)
  refine ago_skipE E79_7 ?_
  refine ago_seqE E79_8 ?_
  refine ago_regE E79_9 (l := [0, 1, 2]) rfl ?_
  refine lk (dt := some 6) R79_2_N rfl rfl rfl (opv_move rfl rfl h0) ?_
  refine lk_call (dt := some 7) R79_2_N rfl rfl rfl (opc_of rfl rfl is90 (ma_cons rfl rfl)) H (fun _ _ h => ⟨rfl, h⟩) fun r2 aw3 H => ?_
  refine lk (dt := some 2) R79_2_N rfl rfl rfl (opv_assign rfl rfl rfl) ?_
  refine aops_nil ?_
  exact ago_retE E79_10 (r := r2) (ares_1 rfl (oneT rfl)) rfl H
theorem F79_ok {Q : Int → AW → Prop} {E : List PanicEntry → AW → Prop} (x_0 : Int) (aw : AW) (H : S79_0 Q E x_0 aw) : CallP prog 79 [.int .u64 x_0] aw sh79 Q E :=
  callP_of func79 C79_is rfl (Nat.le_of_ble_eq_true rfl) (S79_0_ok Q E _ x_0 aw rfl H)
def C80_0 : Code := bodyOf f80
theorem C80_is : f80.body = some C80_0 := by kernel_rfl
def C80_1 : Code := cl C80_0
def R80_0 : Array Oper := regOps C80_1
def C80_2 : Code := cr C80_0
def C80_3 : Code := cl C80_2
def C80_4 : Code := cl C80_3
def C80_5 : Code := cl C80_4
def C80_6 : Code := cl C80_5
def R80_1 : Array Oper := regOps C80_6
def C80_7 : Code := cr C80_5
def C80_8 : Code := cl C80_7
def C80_9 : Code := cr C80_7
def C80_10 : Code := cr C80_4
def C80_11 : Code := cl C80_10
def C80_12 : Code := cl C80_11
def C80_13 : Code := cl C80_12
def R80_3 : Array Oper := regOps C80_13
def C80_14 : Code := cr C80_12
def C80_15 : Code := cl C80_14
def C80_16 : Code := cl C80_15
def C80_17 : Code := cl C80_16
def C80_18 : Code := cl C80_17
def R80_4 : Array Oper := regOps C80_18
def C80_19 : Code := cr C80_17
def C80_20 : Code := cl C80_19
def C80_21 : Code := cr C80_19
def C80_22 : Code := cr C80_16
def C80_23 : Code := cl C80_22
def C80_24 : Code := cl C80_23
def R80_6 : Array Oper := regOps C80_24
def C80_25 : Code := cr C80_22
def R80_5 : Array Oper := regOps C80_25
def C80_26 : Code := cr C80_10
def R80_2 : Array Oper := regOps C80_26
theorem R80_0_N : dstsOk 49 R80_0 = true := by decide +kernel
theorem E80_1 : C80_1 = .region 0 R80_0 false := rfl
theorem R80_1_N : dstsOk 49 R80_1 = true := by decide +kernel
theorem E80_6 : C80_6 = .region 1 R80_1 false := rfl
theorem E80_8 : C80_8 = .skip := rfl
theorem E80_9 : C80_9 = .exit 0 := rfl
theorem E80_7 : C80_7 = .cond (.tmp 12) C80_8 C80_9 := rfl
theorem E80_5 : C80_5 = .seq C80_6 C80_7 := rfl
theorem R80_3_N : dstsOk 49 R80_3 = true := by decide +kernel
theorem E80_13 : C80_13 = .region 3 R80_3 false := rfl
theorem R80_4_N : dstsOk 49 R80_4 = true := by decide +kernel
theorem R80_4_O : linOk R80_4 [0, 1, 2, 3, 4, 5, 6, 7, 8, 9, 10, 11, 12] [(13, [], [14])] = true := by decide +kernel
theorem E80_18 : C80_18 = .region 4 R80_4 true := rfl
theorem E80_20 : C80_20 = .skip := rfl
theorem E80_21 : C80_21 = .exit 2 := rfl
theorem E80_19 : C80_19 = .cond (.tmp 30) C80_20 C80_21 := rfl
theorem E80_17 : C80_17 = .seq C80_18 C80_19 := rfl
theorem R80_6_N : dstsOk 49 R80_6 = true := by decide +kernel
theorem R80_6_O : linOk R80_6 [0, 1, 2, 3, 4, 5, 6, 7, 8, 9, 10, 11, 12, 13, 14] [(15, [2, 3, 4], [16]), (17, [], [])] = true := by decide +kernel
theorem E80_24 : C80_24 = .region 6 R80_6 true := rfl
theorem E80_23 : C80_23 = .block 3 C80_24 := rfl
theorem R80_5_N : dstsOk 49 R80_5 = true := by decide +kernel
theorem E80_25 : C80_25 = .region 5 R80_5 false := rfl
theorem E80_22 : C80_22 = .seq C80_23 C80_25 := rfl
theorem E80_16 : C80_16 = .seq C80_17 C80_22 := rfl
theorem E80_15 : C80_15 = .loop C80_16 := rfl
theorem E80_14 : C80_14 = .block 2 C80_15 := rfl
theorem E80_12 : C80_12 = .seq C80_13 C80_14 := rfl
theorem E80_11 : C80_11 = .block 1 C80_12 := rfl
theorem R80_2_N : dstsOk 49 R80_2 = true := by decide +kernel
theorem E80_26 : C80_26 = .region 2 R80_2 false := rfl
theorem E80_10 : C80_10 = .seq C80_11 C80_26 := rfl
theorem E80_4 : C80_4 = .seq C80_5 C80_10 := rfl
theorem E80_3 : C80_3 = .loop C80_4 := rfl
theorem E80_2 : C80_2 = .block 0 C80_3 := rfl
theorem E80_0 : C80_0 = .seq C80_1 C80_2 := rfl
def S80_3 (Q : Unit → AW → Prop) (E : List PanicEntry → AW → Prop) (nx1 : Value → Int → Int → Int → AW → Prop) (nx2 : Value → Int → Int → Int → Int → AW → Prop) (data_0 : Value) (a_1 : Int) (b_2 : Int) (i_6 : Int) (j_7 : Int) (t_30 : Bool) (aw : AW) : Prop :=
  cnd t_30 (ixS data_0 (IntKind.i64.wrap (j_7 - 1)) 1 fun p2 =>
  ldI .u64 aw p2 fun x14 =>
  ixS data_0 j_7 1 fun p16 =>
  ldI .u64 aw p16 fun x28 =>
  ixS data_0 j_7 1 fun p30 =>
  st aw p30 [.int .u64 x14] fun aw39 =>
  ixS data_0 (IntKind.i64.wrap (j_7 - 1)) 1 fun p46 =>
  st aw39 p46 [.int .u64 x28] fun aw55 =>
  nx2 data_0 a_1 b_2 i_6 (IntKind.i64.wrap (j_7 - 1)) aw55) (nx1 data_0 a_1 b_2 (IntKind.i64.wrap (i_6 + 1)) aw)
def S80_2s (Q : Unit → AW → Prop) (E : List PanicEntry → AW → Prop) (nx1 : Value → Int → Int → Int → AW → Prop) (nx2 : Value → Int → Int → Int → Int → AW → Prop) (data_0 : Value) (a_1 : Int) (b_2 : Int) (i_6 : Int) (j_7 : Int) (aw : AW) : Prop :=
  cnd (decide (a_1 < j_7)) (ixS data_0 j_7 1 fun p63 =>
  ldI .u64 aw p63 fun x75 =>
  ixS data_0 (IntKind.i64.wrap (j_7 - 1)) 1 fun p77 =>
  ldI .u64 aw p77 fun x89 =>
  CallP prog 86 [.int .u64 x75, .int .u64 x89] aw sh86 (fun r91 aw92 =>
  S80_3 Q E nx1 nx2 data_0 a_1 b_2 i_6 j_7 r91 aw92) E) (S80_3 Q E nx1 nx2 data_0 a_1 b_2 i_6 j_7 false aw)
def S80_2 (Q : Unit → AW → Prop) (E : List PanicEntry → AW → Prop) (nx1 : Value → Int → Int → Int → AW → Prop) : Nat → Value → Int → Int → Int → Int → AW → Prop
  | 0 => fun _ _ _ _ _ _ => False
  | n + 1 => S80_2s Q E nx1 (S80_2 Q E nx1 n)
def S80_1s (Q : Unit → AW → Prop) (E : List PanicEntry → AW → Prop)  (nx1 : Value → Int → Int → Int → AW → Prop) (data_0 : Value) (a_1 : Int) (b_2 : Int) (i_6 : Int) (aw : AW) : Prop :=
  cnd (decide (i_6 < b_2)) (∃ n, S80_2 Q E nx1 n data_0 a_1 b_2 i_6 i_6 aw) (Q () aw)
def S80_1 (Q : Unit → AW → Prop) (E : List PanicEntry → AW → Prop)  : Nat → Value → Int → Int → Int → AW → Prop
  | 0 => fun _ _ _ _ _ => False
  | n + 1 => S80_1s Q E  (S80_1 Q E  n)
def S80_0 (Q : Unit → AW → Prop) (E : List PanicEntry → AW → Prop)  (data_0 : Value) (a_1 : Int) (b_2 : Int) (aw : AW) : Prop :=
  ∃ n, S80_1 Q E  n data_0 a_1 b_2 (IntKind.i64.wrap (a_1 + 1)) aw
theorem S80_3_ok (Q : Unit → AW → Prop) (E : List PanicEntry → AW → Prop) (nx1 : Value → Int → Int → Int → AW → Prop) (L1 : ∀ (ρ : Env) (data_0 : Value) (a_1 : Int) (b_2 : Int) (i_6 : Int) (aw : AW) (h0 : ρ 0 = data_0) (h1 : ρ 1 = .int .i64 a_1) (h2 : ρ 2 = .int .i64 b_2) (h6 : ρ 6 = .int .i64 i_6), nx1 data_0 a_1 b_2 i_6 aw → AGo prog 49 [.code C80_4, .inLoop C80_4, .inBlock 0] ρ [] aw (RR prog f80 49 sh80 Q E)) (nx2 : Value → Int → Int → Int → Int → AW → Prop) (L2 : ∀ (ρ : Env) (data_0 : Value) (a_1 : Int) (b_2 : Int) (i_6 : Int) (j_7 : Int) (aw : AW) (h0 : ρ 0 = data_0) (h1 : ρ 1 = .int .i64 a_1) (h2 : ρ 2 = .int .i64 b_2) (h6 : ρ 6 = .int .i64 i_6) (h7 : ρ 7 = .int .i64 j_7), nx2 data_0 a_1 b_2 i_6 j_7 aw → AGo prog 49 [.code C80_16, .inLoop C80_16, .inBlock 2, .inBlock 1, .code C80_26, .inLoop C80_4, .inBlock 0] ρ [] aw (RR prog f80 49 sh80 Q E)) (ρ : Env) (data_0 : Value) (a_1 : Int) (b_2 : Int) (i_6 : Int) (j_7 : Int) (t_30 : Bool) (aw : AW) (h0 : ρ 0 = data_0) (h1 : ρ 1 = .int .i64 a_1) (h2 : ρ 2 = .int .i64 b_2) (h6 : ρ 6 = .int .i64 i_6) (h7 : ρ 7 = .int .i64 j_7) (h30 : ρ 30 = .bool t_30) (H : S80_3 Q E nx1 nx2 data_0 a_1 b_2 i_6 j_7 t_30 aw) :
    AGo prog 49 [.code C80_19, .code C80_22, .inLoop C80_16, .inBlock 2, .inBlock 1, .code C80_26, .inLoop C80_4, .inBlock 0] ρ [] aw (RR prog f80 49 sh80 Q E) := by
  unfold S80_3 at H
  refine ago_condE  E80_19 rfl h30 (fun hb1 => ?_) (fun hb1 => ?_)
  · replace H := cnd_t H hb1
    refine ago_skipE E80_20 ?_
    refine ago_seqE E80_22 ?_
    refine ago_blockE E80_23 ?_
    obtain ⟨b3, i4, l5, c6, p2, hp7, h08, hj9, hv10, H⟩ := H
    obtain ⟨b11, i12, x14, hp13, hg15, H⟩ := H
    obtain ⟨b17, i18, l19, c20, p16, hp21, h022, hj23, hv24, H⟩ := H
    obtain ⟨b25, i26, x28, hp27, hg29, H⟩ := H
    obtain ⟨b31, i32, l33, c34, p30, hp35, h036, hj37, hv38, H⟩ := H
    refine ago_drawH (p := [0, 1, 2, 3, 4, 5, 6, 7, 8, 9, 10, 11, 12, 13, 14]) (tl := [(15, [2, 3, 4], [16]), (17, [], [])]) (hv := [(0, data_0), (1, Value.int .i64 j_7), (2, data_0), (3, Value.int .i64 j_7), (4, Value.int .i64 (IntKind.i64.wrap (j_7 - 1))), (5, data_0), (6, Value.int .i64 j_7), (7, Value.int .i64 (IntKind.i64.wrap (j_7 - 1))), (8, p2), (9, Value.int .u64 x14), (10, data_0), (11, Value.int .i64 j_7), (12, p16), (13, Value.int .u64 x28), (14, p30)]) E80_24 mixed R80_6_N R80_6_O rfl (pv_cons rfl (pv_cons rfl (pv_cons rfl (pv_cons rfl (pv_cons rfl (pv_cons rfl (pv_cons rfl (pv_cons rfl (pv_cons rfl (pv_cons rfl (pv_cons rfl (pv_cons rfl (pv_cons rfl (pv_cons rfl (pv_cons rfl (pv_nil _))))))))))))))))
      (ffc (d := 33) (v := data_0) (hd_v rfl fun ρ hρ => ⟨rfl, opv_move rfl rfl ((hρ 0 (lmem rfl)).trans h0)⟩) rfl rfl
      (ffc (d := 34) (v := .int .i64 j_7) (hd_v rfl fun ρ hρ => ⟨rfl, opv_move rfl rfl ((hρ 7 (lmem rfl)).trans h7)⟩) rfl rfl
      (ffc (d := 35) (v := data_0) (hd_v rfl fun ρ hρ => ⟨rfl, opv_move rfl rfl ((hρ 0 (lmem rfl)).trans h0)⟩) rfl rfl
      (ffc (d := 36) (v := .int .i64 j_7) (hd_v rfl fun ρ hρ => ⟨rfl, opv_move rfl rfl ((hρ 7 (lmem rfl)).trans h7)⟩) rfl rfl
      (ffc (d := 37) (v := .int .i64 (IntKind.i64.wrap (j_7 - 1))) (hd_v rfl fun ρ hρ => ⟨rfl, opv_sub rfl rfl rfl ((hρ 36 (lmem rfl)).trans rfl) rfl⟩) rfl rfl
      (ffc (d := 38) (v := data_0) (hd_v rfl fun ρ hρ => ⟨rfl, opv_move rfl rfl ((hρ 0 (lmem rfl)).trans h0)⟩) rfl rfl
      (ffc (d := 39) (v := .int .i64 j_7) (hd_v rfl fun ρ hρ => ⟨rfl, opv_move rfl rfl ((hρ 7 (lmem rfl)).trans h7)⟩) rfl rfl
      (ffc (d := 40) (v := .int .i64 (IntKind.i64.wrap (j_7 - 1))) (hd_v rfl fun ρ hρ => ⟨rfl, opv_sub rfl rfl rfl ((hρ 39 (lmem rfl)).trans rfl) rfl⟩) rfl rfl
      (ffc (d := 41) (v := p2) (hd_v rfl fun ρ hρ => ⟨rfl, ov_ixS rfl rfl rfl underlying28 sz24 ((hρ 38 (lmem rfl)).trans rfl) ((hρ 40 (lmem rfl)).trans rfl) hp7 h08 hj9 hv10⟩) rfl rfl
      (ffc (d := 42) (v := .int .u64 x14) (hd_v rfl fun ρ hρ => ⟨rfl, ov_ldI rfl underlying24 rfl ((hρ 41 (lmem rfl)).trans rfl) hp13 hg15⟩) rfl rfl
      (ffc (d := 43) (v := data_0) (hd_v rfl fun ρ hρ => ⟨rfl, opv_move rfl rfl ((hρ 0 (lmem rfl)).trans h0)⟩) rfl rfl
      (ffc (d := 44) (v := .int .i64 j_7) (hd_v rfl fun ρ hρ => ⟨rfl, opv_move rfl rfl ((hρ 7 (lmem rfl)).trans h7)⟩) rfl rfl
      (ffc (d := 45) (v := p16) (hd_v rfl fun ρ hρ => ⟨rfl, ov_ixS rfl rfl rfl underlying28 sz24 ((hρ 43 (lmem rfl)).trans rfl) ((hρ 44 (lmem rfl)).trans rfl) hp21 h022 hj23 hv24⟩) rfl rfl
      (ffc (d := 46) (v := .int .u64 x28) (hd_v rfl fun ρ hρ => ⟨rfl, ov_ldI rfl underlying24 rfl ((hρ 45 (lmem rfl)).trans rfl) hp27 hg29⟩) rfl rfl
      (ffc (d := 47) (v := p30) (hd_v rfl fun ρ hρ => ⟨rfl, ov_ixS rfl rfl rfl underlying28 sz24 ((hρ 33 (lmem rfl)).trans rfl) ((hρ 34 (lmem rfl)).trans rfl) hp35 h036 hj37 hv38⟩) rfl rfl
      ffn))))))))))))))) ?_
    obtain ⟨b40, i41, aw39, hp42, hw43, ho44, ha45, H⟩ := H
    refine lt_val (dt := none) (v := undef) rfl rfl (fun ρ hρ => ⟨rfl, ov_st rfl rfl rfl ((hρ 47 (lmem rfl)).trans rfl) ((hρ 42 (lmem rfl)).trans rfl) rfl sz24 hp42 hw43 ho44 ha45⟩) ?_
    obtain ⟨b47, i48, l49, c50, p46, hp51, h052, hj53, hv54, H⟩ := H
    refine lt_next (l := [2, 3, 4, 16]) (hv := [(16, p46)]) rfl rfl (pv_cons rfl (pv_nil _))
      (ffc (d := 35) (v := data_0) (hd_v rfl fun ρ hρ => ⟨rfl, opv_move rfl rfl ((hρ 0 (lmem rfl)).trans h0)⟩) rfl rfl
      (ffc (d := 36) (v := .int .i64 j_7) (hd_v rfl fun ρ hρ => ⟨rfl, opv_move rfl rfl ((hρ 7 (lmem rfl)).trans h7)⟩) rfl rfl
      (ffc (d := 37) (v := .int .i64 (IntKind.i64.wrap (j_7 - 1))) (hd_v rfl fun ρ hρ => ⟨rfl, opv_sub rfl rfl rfl ((hρ 36 (lmem rfl)).trans rfl) rfl⟩) rfl rfl
      (ffc (d := 48) (v := p46) (hd_v rfl fun ρ hρ => ⟨rfl, ov_ixS rfl rfl rfl underlying28 sz24 ((hρ 35 (lmem rfl)).trans rfl) ((hρ 37 (lmem rfl)).trans rfl) hp51 h052 hj53 hv54⟩) rfl rfl
      ffn)))) ?_
    obtain ⟨b56, i57, aw55, hp58, hw59, ho60, ha61, H⟩ := H
    refine lt_val (dt := none) (v := undef) rfl rfl (fun ρ hρ => ⟨rfl, ov_st rfl rfl rfl ((hρ 48 (lmem rfl)).trans rfl) ((hρ 46 (lmem rfl)).trans rfl) rfl sz24 hp58 hw59 ho60 ha61⟩) ?_
    refine lt_next (l := []) (hv := []) rfl rfl (pv_nil _)
      ffn ?_
    refine lt_end ?_
    refine ago_inBlock ?_
    refine ago_cut (fun ρ => ρ 0 = data_0 ∧ ρ 1 = .int .i64 a_1 ∧ ρ 2 = .int .i64 b_2 ∧ ρ 6 = .int .i64 i_6 ∧ ρ 7 = .int .i64 j_7 ∧ True) ⟨h0, h1, h2, h6, h7, trivial⟩ (fun ρ ⟨h0, h1, h2, h6, h7, _⟩ => ?_)
    refine ago_regE E80_25 (l := [0, 1, 2]) rfl ?_
    refine lk (dt := some 31) R80_5_N rfl rfl rfl (opv_move rfl rfl h7) ?_
    refine lk (dt := some 32) R80_5_N rfl rfl rfl (opv_sub rfl rfl rfl rfl rfl) ?_
    refine lk (dt := some 7) R80_5_N rfl rfl rfl (opv_assign rfl rfl rfl) ?_
    refine aops_nil ?_
    refine ago_inLoop ?_
    exact L2 _ data_0 a_1 b_2 i_6 (IntKind.i64.wrap (j_7 - 1)) aw55 h0 h1 h2 h6 rfl H
  replace H := cnd_f H hb1
  refine ago_exitE E80_21 rfl ?_
  refine ago_inBlock ?_
  refine ago_regE E80_26 (l := [0, 1, 2]) rfl ?_
  refine lk (dt := some 13) R80_2_N rfl rfl rfl (opv_move rfl rfl h6) ?_
  refine lk (dt := some 14) R80_2_N rfl rfl rfl (opv_add rfl rfl rfl rfl rfl) ?_
  refine lk (dt := some 6) R80_2_N rfl rfl rfl (opv_assign rfl rfl rfl) ?_
  refine aops_nil ?_
  refine ago_inLoop ?_
  exact L1 _ data_0 a_1 b_2 (IntKind.i64.wrap (i_6 + 1)) aw h0 h1 h2 rfl H
theorem S80_2s_ok (Q : Unit → AW → Prop) (E : List PanicEntry → AW → Prop) (nx1 : Value → Int → Int → Int → AW → Prop) (L1 : ∀ (ρ : Env) (data_0 : Value) (a_1 : Int) (b_2 : Int) (i_6 : Int) (aw : AW) (h0 : ρ 0 = data_0) (h1 : ρ 1 = .int .i64 a_1) (h2 : ρ 2 = .int .i64 b_2) (h6 : ρ 6 = .int .i64 i_6), nx1 data_0 a_1 b_2 i_6 aw → AGo prog 49 [.code C80_4, .inLoop C80_4, .inBlock 0] ρ [] aw (RR prog f80 49 sh80 Q E)) (nx2 : Value → Int → Int → Int → Int → AW → Prop) (L2 : ∀ (ρ : Env) (data_0 : Value) (a_1 : Int) (b_2 : Int) (i_6 : Int) (j_7 : Int) (aw : AW) (h0 : ρ 0 = data_0) (h1 : ρ 1 = .int .i64 a_1) (h2 : ρ 2 = .int .i64 b_2) (h6 : ρ 6 = .int .i64 i_6) (h7 : ρ 7 = .int .i64 j_7), nx2 data_0 a_1 b_2 i_6 j_7 aw → AGo prog 49 [.code C80_16, .inLoop C80_16, .inBlock 2, .inBlock 1, .code C80_26, .inLoop C80_4, .inBlock 0] ρ [] aw (RR prog f80 49 sh80 Q E)) (ρ : Env) (data_0 : Value) (a_1 : Int) (b_2 : Int) (i_6 : Int) (j_7 : Int) (aw : AW) (h0 : ρ 0 = data_0) (h1 : ρ 1 = .int .i64 a_1) (h2 : ρ 2 = .int .i64 b_2) (h6 : ρ 6 = .int .i64 i_6) (h7 : ρ 7 = .int .i64 j_7) (H : S80_2s Q E nx1 nx2 data_0 a_1 b_2 i_6 j_7 aw) :
    AGo prog 49 [.code C80_16, .inLoop C80_16, .inBlock 2, .inBlock 1, .code C80_26, .inLoop C80_4, .inBlock 0] ρ [] aw (RR prog f80 49 sh80 Q E) := by
  unfold S80_2s at H
  refine ago_seqE E80_16 ?_
  refine ago_seqE E80_17 ?_
  rcases Bool.eq_false_or_eq_true (decide (a_1 < j_7)) with hb62 | hb62
  · replace H := cnd_t H hb62
    obtain ⟨b64, i65, l66, c67, p63, hp68, h069, hj70, hv71, H⟩ := H
    obtain ⟨b72, i73, x75, hp74, hg76, H⟩ := H
    obtain ⟨b78, i79, l80, c81, p77, hp82, h083, hj84, hv85, H⟩ := H
    obtain ⟨b86, i87, x89, hp88, hg90, H⟩ := H
    refine ago_drawH (p := [0, 1, 2, 3, 4, 5, 6, 7, 8, 9, 10, 11, 12]) (tl := [(13, [], [14])]) (hv := [(0, Value.int .i64 j_7), (1, Value.int .i64 a_1), (2, Value.bool (decide (a_1 < j_7))), (3, Value.bool (decide (a_1 < j_7))), (4, data_0), (5, Value.int .i64 j_7), (6, p63), (7, Value.int .u64 x75), (8, data_0), (9, Value.int .i64 j_7), (10, Value.int .i64 (IntKind.i64.wrap (j_7 - 1))), (11, p77), (12, Value.int .u64 x89)]) E80_18 mixed R80_4_N R80_4_O rfl (pv_cons rfl (pv_cons rfl (pv_cons rfl (pv_cons rfl (pv_cons rfl (pv_cons rfl (pv_cons rfl (pv_cons rfl (pv_cons rfl (pv_cons rfl (pv_cons rfl (pv_cons rfl (pv_cons rfl (pv_nil _))))))))))))))
      (ffc (d := 16) (v := .int .i64 j_7) (hd_v rfl fun ρ hρ => ⟨rfl, opv_move rfl rfl ((hρ 7 (lmem rfl)).trans h7)⟩) rfl rfl
      (ffc (d := 17) (v := .int .i64 a_1) (hd_v rfl fun ρ hρ => ⟨rfl, opv_move rfl rfl ((hρ 1 (lmem rfl)).trans h1)⟩) rfl rfl
      (ffc (d := 18) (v := .bool (decide (a_1 < j_7))) (hd_v rfl fun ρ hρ => ⟨rfl, opv_gt rfl rfl rfl ((hρ 16 (lmem rfl)).trans rfl) ((hρ 17 (lmem rfl)).trans rfl)⟩) rfl rfl
      (ffc (d := 19) (v := .bool (decide (a_1 < j_7))) (hd_v rfl fun ρ hρ => ⟨rfl, opv_move rfl rfl ((hρ 18 (lmem rfl)).trans rfl)⟩) rfl rfl
      (ffc (d := 20) (v := data_0) (hd_v rfl fun ρ hρ => ⟨⟨_, rfl, .inl ⟨_, ((hρ 19 (lmem rfl)).trans rfl), gq hb62 rfl⟩⟩, opv_move rfl rfl ((hρ 0 (lmem rfl)).trans h0)⟩) rfl rfl
      (ffc (d := 21) (v := .int .i64 j_7) (hd_v rfl fun ρ hρ => ⟨⟨_, rfl, .inl ⟨_, ((hρ 19 (lmem rfl)).trans rfl), gq hb62 rfl⟩⟩, opv_move rfl rfl ((hρ 7 (lmem rfl)).trans h7)⟩) rfl rfl
      (ffc (d := 22) (v := p63) (hd_v rfl fun ρ hρ => ⟨⟨_, rfl, .inl ⟨_, ((hρ 19 (lmem rfl)).trans rfl), gq hb62 rfl⟩⟩, ov_ixS rfl rfl rfl underlying28 sz24 ((hρ 20 (lmem rfl)).trans rfl) ((hρ 21 (lmem rfl)).trans rfl) hp68 h069 hj70 hv71⟩) rfl rfl
      (ffc (d := 23) (v := .int .u64 x75) (hd_v rfl fun ρ hρ => ⟨⟨_, rfl, .inl ⟨_, ((hρ 19 (lmem rfl)).trans rfl), gq hb62 rfl⟩⟩, ov_ldI rfl underlying24 rfl ((hρ 22 (lmem rfl)).trans rfl) hp74 hg76⟩) rfl rfl
      (ffc (d := 24) (v := data_0) (hd_v rfl fun ρ hρ => ⟨⟨_, rfl, .inl ⟨_, ((hρ 19 (lmem rfl)).trans rfl), gq hb62 rfl⟩⟩, opv_move rfl rfl ((hρ 0 (lmem rfl)).trans h0)⟩) rfl rfl
      (ffc (d := 25) (v := .int .i64 j_7) (hd_v rfl fun ρ hρ => ⟨⟨_, rfl, .inl ⟨_, ((hρ 19 (lmem rfl)).trans rfl), gq hb62 rfl⟩⟩, opv_move rfl rfl ((hρ 7 (lmem rfl)).trans h7)⟩) rfl rfl
      (ffc (d := 26) (v := .int .i64 (IntKind.i64.wrap (j_7 - 1))) (hd_v rfl fun ρ hρ => ⟨⟨_, rfl, .inl ⟨_, ((hρ 19 (lmem rfl)).trans rfl), gq hb62 rfl⟩⟩, opv_sub rfl rfl rfl ((hρ 25 (lmem rfl)).trans rfl) rfl⟩) rfl rfl
      (ffc (d := 27) (v := p77) (hd_v rfl fun ρ hρ => ⟨⟨_, rfl, .inl ⟨_, ((hρ 19 (lmem rfl)).trans rfl), gq hb62 rfl⟩⟩, ov_ixS rfl rfl rfl underlying28 sz24 ((hρ 24 (lmem rfl)).trans rfl) ((hρ 26 (lmem rfl)).trans rfl) hp82 h083 hj84 hv85⟩) rfl rfl
      (ffc (d := 28) (v := .int .u64 x89) (hd_v rfl fun ρ hρ => ⟨⟨_, rfl, .inl ⟨_, ((hρ 19 (lmem rfl)).trans rfl), gq hb62 rfl⟩⟩, ov_ldI rfl underlying24 rfl ((hρ 27 (lmem rfl)).trans rfl) hp88 hg90⟩) rfl rfl
      ffn))))))))))))) ?_
    refine lt_call (dt := some 29) rfl rfl (fun ρ hρ => ⟨⟨_, rfl, .inl ⟨_, ((hρ 19 (lmem rfl)).trans rfl), gq hb62 rfl⟩⟩, opc_of rfl rfl is86 (ma_cons ((hρ 23 (lmem rfl)).trans rfl) (ma_cons ((hρ 28 (lmem rfl)).trans rfl) rfl))⟩) H (fun _ _ h _ => ⟨rfl, h⟩) fun r91 aw92 H => ?_
    refine lt_next (l := [14]) (hv := [(14, Value.bool r91)]) rfl rfl (pv_cons rfl (pv_nil _))
      (ffc (d := 30) (v := .bool r91) (hd_v rfl fun ρ hρ => ⟨rfl, ov_pickT rfl rfl rfl rfl ((hρ 19 (lmem rfl)).trans rfl) hb62 ((hρ 29 (lmem rfl)).trans rfl)⟩) rfl rfl
      ffn) ?_
    refine lt_end ?_
    exact S80_3_ok Q E nx1 L1 nx2 L2 _ data_0 a_1 b_2 i_6 j_7 r91 aw92 h0 h1 h2 h6 h7 rfl H
  · replace H := cnd_f H hb62
    refine ago_drawH (p := [0, 1, 2, 3, 4, 5, 6, 7, 8, 9, 10, 11, 12]) (tl := [(13, [], [14])]) (hv := [(0, Value.int .i64 j_7), (1, Value.int .i64 a_1), (2, Value.bool (decide (a_1 < j_7))), (3, Value.bool (decide (a_1 < j_7))), (4, undef), (5, undef), (6, undef), (7, undef), (8, undef), (9, undef), (10, undef), (11, undef), (12, undef)]) E80_18 mixed R80_4_N R80_4_O rfl (pv_cons rfl (pv_cons rfl (pv_cons rfl (pv_cons rfl (pv_cons rfl (pv_cons rfl (pv_cons rfl (pv_cons rfl (pv_cons rfl (pv_cons rfl (pv_cons rfl (pv_cons rfl (pv_cons rfl (pv_nil _))))))))))))))
      (ffc (d := 16) (v := .int .i64 j_7) (hd_v rfl fun ρ hρ => ⟨rfl, opv_move rfl rfl ((hρ 7 (lmem rfl)).trans h7)⟩) rfl rfl
      (ffc (d := 17) (v := .int .i64 a_1) (hd_v rfl fun ρ hρ => ⟨rfl, opv_move rfl rfl ((hρ 1 (lmem rfl)).trans h1)⟩) rfl rfl
      (ffc (d := 18) (v := .bool (decide (a_1 < j_7))) (hd_v rfl fun ρ hρ => ⟨rfl, opv_gt rfl rfl rfl ((hρ 16 (lmem rfl)).trans rfl) ((hρ 17 (lmem rfl)).trans rfl)⟩) rfl rfl
      (ffc (d := 19) (v := .bool (decide (a_1 < j_7))) (hd_v rfl fun ρ hρ => ⟨rfl, opv_move rfl rfl ((hρ 18 (lmem rfl)).trans rfl)⟩) rfl rfl
      (ffc (d := 20) (v := undef) (hd_s rfl (fun ρ hρ => ⟨_, rfl, .inl ⟨_, ((hρ 19 (lmem rfl)).trans rfl), gq hb62 rfl⟩⟩) rfl) rfl rfl
      (ffc (d := 21) (v := undef) (hd_s rfl (fun ρ hρ => ⟨_, rfl, .inl ⟨_, ((hρ 19 (lmem rfl)).trans rfl), gq hb62 rfl⟩⟩) rfl) rfl rfl
      (ffc (d := 22) (v := undef) (hd_s rfl (fun ρ hρ => ⟨_, rfl, .inl ⟨_, ((hρ 19 (lmem rfl)).trans rfl), gq hb62 rfl⟩⟩) rfl) rfl rfl
      (ffc (d := 23) (v := undef) (hd_s rfl (fun ρ hρ => ⟨_, rfl, .inl ⟨_, ((hρ 19 (lmem rfl)).trans rfl), gq hb62 rfl⟩⟩) rfl) rfl rfl
      (ffc (d := 24) (v := undef) (hd_s rfl (fun ρ hρ => ⟨_, rfl, .inl ⟨_, ((hρ 19 (lmem rfl)).trans rfl), gq hb62 rfl⟩⟩) rfl) rfl rfl
      (ffc (d := 25) (v := undef) (hd_s rfl (fun ρ hρ => ⟨_, rfl, .inl ⟨_, ((hρ 19 (lmem rfl)).trans rfl), gq hb62 rfl⟩⟩) rfl) rfl rfl
      (ffc (d := 26) (v := undef) (hd_s rfl (fun ρ hρ => ⟨_, rfl, .inl ⟨_, ((hρ 19 (lmem rfl)).trans rfl), gq hb62 rfl⟩⟩) rfl) rfl rfl
      (ffc (d := 27) (v := undef) (hd_s rfl (fun ρ hρ => ⟨_, rfl, .inl ⟨_, ((hρ 19 (lmem rfl)).trans rfl), gq hb62 rfl⟩⟩) rfl) rfl rfl
      (ffc (d := 28) (v := undef) (hd_s rfl (fun ρ hρ => ⟨_, rfl, .inl ⟨_, ((hρ 19 (lmem rfl)).trans rfl), gq hb62 rfl⟩⟩) rfl) rfl rfl
      ffn))))))))))))) ?_
    refine lt_skip (dt := some 29) rfl rfl (fun ρ hρ => ⟨_, rfl, .inl ⟨_, ((hρ 19 (lmem rfl)).trans rfl), gq hb62 rfl⟩⟩) ?_
    refine lt_next (l := [14]) (hv := [(14, Value.bool false)]) rfl rfl (pv_cons rfl (pv_nil _))
      (ffc (d := 30) (v := .bool false) (hd_v rfl fun ρ hρ => ⟨rfl, ov_pickF rfl rfl rfl rfl ((hρ 19 (lmem rfl)).trans rfl) hb62 rfl⟩) rfl rfl
      ffn) ?_
    refine lt_end ?_
    exact S80_3_ok Q E nx1 L1 nx2 L2 _ data_0 a_1 b_2 i_6 j_7 false aw h0 h1 h2 h6 h7 rfl H
theorem S80_2_ok (Q : Unit → AW → Prop) (E : List PanicEntry → AW → Prop) (nx1 : Value → Int → Int → Int → AW → Prop) (L1 : ∀ (ρ : Env) (data_0 : Value) (a_1 : Int) (b_2 : Int) (i_6 : Int) (aw : AW) (h0 : ρ 0 = data_0) (h1 : ρ 1 = .int .i64 a_1) (h2 : ρ 2 = .int .i64 b_2) (h6 : ρ 6 = .int .i64 i_6), nx1 data_0 a_1 b_2 i_6 aw → AGo prog 49 [.code C80_4, .inLoop C80_4, .inBlock 0] ρ [] aw (RR prog f80 49 sh80 Q E)) : ∀ (n : Nat) (ρ : Env) (data_0 : Value) (a_1 : Int) (b_2 : Int) (i_6 : Int) (j_7 : Int) (aw : AW) (h0 : ρ 0 = data_0) (h1 : ρ 1 = .int .i64 a_1) (h2 : ρ 2 = .int .i64 b_2) (h6 : ρ 6 = .int .i64 i_6) (h7 : ρ 7 = .int .i64 j_7), S80_2 Q E nx1 n data_0 a_1 b_2 i_6 j_7 aw →
    AGo prog 49 [.code C80_16, .inLoop C80_16, .inBlock 2, .inBlock 1, .code C80_26, .inLoop C80_4, .inBlock 0] ρ [] aw (RR prog f80 49 sh80 Q E)
  | 0, _, _, _, _, _, _, _, _, _, _, _, _ => fun H => H.elim
  | n + 1, ρ, data_0, a_1, b_2, i_6, j_7, aw, h0, h1, h2, h6, h7 => fun H => S80_2s_ok Q E nx1 L1 _ (S80_2_ok Q E nx1 L1 n) ρ data_0 a_1 b_2 i_6 j_7 aw h0 h1 h2 h6 h7 H
theorem S80_1s_ok (Q : Unit → AW → Prop) (E : List PanicEntry → AW → Prop)  (nx1 : Value → Int → Int → Int → AW → Prop) (L1 : ∀ (ρ : Env) (data_0 : Value) (a_1 : Int) (b_2 : Int) (i_6 : Int) (aw : AW) (h0 : ρ 0 = data_0) (h1 : ρ 1 = .int .i64 a_1) (h2 : ρ 2 = .int .i64 b_2) (h6 : ρ 6 = .int .i64 i_6), nx1 data_0 a_1 b_2 i_6 aw → AGo prog 49 [.code C80_4, .inLoop C80_4, .inBlock 0] ρ [] aw (RR prog f80 49 sh80 Q E)) (ρ : Env) (data_0 : Value) (a_1 : Int) (b_2 : Int) (i_6 : Int) (aw : AW) (h0 : ρ 0 = data_0) (h1 : ρ 1 = .int .i64 a_1) (h2 : ρ 2 = .int .i64 b_2) (h6 : ρ 6 = .int .i64 i_6) (H : S80_1s Q E  nx1 data_0 a_1 b_2 i_6 aw) :
    AGo prog 49 [.code C80_4, .inLoop C80_4, .inBlock 0] ρ [] aw (RR prog f80 49 sh80 Q E) := by
  unfold S80_1s at H
  refine ago_seqE E80_4 ?_
  refine ago_seqE E80_5 ?_
  refine ago_regE E80_6 (l := [0, 1, 2]) rfl ?_
  refine lk (dt := some 10) R80_1_N rfl rfl rfl (opv_move rfl rfl h6) ?_
  refine lk (dt := some 11) R80_1_N rfl rfl rfl (opv_move rfl rfl h2) ?_
  refine lk (dt := some 12) R80_1_N rfl rfl rfl (opv_lt rfl rfl rfl rfl rfl) ?_
  refine aops_nil ?_
  refine ago_condE  E80_7 rfl rfl (fun hb93 => ?_) (fun hb93 => ?_)
  · replace H := cnd_t H hb93
    refine ago_skipE E80_8 ?_
    refine ago_seqE E80_10 ?_
    refine ago_blockE E80_11 ?_
    refine ago_seqE E80_12 ?_
    refine ago_regE E80_13 (l := [0, 1]) rfl ?_
    refine lk (dt := some 15) R80_3_N rfl rfl rfl (opv_move rfl rfl h6) ?_
    refine lk (dt := some 7) R80_3_N rfl rfl rfl (opv_assign rfl rfl rfl) ?_
    refine aops_nil ?_
    refine ago_blockE E80_14 ?_
    refine ago_loopE E80_15 ?_
    obtain ⟨n, H⟩ := H
    exact S80_2_ok Q E nx1 L1 n _ data_0 a_1 b_2 i_6 i_6 aw h0 h1 h2 h6 rfl H
  replace H := cnd_f H hb93
  refine ago_exitE E80_9 rfl ?_
  exact ago_nilR (r := ()) (ares_0 rfl ) rfl H
theorem S80_1_ok (Q : Unit → AW → Prop) (E : List PanicEntry → AW → Prop)  : ∀ (n : Nat) (ρ : Env) (data_0 : Value) (a_1 : Int) (b_2 : Int) (i_6 : Int) (aw : AW) (h0 : ρ 0 = data_0) (h1 : ρ 1 = .int .i64 a_1) (h2 : ρ 2 = .int .i64 b_2) (h6 : ρ 6 = .int .i64 i_6), S80_1 Q E  n data_0 a_1 b_2 i_6 aw →
    AGo prog 49 [.code C80_4, .inLoop C80_4, .inBlock 0] ρ [] aw (RR prog f80 49 sh80 Q E)
  | 0, _, _, _, _, _, _, _, _, _, _ => fun H => H.elim
  | n + 1, ρ, data_0, a_1, b_2, i_6, aw, h0, h1, h2, h6 => fun H => S80_1s_ok Q E  _ (S80_1_ok Q E  n) ρ data_0 a_1 b_2 i_6 aw h0 h1 h2 h6 H
theorem S80_0_ok (Q : Unit → AW → Prop) (E : List PanicEntry → AW → Prop)  (ρ : Env) (data_0 : Value) (a_1 : Int) (b_2 : Int) (aw : AW) (h0 : ρ 0 = data_0) (h1 : ρ 1 = .int .i64 a_1) (h2 : ρ 2 = .int .i64 b_2) (H : S80_0 Q E  data_0 a_1 b_2 aw) :
    AGo prog 49 [.code C80_0] ρ [] aw (RR prog f80 49 sh80 Q E) := by
  unfold S80_0 at H
  refine ago_seqE E80_0 ?_
  refine ago_regE E80_1 (l := [0, 1, 2]) rfl ?_
  refine lk (dt := some 8) R80_0_N rfl rfl rfl (opv_move rfl rfl h1) ?_
  refine lk (dt := some 9) R80_0_N rfl rfl rfl (opv_add rfl rfl rfl rfl rfl) ?_
  refine lk (dt := some 6) R80_0_N rfl rfl rfl (opv_assign rfl rfl rfl) ?_
  refine aops_nil ?_
  refine ago_blockE E80_2 ?_
  refine ago_loopE E80_3 ?_
  obtain ⟨n, H⟩ := H
  exact S80_1_ok Q E  n _ data_0 a_1 b_2 (IntKind.i64.wrap (a_1 + 1)) aw h0 h1 h2 rfl H
theorem F80_ok {Q : Unit → AW → Prop} {E : List PanicEntry → AW → Prop} (data_0 : Value) (a_1 : Int) (b_2 : Int) (aw : AW) (H : S80_0 Q E data_0 a_1 b_2 aw) : CallP prog 80 [data_0, .int .i64 a_1, .int .i64 b_2] aw sh80 Q E :=
  callP_of func80 C80_is rfl (Nat.le_of_ble_eq_true rfl) (S80_0_ok Q E _ data_0 a_1 b_2 aw rfl rfl rfl H)
def C86_0 : Code := bodyOf f86
theorem C86_is : f86.body = some C86_0 := by kernel_rfl
def C86_1 : Code := cl C86_0
def R86_0 : Array Oper := regOps C86_1
def C86_2 : Code := cr C86_0
def C86_3 : Code := cl C86_2
def R86_1 : Array Oper := regOps C86_3
def C86_4 : Code := cr C86_2
theorem R86_0_N : dstsOk 17 R86_0 = true := by decide +kernel
theorem E86_1 : C86_1 = .region 0 R86_0 false := rfl
theorem R86_1_N : dstsOk 17 R86_1 = true := by decide +kernel
theorem E86_3 : C86_3 = .region 1 R86_1 false := rfl
theorem E86_4 : C86_4 = .ret := rfl
theorem E86_2 : C86_2 = .seq C86_3 C86_4 := rfl
theorem E86_0 : C86_0 = .seq C86_1 C86_2 := rfl
def S86_0 (Q : Bool → AW → Prop) (E : List PanicEntry → AW → Prop)  (x_0 : Int) (y_1 : Int) (aw : AW) : Prop :=
  CallP prog 96 [.int .u64 x_0] aw sh96 (fun r1 aw2 =>
  cnd r1 (CallP prog 96 [.int .u64 y_1] aw2 sh96 (fun r4 aw5 =>
  cnd (!r4) (Q true aw5) (Q (decide (x_0 < y_1)) aw5)) E) (Q (decide (x_0 < y_1)) aw2)) E
theorem S86_0_ok (Q : Bool → AW → Prop) (E : List PanicEntry → AW → Prop)  (ρ : Env) (x_0 : Int) (y_1 : Int) (aw : AW) (h0 : ρ 0 = .int .u64 x_0) (h1 : ρ 1 = .int .u64 y_1) (H : S86_0 Q E  x_0 y_1 aw) :
    AGo prog 17 [.code C86_0] ρ [] aw (RR prog f86 17 sh86 Q E) := by
  unfold S86_0 at H
  refine ago_seqE E86_0 ?_
  refine ago_regE E86_1 (l := [0]) rfl ?_
  refine lk (dt := some 4) R86_0_N rfl rfl rfl (opv_assign rfl rfl rfl) ?_
  refine aops_nil ?_
  refine ago_seqE E86_2 ?_
  refine ago_regE E86_3 (l := [0, 1, 2, 3, 4, 5, 6, 7, 8, 9, 10, 11, 12]) rfl ?_
  refine lk (dt := some 5) R86_1_N rfl rfl rfl (opv_move rfl rfl h0) ?_
  refine lk_call (dt := some 6) R86_1_N rfl rfl rfl (opc_of rfl rfl is96 (ma_cons rfl rfl)) H (fun _ _ h => ⟨rfl, h⟩) fun r1 aw2 H => ?_
  refine lk (dt := some 7) R86_1_N rfl rfl rfl (opv_move rfl rfl rfl) ?_
  rcases Bool.eq_false_or_eq_true r1 with hb3 | hb3
  · replace H := cnd_t H hb3
    refine lk (dt := some 8) R86_1_N rfl rfl ⟨_, rfl, .inl ⟨_, rfl, gq hb3 rfl⟩⟩ (opv_move rfl rfl h1) ?_
    refine lk_call (dt := some 9) R86_1_N rfl rfl ⟨_, rfl, .inl ⟨_, rfl, gq hb3 rfl⟩⟩ (opc_of rfl rfl is96 (ma_cons rfl rfl)) H (fun _ _ h => ⟨rfl, h⟩) fun r4 aw5 H => ?_
    refine lk (dt := some 10) R86_1_N rfl rfl ⟨_, rfl, .inl ⟨_, rfl, gq hb3 rfl⟩⟩ (opv_not rfl rfl rfl) ?_
    refine lk (dt := some 11) R86_1_N rfl rfl rfl (ov_pickT rfl rfl rfl rfl rfl hb3 rfl) ?_
    refine lk (dt := some 12) R86_1_N rfl rfl rfl (opv_move rfl rfl rfl) ?_
    rcases Bool.eq_false_or_eq_true (!r4) with hb6 | hb6
    · replace H := cnd_t H hb6
      refine lk_skip (dt := some 13) R86_1_N rfl rfl ⟨_, rfl, .inl ⟨_, rfl, gq hb6 rfl⟩⟩ ?_
      refine lk_skip (dt := some 14) R86_1_N rfl rfl ⟨_, rfl, .inl ⟨_, rfl, gq hb6 rfl⟩⟩ ?_
      refine lk_skip (dt := some 15) R86_1_N rfl rfl ⟨_, rfl, .inl ⟨_, rfl, gq hb6 rfl⟩⟩ ?_
      refine lk (dt := some 16) R86_1_N rfl rfl rfl (ov_pickT rfl rfl rfl rfl rfl hb6 rfl) ?_
      refine lk (dt := some 4) R86_1_N rfl rfl rfl (opv_assign rfl rfl rfl) ?_
      refine aops_nil ?_
      exact ago_retE E86_4 (r := true) (ares_1 rfl (oneT rfl)) rfl H
    · replace H := cnd_f H hb6
      refine lk (dt := some 13) R86_1_N rfl rfl ⟨_, rfl, .inl ⟨_, rfl, gq hb6 rfl⟩⟩ (opv_move rfl rfl h0) ?_
      refine lk (dt := some 14) R86_1_N rfl rfl ⟨_, rfl, .inl ⟨_, rfl, gq hb6 rfl⟩⟩ (opv_move rfl rfl h1) ?_
      refine lk (dt := some 15) R86_1_N rfl rfl ⟨_, rfl, .inl ⟨_, rfl, gq hb6 rfl⟩⟩ (opv_lt rfl rfl rfl rfl rfl) ?_
      refine lk (dt := some 16) R86_1_N rfl rfl rfl (ov_pickF rfl rfl rfl rfl rfl hb6 rfl) ?_
      refine lk (dt := some 4) R86_1_N rfl rfl rfl (opv_assign rfl rfl rfl) ?_
      refine aops_nil ?_
      exact ago_retE E86_4 (r := (decide (x_0 < y_1))) (ares_1 rfl (oneT rfl)) rfl H
  · replace H := cnd_f H hb3
    refine lk_skip (dt := some 8) R86_1_N rfl rfl ⟨_, rfl, .inl ⟨_, rfl, gq hb3 rfl⟩⟩ ?_
    refine lk_skip (dt := some 9) R86_1_N rfl rfl ⟨_, rfl, .inl ⟨_, rfl, gq hb3 rfl⟩⟩ ?_
    refine lk_skip (dt := some 10) R86_1_N rfl rfl ⟨_, rfl, .inl ⟨_, rfl, gq hb3 rfl⟩⟩ ?_
    refine lk (dt := some 11) R86_1_N rfl rfl rfl (ov_pickF rfl rfl rfl rfl rfl hb3 rfl) ?_
    refine lk (dt := some 12) R86_1_N rfl rfl rfl (opv_move rfl rfl rfl) ?_
    refine lk (dt := some 13) R86_1_N rfl rfl ⟨_, rfl, .inl ⟨_, rfl, gq rfl rfl⟩⟩ (opv_move rfl rfl h0) ?_
    refine lk (dt := some 14) R86_1_N rfl rfl ⟨_, rfl, .inl ⟨_, rfl, gq rfl rfl⟩⟩ (opv_move rfl rfl h1) ?_
    refine lk (dt := some 15) R86_1_N rfl rfl ⟨_, rfl, .inl ⟨_, rfl, gq rfl rfl⟩⟩ (opv_lt rfl rfl rfl rfl rfl) ?_
    refine lk (dt := some 16) R86_1_N rfl rfl rfl (ov_pickF rfl rfl rfl rfl rfl rfl rfl) ?_
    refine lk (dt := some 4) R86_1_N rfl rfl rfl (opv_assign rfl rfl rfl) ?_
    refine aops_nil ?_
    exact ago_retE E86_4 (r := (decide (x_0 < y_1))) (ares_1 rfl (oneT rfl)) rfl H
theorem F86_ok {Q : Bool → AW → Prop} {E : List PanicEntry → AW → Prop} (x_0 : Int) (y_1 : Int) (aw : AW) (H : S86_0 Q E x_0 y_1 aw) : CallP prog 86 [.int .u64 x_0, .int .u64 y_1] aw sh86 Q E :=
  callP_of func86 C86_is rfl (Nat.le_of_ble_eq_true rfl) (S86_0_ok Q E _ x_0 y_1 aw rfl rfl H)
def C96_0 : Code := bodyOf f96
theorem C96_is : f96.body = some C96_0 := by kernel_rfl
def C96_1 : Code := cl C96_0
def R96_0 : Array Oper := regOps C96_1
def C96_2 : Code := cr C96_0
def C96_3 : Code := cl C96_2
def R96_1 : Array Oper := regOps C96_3
def C96_4 : Code := cr C96_2
theorem R96_0_N : dstsOk 6 R96_0 = true := by decide +kernel
theorem E96_1 : C96_1 = .region 0 R96_0 false := rfl
theorem R96_1_N : dstsOk 6 R96_1 = true := by decide +kernel
theorem E96_3 : C96_3 = .region 1 R96_1 false := rfl
theorem E96_4 : C96_4 = .ret := rfl
theorem E96_2 : C96_2 = .seq C96_3 C96_4 := rfl
theorem E96_0 : C96_0 = .seq C96_1 C96_2 := rfl
def S96_0 (Q : Bool → AW → Prop) (E : List PanicEntry → AW → Prop)  (x_0 : Int) (aw : AW) : Prop :=
  Q (!decide (x_0 = x_0)) aw
theorem S96_0_ok (Q : Bool → AW → Prop) (E : List PanicEntry → AW → Prop)  (ρ : Env) (x_0 : Int) (aw : AW) (h0 : ρ 0 = .int .u64 x_0) (H : S96_0 Q E  x_0 aw) :
    AGo prog 6 [.code C96_0] ρ [] aw (RR prog f96 6 sh96 Q E) := by
  unfold S96_0 at H
  refine ago_seqE E96_0 ?_
  refine ago_regE E96_1 (l := [0]) rfl ?_
  refine lk (dt := some 2) R96_0_N rfl rfl rfl (opv_assign rfl rfl rfl) ?_
  refine aops_nil ?_
  refine ago_seqE E96_2 ?_
  refine ago_regE E96_3 (l := [0, 1, 2, 3]) rfl ?_
  refine lk (dt := some 3) R96_1_N rfl rfl rfl (opv_move rfl rfl h0) ?_
  refine lk (dt := some 4) R96_1_N rfl rfl rfl (opv_move rfl rfl h0) ?_
  refine lk (dt := some 5) R96_1_N rfl rfl rfl (opv_neI rfl rfl rfl rfl rfl) ?_
  refine lk (dt := some 2) R96_1_N rfl rfl rfl (opv_assign rfl rfl rfl) ?_
  refine aops_nil ?_
  exact ago_retE E96_4 (r := (!decide (x_0 = x_0))) (ares_1 rfl (oneT rfl)) rfl H
theorem F96_ok {Q : Bool → AW → Prop} {E : List PanicEntry → AW → Prop} (x_0 : Int) (aw : AW) (H : S96_0 Q E x_0 aw) : CallP prog 96 [.int .u64 x_0] aw sh96 Q E :=
  callP_of func96 C96_is rfl (Nat.le_of_ble_eq_true rfl) (S96_0_ok Q E _ x_0 aw rfl H)
def C90_0 : Code := bodyOf f90
theorem C90_is : f90.body = some C90_0 := by kernel_rfl
def C90_1 : Code := cl C90_0
def R90_0 : Array Oper := regOps C90_1
def C90_2 : Code := cr C90_0
def C90_3 : Code := cl C90_2
def C90_4 : Code := cl C90_3
def R90_1 : Array Oper := regOps C90_4
def C90_5 : Code := cr C90_3
def C90_6 : Code := cl C90_5
def C90_7 : Code := cl C90_6
def R90_2 : Array Oper := regOps C90_7
def C90_8 : Code := cr C90_6
def R90_3 : Array Oper := regOps C90_8
def C90_9 : Code := cr C90_5
def C90_10 : Code := cr C90_2
def C90_11 : Code := cl C90_10
def C90_12 : Code := cl C90_11
def R90_4 : Array Oper := regOps C90_12
def C90_13 : Code := cr C90_11
def C90_14 : Code := cl C90_13
def C90_15 : Code := cl C90_14
def R90_5 : Array Oper := regOps C90_15
def C90_16 : Code := cr C90_14
def R90_6 : Array Oper := regOps C90_16
def C90_17 : Code := cr C90_13
def C90_18 : Code := cr C90_10
def C90_19 : Code := cl C90_18
def C90_20 : Code := cl C90_19
def R90_7 : Array Oper := regOps C90_20
def C90_21 : Code := cr C90_19
def C90_22 : Code := cl C90_21
def C90_23 : Code := cl C90_22
def R90_8 : Array Oper := regOps C90_23
def C90_24 : Code := cr C90_22
def R90_9 : Array Oper := regOps C90_24
def C90_25 : Code := cr C90_21
def C90_26 : Code := cr C90_18
def C90_27 : Code := cl C90_26
def R90_10 : Array Oper := regOps C90_27
def C90_28 : Code := cr C90_26
theorem R90_0_N : dstsOk 25 R90_0 = true := by decide +kernel
theorem E90_1 : C90_1 = .region 0 R90_0 false := rfl
theorem R90_1_N : dstsOk 25 R90_1 = true := by decide +kernel
theorem E90_4 : C90_4 = .region 1 R90_1 false := rfl
theorem R90_2_N : dstsOk 25 R90_2 = true := by decide +kernel
theorem E90_7 : C90_7 = .region 2 R90_2 false := rfl
theorem R90_3_N : dstsOk 25 R90_3 = true := by decide +kernel
theorem E90_8 : C90_8 = .region 3 R90_3 false := rfl
theorem E90_6 : C90_6 = .seq C90_7 C90_8 := rfl
theorem E90_9 : C90_9 = .skip := rfl
theorem E90_5 : C90_5 = .cond (.tmp 4) C90_6 C90_9 := rfl
theorem E90_3 : C90_3 = .seq C90_4 C90_5 := rfl
theorem R90_4_N : dstsOk 25 R90_4 = true := by decide +kernel
theorem E90_12 : C90_12 = .region 4 R90_4 false := rfl
theorem R90_5_N : dstsOk 25 R90_5 = true := by decide +kernel
theorem E90_15 : C90_15 = .region 5 R90_5 false := rfl
theorem R90_6_N : dstsOk 25 R90_6 = true := by decide +kernel
theorem E90_16 : C90_16 = .region 6 R90_6 false := rfl
theorem E90_14 : C90_14 = .seq C90_15 C90_16 := rfl
theorem E90_17 : C90_17 = .skip := rfl
theorem E90_13 : C90_13 = .cond (.tmp 8) C90_14 C90_17 := rfl
theorem E90_11 : C90_11 = .seq C90_12 C90_13 := rfl
theorem R90_7_N : dstsOk 25 R90_7 = true := by decide +kernel
theorem E90_20 : C90_20 = .region 7 R90_7 false := rfl
theorem R90_8_N : dstsOk 25 R90_8 = true := by decide +kernel
theorem E90_23 : C90_23 = .region 8 R90_8 false := rfl
theorem R90_9_N : dstsOk 25 R90_9 = true := by decide +kernel
theorem E90_24 : C90_24 = .region 9 R90_9 false := rfl
theorem E90_22 : C90_22 = .seq C90_23 C90_24 := rfl
theorem E90_25 : C90_25 = .skip := rfl
theorem E90_21 : C90_21 = .cond (.tmp 14) C90_22 C90_25 := rfl
theorem E90_19 : C90_19 = .seq C90_20 C90_21 := rfl
theorem R90_10_N : dstsOk 25 R90_10 = true := by decide +kernel
theorem E90_27 : C90_27 = .region 10 R90_10 false := rfl
theorem E90_28 : C90_28 = .ret := rfl
theorem E90_26 : C90_26 = .seq C90_27 C90_28 := rfl
theorem E90_18 : C90_18 = .seq C90_19 C90_26 := rfl
theorem E90_10 : C90_10 = .seq C90_11 C90_18 := rfl
theorem E90_2 : C90_2 = .seq C90_3 C90_10 := rfl
theorem E90_0 : C90_0 = .seq C90_1 C90_2 := rfl
def S90_3 (Q : Int → AW → Prop) (E : List PanicEntry → AW → Prop)  (x_0 : Int) (n_2 : Int) (aw : AW) : Prop :=
  chr (⟨#[0, 1, 2, 2, 3, 3, 3, 3, 4, 4, 4, 4, 4, 4, 4, 4, 5, 5, 5, 5, 5, 5, 5, 5, 5, 5, 5, 5, 5, 5, 5, 5, 6, 6, 6, 6, 6, 6, 6, 6, 6, 6, 6, 6, 6, 6, 6, 6, 6, 6, 6, 6, 6, 6, 6, 6, 6, 6, 6, 6, 6, 6, 6, 6, 7, 7, 7, 7, 7, 7, 7, 7, 7, 7, 7, 7, 7, 7, 7, 7, 7, 7, 7, 7, 7, 7, 7, 7, 7, 7, 7, 7, 7, 7, 7, 7, 7, 7, 7, 7, 7, 7, 7, 7, 7, 7, 7, 7, 7, 7, 7, 7, 7, 7, 7, 7, 7, 7, 7, 7, 7, 7, 7, 7, 7, 7, 7, 7, 8, 8, 8, 8, 8, 8, 8, 8, 8, 8, 8, 8, 8, 8, 8, 8, 8, 8, 8, 8, 8, 8, 8, 8, 8, 8, 8, 8, 8, 8, 8, 8, 8, 8, 8, 8, 8, 8, 8, 8, 8, 8, 8, 8, 8, 8, 8, 8, 8, 8, 8, 8, 8, 8, 8, 8, 8, 8, 8, 8, 8, 8, 8, 8, 8, 8, 8, 8, 8, 8, 8, 8, 8, 8, 8, 8, 8, 8, 8, 8, 8, 8, 8, 8, 8, 8, 8, 8, 8, 8, 8, 8, 8, 8, 8, 8, 8, 8, 8, 8, 8, 8, 8, 8, 8, 8, 8, 8, 8, 8, 8, 8, 8, 8, 8, 8, 8, 8, 8, 8, 8, 8, 8, 8, 8, 8, 8, 8]⟩ : ByteArray) (IntKind.u8.wrap x_0) fun c1 =>
  Q (IntKind.i64.wrap (n_2 + (IntKind.i64.wrap c1))) aw
def S90_2 (Q : Int → AW → Prop) (E : List PanicEntry → AW → Prop)  (x_0 : Int) (n_2 : Int) (aw : AW) : Prop :=
  cnd (decide (256 ≤ x_0)) (S90_3 Q E  (Int.fdiv x_0 (2 ^ (min (8 : Int).toNat IntKind.u64.bits))) (IntKind.i64.wrap (n_2 + 8)) aw) (S90_3 Q E  x_0 n_2 aw)
def S90_1 (Q : Int → AW → Prop) (E : List PanicEntry → AW → Prop)  (x_0 : Int) (n_2 : Int) (aw : AW) : Prop :=
  cnd (decide (65536 ≤ x_0)) (S90_2 Q E  (Int.fdiv x_0 (2 ^ (min (16 : Int).toNat IntKind.u64.bits))) (IntKind.i64.wrap (n_2 + 16)) aw) (S90_2 Q E  x_0 n_2 aw)
def S90_0 (Q : Int → AW → Prop) (E : List PanicEntry → AW → Prop)  (x_0 : Int) (aw : AW) : Prop :=
  cnd (decide (4294967296 ≤ x_0)) (S90_1 Q E  (Int.fdiv x_0 (2 ^ (min (32 : Int).toNat IntKind.u64.bits))) 32 aw) (S90_1 Q E  x_0 0 aw)
theorem S90_3_ok (Q : Int → AW → Prop) (E : List PanicEntry → AW → Prop)  (ρ : Env) (x_0 : Int) (n_2 : Int) (aw : AW) (h0 : ρ 0 = .int .u64 x_0) (h2 : ρ 2 = .int .i64 n_2) (H : S90_3 Q E  x_0 n_2 aw) :
    AGo prog 25 [.code C90_26] ρ [] aw (RR prog f90 25 sh90 Q E) := by
  unfold S90_3 at H
  refine ago_seqE E90_26 ?_
  refine ago_regE E90_27 (l := [0, 1, 2, 3, 4, 5, 6]) rfl ?_
  refine lk (dt := some 19) R90_10_N rfl rfl rfl (opv_move rfl rfl h2) ?_
  refine lk (dt := some 20) R90_10_N rfl rfl rfl (opv_move rfl rfl h0) ?_
  refine lk (dt := some 21) R90_10_N rfl rfl rfl (opv_conv rfl rfl underlying24 underlying5 rfl) ?_
  obtain ⟨c1, h02, hj3, hv4, H⟩ := H
  refine lk (dt := some 22) R90_10_N rfl rfl rfl (ov_chr rfl rfl rfl underlying9 rfl rfl h02 hj3 hv4) ?_
  refine lk (dt := some 23) R90_10_N rfl rfl rfl (opv_conv rfl rfl underlying5 underlying3 rfl) ?_
  refine lk (dt := some 24) R90_10_N rfl rfl rfl (opv_add rfl rfl rfl rfl rfl) ?_
  refine lk (dt := some 2) R90_10_N rfl rfl rfl (opv_assign rfl rfl rfl) ?_
  refine aops_nil ?_
  exact ago_retE E90_28 (r := (IntKind.i64.wrap (n_2 + (IntKind.i64.wrap c1)))) (ares_1 rfl (oneT rfl)) rfl H
theorem S90_2_ok (Q : Int → AW → Prop) (E : List PanicEntry → AW → Prop)  (ρ : Env) (x_0 : Int) (n_2 : Int) (aw : AW) (h0 : ρ 0 = .int .u64 x_0) (h2 : ρ 2 = .int .i64 n_2) (H : S90_2 Q E  x_0 n_2 aw) :
    AGo prog 25 [.code C90_18] ρ [] aw (RR prog f90 25 sh90 Q E) := by
  unfold S90_2 at H
  refine ago_seqE E90_18 ?_
  refine ago_seqE E90_19 ?_
  refine ago_regE E90_20 (l := [0, 1]) rfl ?_
  refine lk (dt := some 13) R90_7_N rfl rfl rfl (opv_move rfl rfl h0) ?_
  refine lk (dt := some 14) R90_7_N rfl rfl rfl (opv_ge rfl rfl rfl rfl rfl) ?_
  refine aops_nil ?_
  refine ago_condE  E90_21 rfl rfl (fun hb5 => ?_) (fun hb5 => ?_)
  · replace H := cnd_t H hb5
    refine ago_seqE E90_22 ?_
    refine ago_regE E90_23 (l := [0, 1, 2]) rfl ?_
    refine lk (dt := some 15) R90_8_N rfl rfl rfl (opv_move rfl rfl h0) ?_
    refine lk (dt := some 16) R90_8_N rfl rfl rfl (opv_shr rfl rfl rfl rfl rfl (by decide)) ?_
    refine lk (dt := some 0) R90_8_N rfl rfl rfl (opv_assign rfl rfl rfl) ?_
    refine aops_nil ?_
    refine ago_regE E90_24 (l := [0, 1, 2]) rfl ?_
    refine lk (dt := some 17) R90_9_N rfl rfl rfl (opv_move rfl rfl h2) ?_
    refine lk (dt := some 18) R90_9_N rfl rfl rfl (opv_add rfl rfl rfl rfl rfl) ?_
    refine lk (dt := some 2) R90_9_N rfl rfl rfl (opv_assign rfl rfl rfl) ?_
    refine aops_nil ?_
    exact S90_3_ok Q E  _ (Int.fdiv x_0 (2 ^ (min (8 : Int).toNat IntKind.u64.bits))) (IntKind.i64.wrap (n_2 + 8)) aw rfl rfl H
  replace H := cnd_f H hb5
  refine ago_skipE E90_25 ?_
  exact S90_3_ok Q E  _ x_0 n_2 aw h0 h2 H
theorem S90_1_ok (Q : Int → AW → Prop) (E : List PanicEntry → AW → Prop)  (ρ : Env) (x_0 : Int) (n_2 : Int) (aw : AW) (h0 : ρ 0 = .int .u64 x_0) (h2 : ρ 2 = .int .i64 n_2) (H : S90_1 Q E  x_0 n_2 aw) :
    AGo prog 25 [.code C90_10] ρ [] aw (RR prog f90 25 sh90 Q E) := by
  unfold S90_1 at H
  refine ago_seqE E90_10 ?_
  refine ago_seqE E90_11 ?_
  refine ago_regE E90_12 (l := [0, 1]) rfl ?_
  refine lk (dt := some 7) R90_4_N rfl rfl rfl (opv_move rfl rfl h0) ?_
  refine lk (dt := some 8) R90_4_N rfl rfl rfl (opv_ge rfl rfl rfl rfl rfl) ?_
  refine aops_nil ?_
  refine ago_condE  E90_13 rfl rfl (fun hb6 => ?_) (fun hb6 => ?_)
  · replace H := cnd_t H hb6
    refine ago_seqE E90_14 ?_
    refine ago_regE E90_15 (l := [0, 1, 2]) rfl ?_
    refine lk (dt := some 9) R90_5_N rfl rfl rfl (opv_move rfl rfl h0) ?_
    refine lk (dt := some 10) R90_5_N rfl rfl rfl (opv_shr rfl rfl rfl rfl rfl (by decide)) ?_
    refine lk (dt := some 0) R90_5_N rfl rfl rfl (opv_assign rfl rfl rfl) ?_
    refine aops_nil ?_
    refine ago_regE E90_16 (l := [0, 1, 2]) rfl ?_
    refine lk (dt := some 11) R90_6_N rfl rfl rfl (opv_move rfl rfl h2) ?_
    refine lk (dt := some 12) R90_6_N rfl rfl rfl (opv_add rfl rfl rfl rfl rfl) ?_
    refine lk (dt := some 2) R90_6_N rfl rfl rfl (opv_assign rfl rfl rfl) ?_
    refine aops_nil ?_
    exact S90_2_ok Q E  _ (Int.fdiv x_0 (2 ^ (min (16 : Int).toNat IntKind.u64.bits))) (IntKind.i64.wrap (n_2 + 16)) aw rfl rfl H
  replace H := cnd_f H hb6
  refine ago_skipE E90_17 ?_
  exact S90_2_ok Q E  _ x_0 n_2 aw h0 h2 H
theorem S90_0_ok (Q : Int → AW → Prop) (E : List PanicEntry → AW → Prop)  (ρ : Env) (x_0 : Int) (aw : AW) (h0 : ρ 0 = .int .u64 x_0) (H : S90_0 Q E  x_0 aw) :
    AGo prog 25 [.code C90_0] ρ [] aw (RR prog f90 25 sh90 Q E) := by
  unfold S90_0 at H
  refine ago_seqE E90_0 ?_
  refine ago_regE E90_1 (l := [0]) rfl ?_
  refine lk (dt := some 2) R90_0_N rfl rfl rfl (opv_assign rfl rfl rfl) ?_
  refine aops_nil ?_
  refine ago_seqE E90_2 ?_
  refine ago_seqE E90_3 ?_
  refine ago_regE E90_4 (l := [0, 1]) rfl ?_
  refine lk (dt := some 3) R90_1_N rfl rfl rfl (opv_move rfl rfl h0) ?_
  refine lk (dt := some 4) R90_1_N rfl rfl rfl (opv_ge rfl rfl rfl rfl rfl) ?_
  refine aops_nil ?_
  refine ago_condE  E90_5 rfl rfl (fun hb7 => ?_) (fun hb7 => ?_)
  · replace H := cnd_t H hb7
    refine ago_seqE E90_6 ?_
    refine ago_regE E90_7 (l := [0, 1, 2]) rfl ?_
    refine lk (dt := some 5) R90_2_N rfl rfl rfl (opv_move rfl rfl h0) ?_
    refine lk (dt := some 6) R90_2_N rfl rfl rfl (opv_shr rfl rfl rfl rfl rfl (by decide)) ?_
    refine lk (dt := some 0) R90_2_N rfl rfl rfl (opv_assign rfl rfl rfl) ?_
    refine aops_nil ?_
    refine ago_regE E90_8 (l := [0]) rfl ?_
    refine lk (dt := some 2) R90_3_N rfl rfl rfl (opv_assign rfl rfl rfl) ?_
    refine aops_nil ?_
    exact S90_1_ok Q E  _ (Int.fdiv x_0 (2 ^ (min (32 : Int).toNat IntKind.u64.bits))) 32 aw rfl rfl H
  replace H := cnd_f H hb7
  refine ago_skipE E90_9 ?_
  exact S90_1_ok Q E  _ x_0 0 aw h0 rfl H
theorem F90_ok {Q : Int → AW → Prop} {E : List PanicEntry → AW → Prop} (x_0 : Int) (aw : AW) (H : S90_0 Q E x_0 aw) : CallP prog 90 [.int .u64 x_0] aw sh90 Q E :=
  callP_of func90 C90_is rfl (Nat.le_of_ble_eq_true rfl) (S90_0_ok Q E _ x_0 aw rfl H)
end
end Go.Proofs.Try
