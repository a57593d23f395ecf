/- Printed by a program of the prover: what the Go functions of this seat do, in steps. -/
import Derived.Test.YtfoceofohlpafaaDoorMaF
set_option linter.unusedSectionVars false
set_option linter.unusedSimpArgs false
set_option linter.unusedVariables false
namespace Go.Proofs.Tryd
open Go Go.Am Go.RowKit
set_option maxHeartbeats 4000000
set_option maxRecDepth 100000
noncomputable section
variable [SymE]
def C4_0 : Code := bodyOf f4
theorem C4_is : f4.body = some C4_0 := by kernel_rfl
def C4_1 : Code := cl C4_0
def R4_0 : Array Oper := regOps C4_1
def C4_2 : Code := cr C4_0
def C4_3 : Code := cl C4_2
def C4_4 : Code := cl C4_3
def R4_1 : Array Oper := regOps C4_4
def C4_5 : Code := cr C4_3
def C4_6 : Code := cl C4_5
def C4_7 : Code := cl C4_6
def R4_2 : Array Oper := regOps C4_7
def C4_8 : Code := cr C4_6
def C4_9 : Code := cr C4_5
def C4_10 : Code := cr C4_2
def C4_11 : Code := cl C4_10
def R4_3 : Array Oper := regOps C4_11
def C4_12 : Code := cr C4_10
def C4_13 : Code := cl C4_12
def R4_4 : Array Oper := regOps C4_13
def C4_14 : Code := cr C4_12
def C4_15 : Code := cl C4_14
def R4_5 : Array Oper := regOps C4_15
def C4_16 : Code := cr C4_14
def C4_17 : Code := cl C4_16
def R4_6 : Array Oper := regOps C4_17
def C4_18 : Code := cr C4_16
def C4_19 : Code := cl C4_18
def R4_7 : Array Oper := regOps C4_19
def C4_20 : Code := cr C4_18
def C4_21 : Code := cl C4_20
def C4_22 : Code := cl C4_21
def R4_8 : Array Oper := regOps C4_22
def C4_23 : Code := cr C4_21
def C4_24 : Code := cl C4_23
def C4_25 : Code := cl C4_24
def R4_9 : Array Oper := regOps C4_25
def C4_26 : Code := cr C4_24
def C4_27 : Code := cr C4_23
def C4_28 : Code := cr C4_20
def C4_29 : Code := cl C4_28
def R4_10 : Array Oper := regOps C4_29
def C4_30 : Code := cr C4_28
def C4_31 : Code := cl C4_30
def C4_32 : Code := cl C4_31
def R4_11 : Array Oper := regOps C4_32
def C4_33 : Code := cr C4_31
def C4_34 : Code := cl C4_33
def C4_35 : Code := cl C4_34
def R4_12 : Array Oper := regOps C4_35
def C4_36 : Code := cr C4_34
def C4_37 : Code := cr C4_33
def C4_38 : Code := cr C4_30
def C4_39 : Code := cl C4_38
def R4_13 : Array Oper := regOps C4_39
def C4_40 : Code := cr C4_38
theorem R4_0_N : dstsOk 91 R4_0 = true := by decide +kernel
theorem E4_1 : C4_1 = .region 0 R4_0 false := rfl
theorem R4_1_N : dstsOk 91 R4_1 = true := by decide +kernel
theorem E4_4 : C4_4 = .region 1 R4_1 false := rfl
theorem R4_2_N : dstsOk 91 R4_2 = true := by decide +kernel
theorem E4_7 : C4_7 = .region 2 R4_2 false := rfl
theorem E4_8 : C4_8 = .ret := rfl
theorem E4_6 : C4_6 = .seq C4_7 C4_8 := rfl
theorem E4_9 : C4_9 = .skip := rfl
theorem E4_5 : C4_5 = .cond (.tmp 13) C4_6 C4_9 := rfl
theorem E4_3 : C4_3 = .seq C4_4 C4_5 := rfl
theorem R4_3_N : dstsOk 91 R4_3 = true := by decide +kernel
theorem E4_11 : C4_11 = .region 3 R4_3 false := rfl
theorem R4_4_N : dstsOk 91 R4_4 = true := by decide +kernel
theorem E4_13 : C4_13 = .region 4 R4_4 false := rfl
theorem R4_5_N : dstsOk 91 R4_5 = true := by decide +kernel
theorem E4_15 : C4_15 = .region 5 R4_5 false := rfl
theorem R4_6_N : dstsOk 91 R4_6 = true := by decide +kernel
theorem E4_17 : C4_17 = .region 6 R4_6 false := rfl
theorem R4_7_N : dstsOk 91 R4_7 = true := by decide +kernel
theorem E4_19 : C4_19 = .region 7 R4_7 false := rfl
theorem R4_8_N : dstsOk 91 R4_8 = true := by decide +kernel
theorem E4_22 : C4_22 = .region 8 R4_8 false := rfl
theorem R4_9_N : dstsOk 91 R4_9 = true := by decide +kernel
theorem E4_25 : C4_25 = .region 9 R4_9 false := rfl
theorem E4_26 : C4_26 = .ret := rfl
theorem E4_24 : C4_24 = .seq C4_25 C4_26 := rfl
theorem E4_27 : C4_27 = .skip := rfl
theorem E4_23 : C4_23 = .cond (.tmp 52) C4_24 C4_27 := rfl
theorem E4_21 : C4_21 = .seq C4_22 C4_23 := rfl
theorem R4_10_N : dstsOk 91 R4_10 = true := by decide +kernel
theorem E4_29 : C4_29 = .region 10 R4_10 false := rfl
theorem R4_11_N : dstsOk 91 R4_11 = true := by decide +kernel
theorem E4_32 : C4_32 = .region 11 R4_11 false := rfl
theorem R4_12_N : dstsOk 91 R4_12 = true := by decide +kernel
theorem E4_35 : C4_35 = .region 12 R4_12 false := rfl
theorem E4_36 : C4_36 = .ret := rfl
theorem E4_34 : C4_34 = .seq C4_35 C4_36 := rfl
theorem E4_37 : C4_37 = .skip := rfl
theorem E4_33 : C4_33 = .cond (.tmp 59) C4_34 C4_37 := rfl
theorem E4_31 : C4_31 = .seq C4_32 C4_33 := rfl
theorem R4_13_N : dstsOk 91 R4_13 = true := by decide +kernel
theorem R4_13_O : linOk R4_13 [0, 1, 2, 3, 4, 5] [(6, [4, 5], [7, 8, 9, 10, 11, 12, 13, 14, 15, 16, 17, 18])] = true := by decide +kernel
theorem E4_39 : C4_39 = .region 13 R4_13 true := rfl
theorem E4_40 : C4_40 = .ret := rfl
theorem E4_38 : C4_38 = .seq C4_39 C4_40 := rfl
theorem E4_30 : C4_30 = .seq C4_31 C4_38 := rfl
theorem E4_28 : C4_28 = .seq C4_29 C4_30 := rfl
theorem E4_20 : C4_20 = .seq C4_21 C4_28 := rfl
theorem E4_18 : C4_18 = .seq C4_19 C4_20 := rfl
theorem E4_16 : C4_16 = .seq C4_17 C4_18 := rfl
theorem E4_14 : C4_14 = .seq C4_15 C4_16 := rfl
theorem E4_12 : C4_12 = .seq C4_13 C4_14 := rfl
theorem E4_10 : C4_10 = .seq C4_11 C4_12 := rfl
theorem E4_2 : C4_2 = .seq C4_3 C4_10 := rfl
theorem E4_0 : C4_0 = .seq C4_1 C4_2 := rfl
def S4_1 (Q : Bool → AW → Prop) (E : List PanicEntry → AW → Prop)  (k_5 : Int) (f_6 : Int) (m_7 : Value) (t_52 : Bool) (aw : AW) : Prop :=
  cnd t_52 (Q false aw) (CallP prog 17 [m_7, .int .i64 1, .int .i64 f_6, .int .i64 0, .int .i64 0] aw sh17 (fun r2 aw3 =>
  alc aw3 [.int .i64 0, .int .u64 0, .string (⟨#[]⟩ : ByteArray), .string (⟨#[]⟩ : ByteArray), (.slice none 0 0), .int .i64 0] 29 0 fun p4 aw5 =>
  st aw5 p4 [.int .i64 r2.1, .int .u64 r2.2.1, .string r2.2.2.1, .string r2.2.2.2.1, r2.2.2.2.2.1, .int .i64 r2.2.2.2.2.2] fun aw8 =>
  cnd (decide (f_6 < (IntKind.i64.wrap (k_5 + 1)))) (fldA p4 0 fun p16 =>
  ldI .i64 aw8 p16 fun x24 =>
  cnd (decide (x24 = 10)) (fldA p4 5 fun p27 =>
  ldI .i64 aw8 p27 fun x35 =>
  cnd (decide (x35 = 0)) (fldA p4 1 fun p38 =>
  ldI .u64 aw8 p38 fun x46 =>
  Q (decide (x46 = 0)) aw8) (Q false aw8)) (Q false aw8)) (fldA p4 0 fun p48 =>
  ldI .i64 aw8 p48 fun x56 =>
  cnd (decide (x56 = 0)) (fldA p4 1 fun p59 =>
  ldI .u64 aw8 p59 fun x67 =>
  CallP prog 14 [.int .i64 7] aw8 sh14 (fun r69 aw70 =>
  again1 aw70 p59 (.int .u64 x67) ∧ cnd (decide (x67 = r69)) (fldA p4 5 fun p72 =>
  ldI .i64 aw70 p72 fun x80 =>
  Q (decide (x80 = (IntKind.i64.wrap ((IntKind.i64.wrap (f_6 - k_5)) - 1)))) aw70) (Q false aw70)) E) (Q false aw8))) E)
def S4_0 (Q : Bool → AW → Prop) (E : List PanicEntry → AW → Prop)  (n_0 : Int) (fuel_1 : Int) (aw : AW) : Prop :=
  CallP prog 11 [] aw sh11 (fun r82 aw83 =>
  cnd (!r82) (Q false aw83) (CallP prog 15 [.int .i64 2000, .int .i64 0] aw83 sh15 (fun r85 aw86 =>
  alcS aw86 [.int .u8 2, .int .i64 0, .int .i64 0, .string (⟨#[]⟩ : ByteArray), .int .u8 13, .int .i64 8, .int .i64 0, .string (⟨#[]⟩ : ByteArray), .int .u8 4, .int .i64 0, .int .i64 0, .string (⟨#[]⟩ : ByteArray), .int .u8 2, .int .i64 0, .int .i64 0, .string (⟨#[]⟩ : ByteArray), .int .u8 0, .int .i64 1, .int .i64 0, .string (⟨#[]⟩ : ByteArray), .int .u8 20, .int .i64 1, .int .i64 0, .string (⟨#[]⟩ : ByteArray), .int .u8 7, .int .i64 0, .int .i64 0, .string (⟨#[]⟩ : ByteArray), .int .u8 8, .int .i64 0, .int .i64 0, .string (⟨#[]⟩ : ByteArray), .int .u8 0, .int .i64 7, .int .i64 0, .string (⟨#[]⟩ : ByteArray), .int .u8 8, .int .i64 0, .int .i64 0, .string (⟨#[]⟩ : ByteArray)] 34 4 10 fun p87 aw88 =>
  alcS aw88 [.int .u8 6, .int .i64 0, .int .i64 0, .string (⟨#[]⟩ : ByteArray), .int .u8 0, .int .i64 (Int.tmod (IntKind.i64.wrap n_0) 1500), .int .i64 0, .string (⟨#[]⟩ : ByteArray), .int .u8 7, .int .i64 0, .int .i64 0, .string (⟨#[]⟩ : ByteArray), .int .u8 8, .int .i64 0, .int .i64 0, .string (⟨#[]⟩ : ByteArray)] 34 4 4 fun p91 aw92 =>
  cnd (!decide (r85.2 = 0)) (S4_1 Q E  (Int.tmod (IntKind.i64.wrap n_0) 1500) (Int.tmod (IntKind.i64.wrap fuel_1) 2000) r85.1 true aw92) (one p87 = true ∧ one p91 = true ∧ alcS aw92 [.int .i64 0, p87, .int .i64 0, p91] 43 2 2 fun p98 aw99 =>
  CallP prog 16 [r85.1, p98] aw99 sh16 (fun r102 aw103 =>
  S4_1 Q E  (Int.tmod (IntKind.i64.wrap n_0) 1500) (Int.tmod (IntKind.i64.wrap fuel_1) 2000) r85.1 (!decide (r102 = 0)) aw103) E)) E)) E
theorem S4_1_ok (Q : Bool → AW → Prop) (E : List PanicEntry → AW → Prop)  (ρ : Env) (k_5 : Int) (f_6 : Int) (m_7 : Value) (t_52 : Bool) (aw : AW) (h5 : ρ 5 = .int .i64 k_5) (h6 : ρ 6 = .int .i64 f_6) (h7 : ρ 7 = m_7) (h52 : ρ 52 = .bool t_52) (H : S4_1 Q E  k_5 f_6 m_7 t_52 aw) :
    AGo prog 91 [.code C4_23, .code C4_28] ρ [] aw (RR prog f4 91 sh4 Q E) := by
  unfold S4_1 at H
  refine ago_condE  E4_23 rfl h52 (fun hb1 => ?_) (fun hb1 => ?_)
  · replace H := cnd_t H hb1
    refine ago_seqE E4_24 ?_
    refine ago_regE E4_25 (l := [0]) rfl ?_
    refine lk (dt := some 4) R4_9_N rfl rfl rfl (opv_assign rfl rfl rfl) ?_
    refine aops_nil ?_
    exact ago_retE E4_26 (r := false) (ares_1 rfl (oneT rfl)) rfl H
  · replace H := cnd_f H hb1
    refine ago_skipE E4_27 ?_
    refine ago_seqE E4_28 ?_
    refine ago_regE E4_29 (l := [0, 1, 2, 3, 4]) rfl ?_
    refine lk (dt := some 53) R4_10_N rfl rfl rfl (opv_move rfl rfl h7) ?_
    refine lk (dt := some 54) R4_10_N rfl rfl rfl (opv_move rfl rfl h6) ?_
    refine lk_call (dt := some 55) R4_10_N rfl rfl rfl (opc_of rfl rfl is17 (ma_cons rfl (ma_cons rfl (ma_cons rfl (ma_cons rfl (ma_cons rfl rfl)))))) H (fun _ _ h => ⟨rfl, h⟩) fun r2 aw3 H => ?_
    obtain ⟨p4, aw5, hp6, ha7, H⟩ := H
    refine lk (dt := some 11) R4_10_N rfl rfl rfl (ov_alloc rfl z29 rfl rfl hp6 ha7) ?_
    obtain ⟨b9, i10, aw8, hp11, hw12, ho13, ha14, H⟩ := H
    refine lk (dt := none) R4_10_N rfl rfl rfl (ov_st rfl rfl rfl rfl rfl rfl sz29 hp11 hw12 ho13 ha14) ?_
    refine aops_nil ?_
    refine ago_seqE E4_30 ?_
    refine ago_seqE E4_31 ?_
    refine ago_regE E4_32 (l := [0, 1, 2, 3]) rfl ?_
    refine lk (dt := some 56) R4_11_N rfl rfl rfl (opv_move rfl rfl h6) ?_
    refine lk (dt := some 57) R4_11_N rfl rfl rfl (opv_move rfl rfl h5) ?_
    refine lk (dt := some 58) R4_11_N rfl rfl rfl (opv_add rfl rfl rfl rfl rfl) ?_
    refine lk (dt := some 59) R4_11_N rfl rfl rfl (opv_lt rfl rfl rfl rfl rfl) ?_
    refine aops_nil ?_
    refine ago_condE  E4_33 rfl rfl (fun hb15 => ?_) (fun hb15 => ?_)
    · replace H := cnd_t H hb15
      refine ago_seqE E4_34 ?_
      refine ago_regE E4_35 (l := [0, 1, 2, 3, 4, 5, 6, 7, 8, 9, 10, 11, 12, 13]) rfl ?_
      obtain ⟨b17, i18, p16, hp19, hv20, H⟩ := H
      refine lk (dt := some 60) R4_12_N rfl rfl rfl (ov_fldA rfl rfl underlying29 rfl sz24 (by decide) rfl hp19 rfl hv20) ?_
      obtain ⟨b21, i22, x24, hp23, hg25, H⟩ := H
      refine lk (dt := some 61) R4_12_N rfl rfl rfl (ov_ldI rfl underlying24 rfl rfl hp23 hg25) ?_
      refine lk (dt := some 62) R4_12_N rfl rfl rfl (opv_eqI rfl rfl rfl rfl rfl) ?_
      refine lk (dt := some 63) R4_12_N rfl rfl rfl (opv_move rfl rfl rfl) ?_
      rcases Bool.eq_false_or_eq_true (decide (x24 = 10)) with hb26 | hb26
      · replace H := cnd_t H hb26
        obtain ⟨b28, i29, p27, hp30, hv31, H⟩ := H
        refine lk (dt := some 64) R4_12_N rfl rfl ⟨_, rfl, .inl ⟨_, rfl, gq hb26 rfl⟩⟩ (ov_fldA rfl rfl underlying29 rfl sz3 (by decide) rfl hp30 rfl hv31) ?_
        obtain ⟨b32, i33, x35, hp34, hg36, H⟩ := H
        refine lk (dt := some 65) R4_12_N rfl rfl ⟨_, rfl, .inl ⟨_, rfl, gq hb26 rfl⟩⟩ (ov_ldI rfl underlying3 rfl rfl hp34 hg36) ?_
        refine lk (dt := some 66) R4_12_N rfl rfl ⟨_, rfl, .inl ⟨_, rfl, gq hb26 rfl⟩⟩ (opv_eqI rfl rfl rfl rfl rfl) ?_
        refine lk (dt := some 67) R4_12_N rfl rfl rfl (ov_pickT rfl rfl rfl rfl rfl hb26 rfl) ?_
        refine lk (dt := some 68) R4_12_N rfl rfl rfl (opv_move rfl rfl rfl) ?_
        rcases Bool.eq_false_or_eq_true (decide (x35 = 0)) with hb37 | hb37
        · replace H := cnd_t H hb37
          obtain ⟨b39, i40, p38, hp41, hv42, H⟩ := H
          refine lk (dt := some 69) R4_12_N rfl rfl ⟨_, rfl, .inl ⟨_, rfl, gq hb37 rfl⟩⟩ (ov_fldA rfl rfl underlying29 rfl sz26 (by decide) rfl hp41 rfl hv42) ?_
          obtain ⟨b43, i44, x46, hp45, hg47, H⟩ := H
          refine lk (dt := some 70) R4_12_N rfl rfl ⟨_, rfl, .inl ⟨_, rfl, gq hb37 rfl⟩⟩ (ov_ldI rfl underlying26 rfl rfl hp45 hg47) ?_
          refine lk (dt := some 71) R4_12_N rfl rfl ⟨_, rfl, .inl ⟨_, rfl, gq hb37 rfl⟩⟩ (opv_eqI rfl rfl rfl rfl rfl) ?_
          refine lk (dt := some 72) R4_12_N rfl rfl rfl (ov_pickT rfl rfl rfl rfl rfl hb37 rfl) ?_
          refine lk (dt := some 4) R4_12_N rfl rfl rfl (opv_assign rfl rfl rfl) ?_
          refine aops_nil ?_
          exact ago_retE E4_36 (r := (decide (x46 = 0))) (ares_1 rfl (oneT rfl)) rfl H
        · replace H := cnd_f H hb37
          refine lk_skip (dt := some 69) R4_12_N rfl rfl ⟨_, rfl, .inl ⟨_, rfl, gq hb37 rfl⟩⟩ ?_
          refine lk_skip (dt := some 70) R4_12_N rfl rfl ⟨_, rfl, .inl ⟨_, rfl, gq hb37 rfl⟩⟩ ?_
          refine lk_skip (dt := some 71) R4_12_N rfl rfl ⟨_, rfl, .inl ⟨_, rfl, gq hb37 rfl⟩⟩ ?_
          refine lk (dt := some 72) R4_12_N rfl rfl rfl (ov_pickF rfl rfl rfl rfl rfl hb37 rfl) ?_
          refine lk (dt := some 4) R4_12_N rfl rfl rfl (opv_assign rfl rfl rfl) ?_
          refine aops_nil ?_
          exact ago_retE E4_36 (r := false) (ares_1 rfl (oneT rfl)) rfl H
      · replace H := cnd_f H hb26
        refine lk_skip (dt := some 64) R4_12_N rfl rfl ⟨_, rfl, .inl ⟨_, rfl, gq hb26 rfl⟩⟩ ?_
        refine lk_skip (dt := some 65) R4_12_N rfl rfl ⟨_, rfl, .inl ⟨_, rfl, gq hb26 rfl⟩⟩ ?_
        refine lk_skip (dt := some 66) R4_12_N rfl rfl ⟨_, rfl, .inl ⟨_, rfl, gq hb26 rfl⟩⟩ ?_
        refine lk (dt := some 67) R4_12_N rfl rfl rfl (ov_pickF rfl rfl rfl rfl rfl hb26 rfl) ?_
        refine lk (dt := some 68) R4_12_N rfl rfl rfl (opv_move rfl rfl rfl) ?_
        refine lk_skip (dt := some 69) R4_12_N rfl rfl ⟨_, rfl, .inl ⟨_, rfl, gq rfl rfl⟩⟩ ?_
        refine lk_skip (dt := some 70) R4_12_N rfl rfl ⟨_, rfl, .inl ⟨_, rfl, gq rfl rfl⟩⟩ ?_
        refine lk_skip (dt := some 71) R4_12_N rfl rfl ⟨_, rfl, .inl ⟨_, rfl, gq rfl rfl⟩⟩ ?_
        refine lk (dt := some 72) R4_12_N rfl rfl rfl (ov_pickF rfl rfl rfl rfl rfl rfl rfl) ?_
        refine lk (dt := some 4) R4_12_N rfl rfl rfl (opv_assign rfl rfl rfl) ?_
        refine aops_nil ?_
        exact ago_retE E4_36 (r := false) (ares_1 rfl (oneT rfl)) rfl H
    · replace H := cnd_f H hb15
      refine ago_skipE E4_37 ?_
      refine ago_seqE E4_38 ?_
      obtain ⟨b49, i50, p48, hp51, hv52, H⟩ := H
      obtain ⟨b53, i54, x56, hp55, hg57, H⟩ := H
      rcases Bool.eq_false_or_eq_true (decide (x56 = 0)) with hb58 | hb58
      · replace H := cnd_t H hb58
        obtain ⟨b60, i61, p59, hp62, hv63, H⟩ := H
        obtain ⟨b64, i65, x67, hp66, hg68, H⟩ := H
        refine ago_drawH (p := [0, 1, 2, 3, 4, 5]) (tl := [(6, [4, 5], [7, 8, 9, 10, 11, 12, 13, 14, 15, 16, 17, 18])]) (hv := [(0, p48), (1, Value.int .i64 x56), (2, Value.bool (decide (x56 = 0))), (3, Value.bool (decide (x56 = 0))), (4, p59), (5, Value.int .u64 x67)]) E4_39 mixed R4_13_N R4_13_O rfl (pv_cons rfl (pv_cons rfl (pv_cons rfl (pv_cons rfl (pv_cons rfl (pv_cons rfl (pv_nil _)))))))
          (ffc (d := 73) (v := p48) (hd_v rfl fun ρ hρ => ⟨rfl, ov_fldA rfl rfl underlying29 rfl sz24 (by decide) ((hρ 11 (lmem rfl)).trans rfl) hp51 rfl hv52⟩) rfl rfl
          (ffc (d := 74) (v := .int .i64 x56) (hd_v rfl fun ρ hρ => ⟨rfl, ov_ldI rfl underlying24 rfl ((hρ 73 (lmem rfl)).trans rfl) hp55 hg57⟩) rfl rfl
          (ffc (d := 75) (v := .bool (decide (x56 = 0))) (hd_v rfl fun ρ hρ => ⟨rfl, opv_eqI rfl rfl rfl ((hρ 74 (lmem rfl)).trans rfl) rfl⟩) rfl rfl
          (ffc (d := 76) (v := .bool (decide (x56 = 0))) (hd_v rfl fun ρ hρ => ⟨rfl, opv_move rfl rfl ((hρ 75 (lmem rfl)).trans rfl)⟩) rfl rfl
          (ffc (d := 77) (v := p59) (hd_v rfl fun ρ hρ => ⟨⟨_, rfl, .inl ⟨_, ((hρ 76 (lmem rfl)).trans rfl), gq hb58 rfl⟩⟩, ov_fldA rfl rfl underlying29 rfl sz26 (by decide) ((hρ 11 (lmem rfl)).trans rfl) hp62 rfl hv63⟩) rfl rfl
          (ffc (d := 78) (v := .int .u64 x67) (hd_v rfl fun ρ hρ => ⟨⟨_, rfl, .inl ⟨_, ((hρ 76 (lmem rfl)).trans rfl), gq hb58 rfl⟩⟩, ov_ldI rfl underlying26 rfl ((hρ 77 (lmem rfl)).trans rfl) hp66 hg68⟩) rfl rfl
          ffn)))))) ?_
        refine lt_call (dt := some 79) rfl rfl (fun ρ hρ => ⟨⟨_, rfl, .inl ⟨_, ((hρ 76 (lmem rfl)).trans rfl), gq hb58 rfl⟩⟩, opc_of rfl rfl is14 (ma_cons rfl rfl)⟩) H (fun _ _ h _ => ⟨rfl, h⟩) fun r69 aw70 H => ?_
        obtain ⟨hg68, H⟩ := H
        replace hg68 := hg68 _ _ hp66
        rcases Bool.eq_false_or_eq_true (decide (x67 = r69)) with hb71 | hb71
        · replace H := cnd_t H hb71
          obtain ⟨b73, i74, p72, hp75, hv76, H⟩ := H
          obtain ⟨b77, i78, x80, hp79, hg81, H⟩ := H
          refine lt_next (l := [4, 5, 7, 8, 9, 10, 11, 12, 13, 14, 15, 16, 17, 18]) (hv := [(7, Value.bool (decide (x67 = r69))), (8, Value.bool (decide (x67 = r69))), (9, Value.bool (decide (x67 = r69))), (10, p72), (11, Value.int .i64 x80), (12, Value.int .i64 f_6), (13, Value.int .i64 k_5), (14, Value.int .i64 (IntKind.i64.wrap (f_6 - k_5))), (15, Value.int .i64 (IntKind.i64.wrap ((IntKind.i64.wrap (f_6 - k_5)) - 1))), (16, Value.bool (decide (x80 = (IntKind.i64.wrap ((IntKind.i64.wrap (f_6 - k_5)) - 1))))), (17, Value.bool (decide (x80 = (IntKind.i64.wrap ((IntKind.i64.wrap (f_6 - k_5)) - 1))))), (18, Value.bool (decide (x80 = (IntKind.i64.wrap ((IntKind.i64.wrap (f_6 - k_5)) - 1)))))]) rfl rfl (pv_cons rfl (pv_cons rfl (pv_cons rfl (pv_cons rfl (pv_cons rfl (pv_cons rfl (pv_cons rfl (pv_cons rfl (pv_cons rfl (pv_cons rfl (pv_cons rfl (pv_cons rfl (pv_nil _)))))))))))))
            (ffc (d := 77) (v := p59) (hd_v rfl fun ρ hρ => ⟨⟨_, rfl, .inl ⟨_, ((hρ 76 (lmem rfl)).trans rfl), gq hb58 rfl⟩⟩, ov_fldA rfl rfl underlying29 rfl sz26 (by decide) ((hρ 11 (lmem rfl)).trans rfl) hp62 rfl hv63⟩) rfl rfl
            (ffc (d := 78) (v := .int .u64 x67) (hd_v rfl fun ρ hρ => ⟨⟨_, rfl, .inl ⟨_, ((hρ 76 (lmem rfl)).trans rfl), gq hb58 rfl⟩⟩, ov_ldI rfl underlying26 rfl ((hρ 77 (lmem rfl)).trans rfl) hp66 hg68⟩) rfl rfl
            (ffc (d := 80) (v := .bool (decide (x67 = r69))) (hd_v rfl fun ρ hρ => ⟨⟨_, rfl, .inl ⟨_, ((hρ 76 (lmem rfl)).trans rfl), gq hb58 rfl⟩⟩, opv_eqI rfl rfl rfl ((hρ 78 (lmem rfl)).trans rfl) ((hρ 79 (lmem rfl)).trans rfl)⟩) rfl rfl
            (ffc (d := 81) (v := .bool (decide (x67 = r69))) (hd_v rfl fun ρ hρ => ⟨rfl, ov_pickT rfl rfl rfl rfl ((hρ 76 (lmem rfl)).trans rfl) hb58 ((hρ 80 (lmem rfl)).trans rfl)⟩) rfl rfl
            (ffc (d := 82) (v := .bool (decide (x67 = r69))) (hd_v rfl fun ρ hρ => ⟨rfl, opv_move rfl rfl ((hρ 81 (lmem rfl)).trans rfl)⟩) rfl rfl
            (ffc (d := 83) (v := p72) (hd_v rfl fun ρ hρ => ⟨⟨_, rfl, .inl ⟨_, ((hρ 82 (lmem rfl)).trans rfl), gq hb71 rfl⟩⟩, ov_fldA rfl rfl underlying29 rfl sz3 (by decide) ((hρ 11 (lmem rfl)).trans rfl) hp75 rfl hv76⟩) rfl rfl
            (ffc (d := 84) (v := .int .i64 x80) (hd_v rfl fun ρ hρ => ⟨⟨_, rfl, .inl ⟨_, ((hρ 82 (lmem rfl)).trans rfl), gq hb71 rfl⟩⟩, ov_ldI rfl underlying3 rfl ((hρ 83 (lmem rfl)).trans rfl) hp79 hg81⟩) rfl rfl
            (ffc (d := 85) (v := .int .i64 f_6) (hd_v rfl fun ρ hρ => ⟨⟨_, rfl, .inl ⟨_, ((hρ 82 (lmem rfl)).trans rfl), gq hb71 rfl⟩⟩, opv_move rfl rfl ((hρ 6 (lmem rfl)).trans h6)⟩) rfl rfl
            (ffc (d := 86) (v := .int .i64 k_5) (hd_v rfl fun ρ hρ => ⟨⟨_, rfl, .inl ⟨_, ((hρ 82 (lmem rfl)).trans rfl), gq hb71 rfl⟩⟩, opv_move rfl rfl ((hρ 5 (lmem rfl)).trans h5)⟩) rfl rfl
            (ffc (d := 87) (v := .int .i64 (IntKind.i64.wrap (f_6 - k_5))) (hd_v rfl fun ρ hρ => ⟨⟨_, rfl, .inl ⟨_, ((hρ 82 (lmem rfl)).trans rfl), gq hb71 rfl⟩⟩, opv_sub rfl rfl rfl ((hρ 85 (lmem rfl)).trans rfl) ((hρ 86 (lmem rfl)).trans rfl)⟩) rfl rfl
            (ffc (d := 88) (v := .int .i64 (IntKind.i64.wrap ((IntKind.i64.wrap (f_6 - k_5)) - 1))) (hd_v rfl fun ρ hρ => ⟨⟨_, rfl, .inl ⟨_, ((hρ 82 (lmem rfl)).trans rfl), gq hb71 rfl⟩⟩, opv_sub rfl rfl rfl ((hρ 87 (lmem rfl)).trans rfl) rfl⟩) rfl rfl
            (ffc (d := 89) (v := .bool (decide (x80 = (IntKind.i64.wrap ((IntKind.i64.wrap (f_6 - k_5)) - 1))))) (hd_v rfl fun ρ hρ => ⟨⟨_, rfl, .inl ⟨_, ((hρ 82 (lmem rfl)).trans rfl), gq hb71 rfl⟩⟩, opv_eqI rfl rfl rfl ((hρ 84 (lmem rfl)).trans rfl) ((hρ 88 (lmem rfl)).trans rfl)⟩) rfl rfl
            (ffc (d := 90) (v := .bool (decide (x80 = (IntKind.i64.wrap ((IntKind.i64.wrap (f_6 - k_5)) - 1))))) (hd_v rfl fun ρ hρ => ⟨rfl, ov_pickT rfl rfl rfl rfl ((hρ 82 (lmem rfl)).trans rfl) hb71 ((hρ 89 (lmem rfl)).trans rfl)⟩) rfl rfl
            (ffc (d := 4) (v := .bool (decide (x80 = (IntKind.i64.wrap ((IntKind.i64.wrap (f_6 - k_5)) - 1))))) (hd_v rfl fun ρ hρ => ⟨rfl, opv_assign rfl rfl ((hρ 90 (lmem rfl)).trans rfl)⟩) rfl rfl
            ffn)))))))))))))) ?_
          refine lt_end ?_
          exact ago_retE E4_40 (r := (decide (x80 = (IntKind.i64.wrap ((IntKind.i64.wrap (f_6 - k_5)) - 1))))) (ares_1 rfl (oneT rfl)) rfl H
        · replace H := cnd_f H hb71
          refine lt_next (l := [4, 5, 7, 8, 9, 10, 11, 12, 13, 14, 15, 16, 17, 18]) (hv := [(7, Value.bool (decide (x67 = r69))), (8, Value.bool (decide (x67 = r69))), (9, Value.bool (decide (x67 = r69))), (10, undef), (11, undef), (12, undef), (13, undef), (14, undef), (15, undef), (16, undef), (17, Value.bool false), (18, Value.bool false)]) rfl rfl (pv_cons rfl (pv_cons rfl (pv_cons rfl (pv_cons rfl (pv_cons rfl (pv_cons rfl (pv_cons rfl (pv_cons rfl (pv_cons rfl (pv_cons rfl (pv_cons rfl (pv_cons rfl (pv_nil _)))))))))))))
            (ffc (d := 77) (v := p59) (hd_v rfl fun ρ hρ => ⟨⟨_, rfl, .inl ⟨_, ((hρ 76 (lmem rfl)).trans rfl), gq hb58 rfl⟩⟩, ov_fldA rfl rfl underlying29 rfl sz26 (by decide) ((hρ 11 (lmem rfl)).trans rfl) hp62 rfl hv63⟩) rfl rfl
            (ffc (d := 78) (v := .int .u64 x67) (hd_v rfl fun ρ hρ => ⟨⟨_, rfl, .inl ⟨_, ((hρ 76 (lmem rfl)).trans rfl), gq hb58 rfl⟩⟩, ov_ldI rfl underlying26 rfl ((hρ 77 (lmem rfl)).trans rfl) hp66 hg68⟩) rfl rfl
            (ffc (d := 80) (v := .bool (decide (x67 = r69))) (hd_v rfl fun ρ hρ => ⟨⟨_, rfl, .inl ⟨_, ((hρ 76 (lmem rfl)).trans rfl), gq hb58 rfl⟩⟩, opv_eqI rfl rfl rfl ((hρ 78 (lmem rfl)).trans rfl) ((hρ 79 (lmem rfl)).trans rfl)⟩) rfl rfl
            (ffc (d := 81) (v := .bool (decide (x67 = r69))) (hd_v rfl fun ρ hρ => ⟨rfl, ov_pickT rfl rfl rfl rfl ((hρ 76 (lmem rfl)).trans rfl) hb58 ((hρ 80 (lmem rfl)).trans rfl)⟩) rfl rfl
            (ffc (d := 82) (v := .bool (decide (x67 = r69))) (hd_v rfl fun ρ hρ => ⟨rfl, opv_move rfl rfl ((hρ 81 (lmem rfl)).trans rfl)⟩) rfl rfl
            (ffc (d := 83) (v := undef) (hd_s rfl (fun ρ hρ => ⟨_, rfl, .inl ⟨_, ((hρ 82 (lmem rfl)).trans rfl), gq hb71 rfl⟩⟩) rfl) rfl rfl
            (ffc (d := 84) (v := undef) (hd_s rfl (fun ρ hρ => ⟨_, rfl, .inl ⟨_, ((hρ 82 (lmem rfl)).trans rfl), gq hb71 rfl⟩⟩) rfl) rfl rfl
            (ffc (d := 85) (v := undef) (hd_s rfl (fun ρ hρ => ⟨_, rfl, .inl ⟨_, ((hρ 82 (lmem rfl)).trans rfl), gq hb71 rfl⟩⟩) rfl) rfl rfl
            (ffc (d := 86) (v := undef) (hd_s rfl (fun ρ hρ => ⟨_, rfl, .inl ⟨_, ((hρ 82 (lmem rfl)).trans rfl), gq hb71 rfl⟩⟩) rfl) rfl rfl
            (ffc (d := 87) (v := undef) (hd_s rfl (fun ρ hρ => ⟨_, rfl, .inl ⟨_, ((hρ 82 (lmem rfl)).trans rfl), gq hb71 rfl⟩⟩) rfl) rfl rfl
            (ffc (d := 88) (v := undef) (hd_s rfl (fun ρ hρ => ⟨_, rfl, .inl ⟨_, ((hρ 82 (lmem rfl)).trans rfl), gq hb71 rfl⟩⟩) rfl) rfl rfl
            (ffc (d := 89) (v := undef) (hd_s rfl (fun ρ hρ => ⟨_, rfl, .inl ⟨_, ((hρ 82 (lmem rfl)).trans rfl), gq hb71 rfl⟩⟩) rfl) rfl rfl
            (ffc (d := 90) (v := .bool false) (hd_v rfl fun ρ hρ => ⟨rfl, ov_pickF rfl rfl rfl rfl ((hρ 82 (lmem rfl)).trans rfl) hb71 rfl⟩) rfl rfl
            (ffc (d := 4) (v := .bool false) (hd_v rfl fun ρ hρ => ⟨rfl, opv_assign rfl rfl ((hρ 90 (lmem rfl)).trans rfl)⟩) rfl rfl
            ffn)))))))))))))) ?_
          refine lt_end ?_
          exact ago_retE E4_40 (r := false) (ares_1 rfl (oneT rfl)) rfl H
      · replace H := cnd_f H hb58
        refine ago_drawH (p := [0, 1, 2, 3, 4, 5]) (tl := [(6, [4, 5], [7, 8, 9, 10, 11, 12, 13, 14, 15, 16, 17, 18])]) (hv := [(0, p48), (1, Value.int .i64 x56), (2, Value.bool (decide (x56 = 0))), (3, Value.bool (decide (x56 = 0))), (4, undef), (5, undef)]) E4_39 mixed R4_13_N R4_13_O rfl (pv_cons rfl (pv_cons rfl (pv_cons rfl (pv_cons rfl (pv_cons rfl (pv_cons rfl (pv_nil _)))))))
          (ffc (d := 73) (v := p48) (hd_v rfl fun ρ hρ => ⟨rfl, ov_fldA rfl rfl underlying29 rfl sz24 (by decide) ((hρ 11 (lmem rfl)).trans rfl) hp51 rfl hv52⟩) rfl rfl
          (ffc (d := 74) (v := .int .i64 x56) (hd_v rfl fun ρ hρ => ⟨rfl, ov_ldI rfl underlying24 rfl ((hρ 73 (lmem rfl)).trans rfl) hp55 hg57⟩) rfl rfl
          (ffc (d := 75) (v := .bool (decide (x56 = 0))) (hd_v rfl fun ρ hρ => ⟨rfl, opv_eqI rfl rfl rfl ((hρ 74 (lmem rfl)).trans rfl) rfl⟩) rfl rfl
          (ffc (d := 76) (v := .bool (decide (x56 = 0))) (hd_v rfl fun ρ hρ => ⟨rfl, opv_move rfl rfl ((hρ 75 (lmem rfl)).trans rfl)⟩) rfl rfl
          (ffc (d := 77) (v := undef) (hd_s rfl (fun ρ hρ => ⟨_, rfl, .inl ⟨_, ((hρ 76 (lmem rfl)).trans rfl), gq hb58 rfl⟩⟩) rfl) rfl rfl
          (ffc (d := 78) (v := undef) (hd_s rfl (fun ρ hρ => ⟨_, rfl, .inl ⟨_, ((hρ 76 (lmem rfl)).trans rfl), gq hb58 rfl⟩⟩) rfl) rfl rfl
          ffn)))))) ?_
        refine lt_skip (dt := some 79) rfl rfl (fun ρ hρ => ⟨_, rfl, .inl ⟨_, ((hρ 76 (lmem rfl)).trans rfl), gq hb58 rfl⟩⟩) ?_
        refine lt_next (l := [4, 5, 7, 8, 9, 10, 11, 12, 13, 14, 15, 16, 17, 18]) (hv := [(7, undef), (8, Value.bool false), (9, Value.bool false), (10, undef), (11, undef), (12, undef), (13, undef), (14, undef), (15, undef), (16, undef), (17, Value.bool false), (18, Value.bool false)]) rfl rfl (pv_cons rfl (pv_cons rfl (pv_cons rfl (pv_cons rfl (pv_cons rfl (pv_cons rfl (pv_cons rfl (pv_cons rfl (pv_cons rfl (pv_cons rfl (pv_cons rfl (pv_cons rfl (pv_nil _)))))))))))))
          (ffc (d := 77) (v := undef) (hd_s rfl (fun ρ hρ => ⟨_, rfl, .inl ⟨_, ((hρ 76 (lmem rfl)).trans rfl), gq hb58 rfl⟩⟩) rfl) rfl rfl
          (ffc (d := 78) (v := undef) (hd_s rfl (fun ρ hρ => ⟨_, rfl, .inl ⟨_, ((hρ 76 (lmem rfl)).trans rfl), gq hb58 rfl⟩⟩) rfl) rfl rfl
          (ffc (d := 80) (v := undef) (hd_s rfl (fun ρ hρ => ⟨_, rfl, .inl ⟨_, ((hρ 76 (lmem rfl)).trans rfl), gq hb58 rfl⟩⟩) rfl) rfl rfl
          (ffc (d := 81) (v := .bool false) (hd_v rfl fun ρ hρ => ⟨rfl, ov_pickF rfl rfl rfl rfl ((hρ 76 (lmem rfl)).trans rfl) hb58 rfl⟩) rfl rfl
          (ffc (d := 82) (v := .bool false) (hd_v rfl fun ρ hρ => ⟨rfl, opv_move rfl rfl ((hρ 81 (lmem rfl)).trans rfl)⟩) rfl rfl
          (ffc (d := 83) (v := undef) (hd_s rfl (fun ρ hρ => ⟨_, rfl, .inl ⟨_, ((hρ 82 (lmem rfl)).trans rfl), gq rfl rfl⟩⟩) rfl) rfl rfl
          (ffc (d := 84) (v := undef) (hd_s rfl (fun ρ hρ => ⟨_, rfl, .inl ⟨_, ((hρ 82 (lmem rfl)).trans rfl), gq rfl rfl⟩⟩) rfl) rfl rfl
          (ffc (d := 85) (v := undef) (hd_s rfl (fun ρ hρ => ⟨_, rfl, .inl ⟨_, ((hρ 82 (lmem rfl)).trans rfl), gq rfl rfl⟩⟩) rfl) rfl rfl
          (ffc (d := 86) (v := undef) (hd_s rfl (fun ρ hρ => ⟨_, rfl, .inl ⟨_, ((hρ 82 (lmem rfl)).trans rfl), gq rfl rfl⟩⟩) rfl) rfl rfl
          (ffc (d := 87) (v := undef) (hd_s rfl (fun ρ hρ => ⟨_, rfl, .inl ⟨_, ((hρ 82 (lmem rfl)).trans rfl), gq rfl rfl⟩⟩) rfl) rfl rfl
          (ffc (d := 88) (v := undef) (hd_s rfl (fun ρ hρ => ⟨_, rfl, .inl ⟨_, ((hρ 82 (lmem rfl)).trans rfl), gq rfl rfl⟩⟩) rfl) rfl rfl
          (ffc (d := 89) (v := undef) (hd_s rfl (fun ρ hρ => ⟨_, rfl, .inl ⟨_, ((hρ 82 (lmem rfl)).trans rfl), gq rfl rfl⟩⟩) rfl) rfl rfl
          (ffc (d := 90) (v := .bool false) (hd_v rfl fun ρ hρ => ⟨rfl, ov_pickF rfl rfl rfl rfl ((hρ 82 (lmem rfl)).trans rfl) rfl rfl⟩) rfl rfl
          (ffc (d := 4) (v := .bool false) (hd_v rfl fun ρ hρ => ⟨rfl, opv_assign rfl rfl ((hρ 90 (lmem rfl)).trans rfl)⟩) rfl rfl
          ffn)))))))))))))) ?_
        refine lt_end ?_
        exact ago_retE E4_40 (r := false) (ares_1 rfl (oneT rfl)) rfl H
theorem S4_0_ok (Q : Bool → AW → Prop) (E : List PanicEntry → AW → Prop)  (ρ : Env) (n_0 : Int) (fuel_1 : Int) (aw : AW) (h0 : ρ 0 = .int .u16 n_0) (h1 : ρ 1 = .int .u16 fuel_1) (H : S4_0 Q E  n_0 fuel_1 aw) :
    AGo prog 91 [.code C4_0] ρ [] aw (RR prog f4 91 sh4 Q E) := by
  unfold S4_0 at H
  refine ago_seqE E4_0 ?_
  refine ago_regE E4_1 (l := [0]) rfl ?_
  refine lk (dt := some 4) R4_0_N rfl rfl rfl (opv_assign rfl rfl rfl) ?_
  refine aops_nil ?_
  refine ago_seqE E4_2 ?_
  refine ago_seqE E4_3 ?_
  refine ago_regE E4_4 (l := [0, 1]) rfl ?_
  refine lk_call (dt := some 12) R4_1_N rfl rfl rfl (opc_of rfl rfl is11 rfl) H (fun _ _ h => ⟨rfl, h⟩) fun r82 aw83 H => ?_
  refine lk (dt := some 13) R4_1_N rfl rfl rfl (opv_not rfl rfl rfl) ?_
  refine aops_nil ?_
  refine ago_condE  E4_5 rfl rfl (fun hb84 => ?_) (fun hb84 => ?_)
  · replace H := cnd_t H hb84
    refine ago_seqE E4_6 ?_
    refine ago_regE E4_7 (l := [0]) rfl ?_
    refine lk (dt := some 4) R4_2_N rfl rfl rfl (opv_assign rfl rfl rfl) ?_
    refine aops_nil ?_
    exact ago_retE E4_8 (r := false) (ares_1 rfl (oneT rfl)) rfl H
  · replace H := cnd_f H hb84
    refine ago_skipE E4_9 ?_
    refine ago_seqE E4_10 ?_
    refine ago_regE E4_11 (l := [0, 1, 2, 3]) rfl ?_
    refine lk (dt := some 14) R4_3_N rfl rfl rfl (opv_move rfl rfl h0) ?_
    refine lk (dt := some 15) R4_3_N rfl rfl rfl (opv_conv rfl rfl underlying38 underlying3 rfl) ?_
    refine lk (dt := some 16) R4_3_N rfl rfl rfl (opv_rem rfl rfl rfl rfl rfl (by decide)) ?_
    refine lk (dt := some 5) R4_3_N rfl rfl rfl (opv_assign rfl rfl rfl) ?_
    refine aops_nil ?_
    refine ago_seqE E4_12 ?_
    refine ago_regE E4_13 (l := [0, 1, 2, 3]) rfl ?_
    refine lk (dt := some 17) R4_4_N rfl rfl rfl (opv_move rfl rfl h1) ?_
    refine lk (dt := some 18) R4_4_N rfl rfl rfl (opv_conv rfl rfl underlying38 underlying3 rfl) ?_
    refine lk (dt := some 19) R4_4_N rfl rfl rfl (opv_rem rfl rfl rfl rfl rfl (by decide)) ?_
    refine lk (dt := some 6) R4_4_N rfl rfl rfl (opv_assign rfl rfl rfl) ?_
    refine aops_nil ?_
    refine ago_seqE E4_14 ?_
    refine ago_regE E4_15 (l := [0, 1, 2, 3, 4, 5]) rfl ?_
    refine lk_call (dt := some 21) R4_5_N rfl rfl rfl (opc_of rfl rfl is15 (ma_cons rfl (ma_cons rfl rfl))) H (fun _ _ h => ⟨rfl, h⟩) fun r85 aw86 H => ?_
    refine lk (dt := some 20) R4_5_N rfl rfl rfl (opv_move rfl rfl rfl) ?_
    refine lk (dt := some 22) R4_5_N rfl rfl rfl (opv_extract rfl rfl rfl rfl) ?_
    refine lk (dt := some 23) R4_5_N rfl rfl rfl (opv_extract rfl rfl rfl rfl) ?_
    refine lk (dt := some 7) R4_5_N rfl rfl rfl (opv_assign rfl rfl rfl) ?_
    refine lk (dt := some 8) R4_5_N rfl rfl rfl (opv_assign rfl rfl rfl) ?_
    refine aops_nil ?_
    refine ago_seqE E4_16 ?_
    refine ago_cut (fun ρ => ρ 5 = .int .i64 (Int.tmod (IntKind.i64.wrap n_0) 1500) ∧ ρ 6 = .int .i64 (Int.tmod (IntKind.i64.wrap fuel_1) 2000) ∧ ρ 7 = r85.1 ∧ ρ 8 = .int .i64 r85.2 ∧ True) ⟨rfl, rfl, rfl, rfl, trivial⟩ (fun ρ ⟨h5, h6, h7, h8, _⟩ => ?_)
    refine ago_regE E4_17 (l := [0, 1, 2, 3, 4, 5, 6, 7, 8, 9, 10, 11]) rfl ?_
    refine lk (dt := some 24) R4_6_N rfl rfl rfl (ov_bld (r := [.int .u8 2, .int .i64 0, .int .i64 0, .string (⟨#[]⟩ : ByteArray)]) rfl rfl bo34 (mp_cons rfl rfl) (fillP rfl rfl rfl rfl (fillN rfl))) ?_
    refine lk (dt := some 25) R4_6_N rfl rfl rfl (ov_bld (r := [.int .u8 13, .int .i64 8, .int .i64 0, .string (⟨#[]⟩ : ByteArray)]) rfl rfl bo34 (mp_cons rfl (mp_cons rfl rfl)) (fillP rfl rfl rfl rfl (fillP rfl rfl rfl rfl (fillN rfl)))) ?_
    refine lk (dt := some 26) R4_6_N rfl rfl rfl (ov_bld (r := [.int .u8 4, .int .i64 0, .int .i64 0, .string (⟨#[]⟩ : ByteArray)]) rfl rfl bo34 (mp_cons rfl rfl) (fillP rfl rfl rfl rfl (fillN rfl))) ?_
    refine lk (dt := some 27) R4_6_N rfl rfl rfl (ov_bld (r := [.int .u8 2, .int .i64 0, .int .i64 0, .string (⟨#[]⟩ : ByteArray)]) rfl rfl bo34 (mp_cons rfl rfl) (fillP rfl rfl rfl rfl (fillN rfl))) ?_
    refine lk (dt := some 28) R4_6_N rfl rfl rfl (ov_bld (r := [.int .u8 0, .int .i64 1, .int .i64 0, .string (⟨#[]⟩ : ByteArray)]) rfl rfl bo34 (mp_cons rfl rfl) (fillP rfl rfl rfl rfl (fillN rfl))) ?_
    refine lk (dt := some 29) R4_6_N rfl rfl rfl (ov_bld (r := [.int .u8 20, .int .i64 1, .int .i64 0, .string (⟨#[]⟩ : ByteArray)]) rfl rfl bo34 (mp_cons rfl (mp_cons rfl rfl)) (fillP rfl rfl rfl rfl (fillP rfl rfl rfl rfl (fillN rfl)))) ?_
    refine lk (dt := some 30) R4_6_N rfl rfl rfl (ov_bld (r := [.int .u8 7, .int .i64 0, .int .i64 0, .string (⟨#[]⟩ : ByteArray)]) rfl rfl bo34 (mp_cons rfl rfl) (fillP rfl rfl rfl rfl (fillN rfl))) ?_
    refine lk (dt := some 31) R4_6_N rfl rfl rfl (ov_bld (r := [.int .u8 8, .int .i64 0, .int .i64 0, .string (⟨#[]⟩ : ByteArray)]) rfl rfl bo34 (mp_cons rfl rfl) (fillP rfl rfl rfl rfl (fillN rfl))) ?_
    refine lk (dt := some 32) R4_6_N rfl rfl rfl (ov_bld (r := [.int .u8 0, .int .i64 7, .int .i64 0, .string (⟨#[]⟩ : ByteArray)]) rfl rfl bo34 (mp_cons rfl rfl) (fillP rfl rfl rfl rfl (fillN rfl))) ?_
    refine lk (dt := some 33) R4_6_N rfl rfl rfl (ov_bld (r := [.int .u8 8, .int .i64 0, .int .i64 0, .string (⟨#[]⟩ : ByteArray)]) rfl rfl bo34 (mp_cons rfl rfl) (fillP rfl rfl rfl rfl (fillN rfl))) ?_
    obtain ⟨p87, aw88, hp89, ha90, H⟩ := H
    refine lk (dt := some 34) R4_6_N rfl rfl rfl (ov_bsA (r := [.int .u8 2, .int .i64 0, .int .i64 0, .string (⟨#[]⟩ : ByteArray), .int .u8 13, .int .i64 8, .int .i64 0, .string (⟨#[]⟩ : ByteArray), .int .u8 4, .int .i64 0, .int .i64 0, .string (⟨#[]⟩ : ByteArray), .int .u8 2, .int .i64 0, .int .i64 0, .string (⟨#[]⟩ : ByteArray), .int .u8 0, .int .i64 1, .int .i64 0, .string (⟨#[]⟩ : ByteArray), .int .u8 20, .int .i64 1, .int .i64 0, .string (⟨#[]⟩ : ByteArray), .int .u8 7, .int .i64 0, .int .i64 0, .string (⟨#[]⟩ : ByteArray), .int .u8 8, .int .i64 0, .int .i64 0, .string (⟨#[]⟩ : ByteArray), .int .u8 0, .int .i64 7, .int .i64 0, .string (⟨#[]⟩ : ByteArray), .int .u8 8, .int .i64 0, .int .i64 0, .string (⟨#[]⟩ : ByteArray)]) (vs := [.agg #[.int .u8 2, .int .i64 0, .int .i64 0, .string (⟨#[]⟩ : ByteArray)], .agg #[.int .u8 13, .int .i64 8, .int .i64 0, .string (⟨#[]⟩ : ByteArray)], .agg #[.int .u8 4, .int .i64 0, .int .i64 0, .string (⟨#[]⟩ : ByteArray)], .agg #[.int .u8 2, .int .i64 0, .int .i64 0, .string (⟨#[]⟩ : ByteArray)], .agg #[.int .u8 0, .int .i64 1, .int .i64 0, .string (⟨#[]⟩ : ByteArray)], .agg #[.int .u8 20, .int .i64 1, .int .i64 0, .string (⟨#[]⟩ : ByteArray)], .agg #[.int .u8 7, .int .i64 0, .int .i64 0, .string (⟨#[]⟩ : ByteArray)], .agg #[.int .u8 8, .int .i64 0, .int .i64 0, .string (⟨#[]⟩ : ByteArray)], .agg #[.int .u8 0, .int .i64 7, .int .i64 0, .string (⟨#[]⟩ : ByteArray)], .agg #[.int .u8 8, .int .i64 0, .int .i64 0, .string (⟨#[]⟩ : ByteArray)]]) rfl rfl underlying35 sz34 z34 rfl rfl rfl rfl rfl (mp_cons rfl (mp_cons rfl (mp_cons rfl (mp_cons rfl (mp_cons rfl (mp_cons rfl (mp_cons rfl (mp_cons rfl (mp_cons rfl (mp_cons rfl rfl)))))))))) (.cons (v := .agg #[.int .u8 2, .int .i64 0, .int .i64 0, .string (⟨#[]⟩ : ByteArray)]) (xs := [.int .u8 2, .int .i64 0, .int .i64 0, .string (⟨#[]⟩ : ByteArray)]) (r := [.int .u8 13, .int .i64 8, .int .i64 0, .string (⟨#[]⟩ : ByteArray), .int .u8 4, .int .i64 0, .int .i64 0, .string (⟨#[]⟩ : ByteArray), .int .u8 2, .int .i64 0, .int .i64 0, .string (⟨#[]⟩ : ByteArray), .int .u8 0, .int .i64 1, .int .i64 0, .string (⟨#[]⟩ : ByteArray), .int .u8 20, .int .i64 1, .int .i64 0, .string (⟨#[]⟩ : ByteArray), .int .u8 7, .int .i64 0, .int .i64 0, .string (⟨#[]⟩ : ByteArray), .int .u8 8, .int .i64 0, .int .i64 0, .string (⟨#[]⟩ : ByteArray), .int .u8 0, .int .i64 7, .int .i64 0, .string (⟨#[]⟩ : ByteArray), .int .u8 8, .int .i64 0, .int .i64 0, .string (⟨#[]⟩ : ByteArray)]) rfl rfl (.cons (v := .agg #[.int .u8 13, .int .i64 8, .int .i64 0, .string (⟨#[]⟩ : ByteArray)]) (xs := [.int .u8 13, .int .i64 8, .int .i64 0, .string (⟨#[]⟩ : ByteArray)]) (r := [.int .u8 4, .int .i64 0, .int .i64 0, .string (⟨#[]⟩ : ByteArray), .int .u8 2, .int .i64 0, .int .i64 0, .string (⟨#[]⟩ : ByteArray), .int .u8 0, .int .i64 1, .int .i64 0, .string (⟨#[]⟩ : ByteArray), .int .u8 20, .int .i64 1, .int .i64 0, .string (⟨#[]⟩ : ByteArray), .int .u8 7, .int .i64 0, .int .i64 0, .string (⟨#[]⟩ : ByteArray), .int .u8 8, .int .i64 0, .int .i64 0, .string (⟨#[]⟩ : ByteArray), .int .u8 0, .int .i64 7, .int .i64 0, .string (⟨#[]⟩ : ByteArray), .int .u8 8, .int .i64 0, .int .i64 0, .string (⟨#[]⟩ : ByteArray)]) rfl rfl (.cons (v := .agg #[.int .u8 4, .int .i64 0, .int .i64 0, .string (⟨#[]⟩ : ByteArray)]) (xs := [.int .u8 4, .int .i64 0, .int .i64 0, .string (⟨#[]⟩ : ByteArray)]) (r := [.int .u8 2, .int .i64 0, .int .i64 0, .string (⟨#[]⟩ : ByteArray), .int .u8 0, .int .i64 1, .int .i64 0, .string (⟨#[]⟩ : ByteArray), .int .u8 20, .int .i64 1, .int .i64 0, .string (⟨#[]⟩ : ByteArray), .int .u8 7, .int .i64 0, .int .i64 0, .string (⟨#[]⟩ : ByteArray), .int .u8 8, .int .i64 0, .int .i64 0, .string (⟨#[]⟩ : ByteArray), .int .u8 0, .int .i64 7, .int .i64 0, .string (⟨#[]⟩ : ByteArray), .int .u8 8, .int .i64 0, .int .i64 0, .string (⟨#[]⟩ : ByteArray)]) rfl rfl (.cons (v := .agg #[.int .u8 2, .int .i64 0, .int .i64 0, .string (⟨#[]⟩ : ByteArray)]) (xs := [.int .u8 2, .int .i64 0, .int .i64 0, .string (⟨#[]⟩ : ByteArray)]) (r := [.int .u8 0, .int .i64 1, .int .i64 0, .string (⟨#[]⟩ : ByteArray), .int .u8 20, .int .i64 1, .int .i64 0, .string (⟨#[]⟩ : ByteArray), .int .u8 7, .int .i64 0, .int .i64 0, .string (⟨#[]⟩ : ByteArray), .int .u8 8, .int .i64 0, .int .i64 0, .string (⟨#[]⟩ : ByteArray), .int .u8 0, .int .i64 7, .int .i64 0, .string (⟨#[]⟩ : ByteArray), .int .u8 8, .int .i64 0, .int .i64 0, .string (⟨#[]⟩ : ByteArray)]) rfl rfl (.cons (v := .agg #[.int .u8 0, .int .i64 1, .int .i64 0, .string (⟨#[]⟩ : ByteArray)]) (xs := [.int .u8 0, .int .i64 1, .int .i64 0, .string (⟨#[]⟩ : ByteArray)]) (r := [.int .u8 20, .int .i64 1, .int .i64 0, .string (⟨#[]⟩ : ByteArray), .int .u8 7, .int .i64 0, .int .i64 0, .string (⟨#[]⟩ : ByteArray), .int .u8 8, .int .i64 0, .int .i64 0, .string (⟨#[]⟩ : ByteArray), .int .u8 0, .int .i64 7, .int .i64 0, .string (⟨#[]⟩ : ByteArray), .int .u8 8, .int .i64 0, .int .i64 0, .string (⟨#[]⟩ : ByteArray)]) rfl rfl (.cons (v := .agg #[.int .u8 20, .int .i64 1, .int .i64 0, .string (⟨#[]⟩ : ByteArray)]) (xs := [.int .u8 20, .int .i64 1, .int .i64 0, .string (⟨#[]⟩ : ByteArray)]) (r := [.int .u8 7, .int .i64 0, .int .i64 0, .string (⟨#[]⟩ : ByteArray), .int .u8 8, .int .i64 0, .int .i64 0, .string (⟨#[]⟩ : ByteArray), .int .u8 0, .int .i64 7, .int .i64 0, .string (⟨#[]⟩ : ByteArray), .int .u8 8, .int .i64 0, .int .i64 0, .string (⟨#[]⟩ : ByteArray)]) rfl rfl (.cons (v := .agg #[.int .u8 7, .int .i64 0, .int .i64 0, .string (⟨#[]⟩ : ByteArray)]) (xs := [.int .u8 7, .int .i64 0, .int .i64 0, .string (⟨#[]⟩ : ByteArray)]) (r := [.int .u8 8, .int .i64 0, .int .i64 0, .string (⟨#[]⟩ : ByteArray), .int .u8 0, .int .i64 7, .int .i64 0, .string (⟨#[]⟩ : ByteArray), .int .u8 8, .int .i64 0, .int .i64 0, .string (⟨#[]⟩ : ByteArray)]) rfl rfl (.cons (v := .agg #[.int .u8 8, .int .i64 0, .int .i64 0, .string (⟨#[]⟩ : ByteArray)]) (xs := [.int .u8 8, .int .i64 0, .int .i64 0, .string (⟨#[]⟩ : ByteArray)]) (r := [.int .u8 0, .int .i64 7, .int .i64 0, .string (⟨#[]⟩ : ByteArray), .int .u8 8, .int .i64 0, .int .i64 0, .string (⟨#[]⟩ : ByteArray)]) rfl rfl (.cons (v := .agg #[.int .u8 0, .int .i64 7, .int .i64 0, .string (⟨#[]⟩ : ByteArray)]) (xs := [.int .u8 0, .int .i64 7, .int .i64 0, .string (⟨#[]⟩ : ByteArray)]) (r := [.int .u8 8, .int .i64 0, .int .i64 0, .string (⟨#[]⟩ : ByteArray)]) rfl rfl (.cons (v := .agg #[.int .u8 8, .int .i64 0, .int .i64 0, .string (⟨#[]⟩ : ByteArray)]) (xs := [.int .u8 8, .int .i64 0, .int .i64 0, .string (⟨#[]⟩ : ByteArray)]) (r := []) rfl rfl .nil)))))))))) hp89 ha90) ?_
    refine lk (dt := some 9) R4_6_N rfl rfl rfl (opv_assign rfl rfl rfl) ?_
    refine aops_nil ?_
    refine ago_seqE E4_18 ?_
    refine ago_cut (fun ρ => ρ 5 = .int .i64 (Int.tmod (IntKind.i64.wrap n_0) 1500) ∧ ρ 6 = .int .i64 (Int.tmod (IntKind.i64.wrap fuel_1) 2000) ∧ ρ 7 = r85.1 ∧ ρ 8 = .int .i64 r85.2 ∧ ρ 9 = p87 ∧ True) ⟨h5, h6, h7, h8, rfl, trivial⟩ (fun ρ ⟨h5, h6, h7, h8, h9, _⟩ => ?_)
    refine ago_regE E4_19 (l := [0, 1, 2, 3, 4, 5, 6]) rfl ?_
    refine lk (dt := some 35) R4_7_N rfl rfl rfl (ov_bld (r := [.int .u8 6, .int .i64 0, .int .i64 0, .string (⟨#[]⟩ : ByteArray)]) rfl rfl bo34 (mp_cons rfl rfl) (fillP rfl rfl rfl rfl (fillN rfl))) ?_
    refine lk (dt := some 36) R4_7_N rfl rfl rfl (opv_move rfl rfl h5) ?_
    refine lk (dt := some 37) R4_7_N rfl rfl rfl (ov_bld (r := [.int .u8 0, .int .i64 (Int.tmod (IntKind.i64.wrap n_0) 1500), .int .i64 0, .string (⟨#[]⟩ : ByteArray)]) rfl rfl bo34 (mp_cons rfl rfl) (fillP rfl rfl rfl rfl (fillN rfl))) ?_
    refine lk (dt := some 38) R4_7_N rfl rfl rfl (ov_bld (r := [.int .u8 7, .int .i64 0, .int .i64 0, .string (⟨#[]⟩ : ByteArray)]) rfl rfl bo34 (mp_cons rfl rfl) (fillP rfl rfl rfl rfl (fillN rfl))) ?_
    refine lk (dt := some 39) R4_7_N rfl rfl rfl (ov_bld (r := [.int .u8 8, .int .i64 0, .int .i64 0, .string (⟨#[]⟩ : ByteArray)]) rfl rfl bo34 (mp_cons rfl rfl) (fillP rfl rfl rfl rfl (fillN rfl))) ?_
    obtain ⟨p91, aw92, hp93, ha94, H⟩ := H
    refine lk (dt := some 40) R4_7_N rfl rfl rfl (ov_bsA (r := [.int .u8 6, .int .i64 0, .int .i64 0, .string (⟨#[]⟩ : ByteArray), .int .u8 0, .int .i64 (Int.tmod (IntKind.i64.wrap n_0) 1500), .int .i64 0, .string (⟨#[]⟩ : ByteArray), .int .u8 7, .int .i64 0, .int .i64 0, .string (⟨#[]⟩ : ByteArray), .int .u8 8, .int .i64 0, .int .i64 0, .string (⟨#[]⟩ : ByteArray)]) (vs := [.agg #[.int .u8 6, .int .i64 0, .int .i64 0, .string (⟨#[]⟩ : ByteArray)], .agg #[.int .u8 0, .int .i64 (Int.tmod (IntKind.i64.wrap n_0) 1500), .int .i64 0, .string (⟨#[]⟩ : ByteArray)], .agg #[.int .u8 7, .int .i64 0, .int .i64 0, .string (⟨#[]⟩ : ByteArray)], .agg #[.int .u8 8, .int .i64 0, .int .i64 0, .string (⟨#[]⟩ : ByteArray)]]) rfl rfl underlying35 sz34 z34 rfl rfl rfl rfl rfl (mp_cons rfl (mp_cons rfl (mp_cons rfl (mp_cons rfl rfl)))) (.cons (v := .agg #[.int .u8 6, .int .i64 0, .int .i64 0, .string (⟨#[]⟩ : ByteArray)]) (xs := [.int .u8 6, .int .i64 0, .int .i64 0, .string (⟨#[]⟩ : ByteArray)]) (r := [.int .u8 0, .int .i64 (Int.tmod (IntKind.i64.wrap n_0) 1500), .int .i64 0, .string (⟨#[]⟩ : ByteArray), .int .u8 7, .int .i64 0, .int .i64 0, .string (⟨#[]⟩ : ByteArray), .int .u8 8, .int .i64 0, .int .i64 0, .string (⟨#[]⟩ : ByteArray)]) rfl rfl (.cons (v := .agg #[.int .u8 0, .int .i64 (Int.tmod (IntKind.i64.wrap n_0) 1500), .int .i64 0, .string (⟨#[]⟩ : ByteArray)]) (xs := [.int .u8 0, .int .i64 (Int.tmod (IntKind.i64.wrap n_0) 1500), .int .i64 0, .string (⟨#[]⟩ : ByteArray)]) (r := [.int .u8 7, .int .i64 0, .int .i64 0, .string (⟨#[]⟩ : ByteArray), .int .u8 8, .int .i64 0, .int .i64 0, .string (⟨#[]⟩ : ByteArray)]) rfl rfl (.cons (v := .agg #[.int .u8 7, .int .i64 0, .int .i64 0, .string (⟨#[]⟩ : ByteArray)]) (xs := [.int .u8 7, .int .i64 0, .int .i64 0, .string (⟨#[]⟩ : ByteArray)]) (r := [.int .u8 8, .int .i64 0, .int .i64 0, .string (⟨#[]⟩ : ByteArray)]) rfl rfl (.cons (v := .agg #[.int .u8 8, .int .i64 0, .int .i64 0, .string (⟨#[]⟩ : ByteArray)]) (xs := [.int .u8 8, .int .i64 0, .int .i64 0, .string (⟨#[]⟩ : ByteArray)]) (r := []) rfl rfl .nil)))) hp93 ha94) ?_
    refine lk (dt := some 10) R4_7_N rfl rfl rfl (opv_assign rfl rfl rfl) ?_
    refine aops_nil ?_
    refine ago_seqE E4_20 ?_
    refine ago_seqE E4_21 ?_
    refine ago_regE E4_22 (l := [0, 1, 2, 3, 4, 5, 6, 7, 8, 9, 10, 11]) rfl ?_
    refine lk (dt := some 41) R4_8_N rfl rfl rfl (opv_move rfl rfl h8) ?_
    refine lk (dt := some 42) R4_8_N rfl rfl rfl (opv_neI rfl rfl rfl rfl rfl) ?_
    refine lk (dt := some 43) R4_8_N rfl rfl rfl (opv_move rfl rfl rfl) ?_
    rcases Bool.eq_false_or_eq_true (!decide (r85.2 = 0)) with hb95 | hb95
    · replace H := cnd_t H hb95
      refine lk_skip (dt := some 44) R4_8_N rfl rfl ⟨_, rfl, .inl ⟨_, rfl, gq hb95 rfl⟩⟩ ?_
      refine lk_skip (dt := some 45) R4_8_N rfl rfl ⟨_, rfl, .inl ⟨_, rfl, gq hb95 rfl⟩⟩ ?_
      refine lk_skip (dt := some 46) R4_8_N rfl rfl ⟨_, rfl, .inl ⟨_, rfl, gq hb95 rfl⟩⟩ ?_
      refine lk_skip (dt := some 47) R4_8_N rfl rfl ⟨_, rfl, .inl ⟨_, rfl, gq hb95 rfl⟩⟩ ?_
      refine lk_skip (dt := some 48) R4_8_N rfl rfl ⟨_, rfl, .inl ⟨_, rfl, gq hb95 rfl⟩⟩ ?_
      refine lk_skip (dt := some 49) R4_8_N rfl rfl ⟨_, rfl, .inl ⟨_, rfl, gq hb95 rfl⟩⟩ ?_
      refine lk_skip (dt := some 50) R4_8_N rfl rfl ⟨_, rfl, .inl ⟨_, rfl, gq hb95 rfl⟩⟩ ?_
      refine lk_skip (dt := some 51) R4_8_N rfl rfl ⟨_, rfl, .inl ⟨_, rfl, gq hb95 rfl⟩⟩ ?_
      refine lk (dt := some 52) R4_8_N rfl rfl rfl (ov_pickT rfl rfl rfl rfl rfl hb95 rfl) ?_
      refine aops_nil ?_
      exact S4_1_ok Q E  _ (Int.tmod (IntKind.i64.wrap n_0) 1500) (Int.tmod (IntKind.i64.wrap fuel_1) 2000) r85.1 true aw92 h5 h6 h7 rfl H
    · replace H := cnd_f H hb95
      refine lk (dt := some 44) R4_8_N rfl rfl ⟨_, rfl, .inl ⟨_, rfl, gq hb95 rfl⟩⟩ (opv_move rfl rfl h7) ?_
      refine lk (dt := some 45) R4_8_N rfl rfl ⟨_, rfl, .inl ⟨_, rfl, gq hb95 rfl⟩⟩ (opv_move rfl rfl h9) ?_
      obtain ⟨h196, H⟩ := H
      refine lk (dt := some 46) R4_8_N rfl rfl ⟨_, rfl, .inl ⟨_, rfl, gq hb95 rfl⟩⟩ (ov_bld (r := [.int .i64 0, p87]) rfl rfl bo43 (mp_cons rfl rfl) (fillP (cells_one h196) rfl rfl rfl (fillN rfl))) ?_
      refine lk (dt := some 47) R4_8_N rfl rfl ⟨_, rfl, .inl ⟨_, rfl, gq hb95 rfl⟩⟩ (opv_move rfl rfl rfl) ?_
      obtain ⟨h197, H⟩ := H
      refine lk (dt := some 48) R4_8_N rfl rfl ⟨_, rfl, .inl ⟨_, rfl, gq hb95 rfl⟩⟩ (ov_bld (r := [.int .i64 0, p91]) rfl rfl bo43 (mp_cons rfl rfl) (fillP (cells_one h197) rfl rfl rfl (fillN rfl))) ?_
      obtain ⟨p98, aw99, hp100, ha101, H⟩ := H
      refine lk (dt := some 49) R4_8_N rfl rfl ⟨_, rfl, .inl ⟨_, rfl, gq hb95 rfl⟩⟩ (ov_bsA (r := [.int .i64 0, p87, .int .i64 0, p91]) (vs := [.agg #[.int .i64 0, p87], .agg #[.int .i64 0, p91]]) rfl rfl underlying44 sz43 z43 rfl rfl rfl rfl rfl (mp_cons rfl (mp_cons rfl rfl)) (.cons (v := .agg #[.int .i64 0, p87]) (xs := [.int .i64 0, p87]) (r := [.int .i64 0, p91]) rfl rfl (.cons (v := .agg #[.int .i64 0, p91]) (xs := [.int .i64 0, p91]) (r := []) rfl rfl .nil)) hp100 ha101) ?_
      refine lk_call (dt := some 50) R4_8_N rfl rfl ⟨_, rfl, .inl ⟨_, rfl, gq hb95 rfl⟩⟩ (opc_of rfl rfl is16 (ma_cons rfl (ma_cons rfl rfl))) H (fun _ _ h => ⟨rfl, h⟩) fun r102 aw103 H => ?_
      refine lk (dt := some 51) R4_8_N rfl rfl ⟨_, rfl, .inl ⟨_, rfl, gq hb95 rfl⟩⟩ (opv_neI rfl rfl rfl rfl rfl) ?_
      refine lk (dt := some 52) R4_8_N rfl rfl rfl (ov_pickF rfl rfl rfl rfl rfl hb95 rfl) ?_
      refine aops_nil ?_
      exact S4_1_ok Q E  _ (Int.tmod (IntKind.i64.wrap n_0) 1500) (Int.tmod (IntKind.i64.wrap fuel_1) 2000) r85.1 (!decide (r102 = 0)) aw103 h5 h6 h7 rfl H
theorem F4_ok {Q : Bool → AW → Prop} {E : List PanicEntry → AW → Prop} (n_0 : Int) (fuel_1 : Int) (aw : AW) (H : S4_0 Q E n_0 fuel_1 aw) : CallP prog 4 [.int .u16 n_0, .int .u16 fuel_1] aw sh4 Q E :=
  callP_of func4 C4_is rfl (Nat.le_of_ble_eq_true rfl) (S4_0_ok Q E _ n_0 fuel_1 aw rfl rfl H)
end
end Go.Proofs.Tryd
