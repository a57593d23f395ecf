/- Printed by a program of the prover: what the Go functions of this seat do, in steps. -/
import Derived.Test.YtfoceofohlpafaaDoorMaF
set_option linter.unusedSectionVars false
set_option linter.unusedSimpArgs false
set_option linter.unusedVariables false
namespace Go.Proofs.Tryd
open Go Go.Am Go.RowKit
set_option maxHeartbeats 4000000
set_option maxRecDepth 100000
noncomputable section
variable [SymE]
def C14_0 : Code := bodyOf f14
theorem C14_is : f14.body = some C14_0 := by kernel_rfl
def C14_1 : Code := cl C14_0
def R14_0 : Array Oper := regOps C14_1
def C14_2 : Code := cr C14_0
def C14_3 : Code := cl C14_2
def R14_1 : Array Oper := regOps C14_3
def C14_4 : Code := cr C14_2
theorem R14_0_N : dstsOk 7 R14_0 = true := by decide +kernel
theorem E14_1 : C14_1 = .region 0 R14_0 false := rfl
theorem R14_1_N : dstsOk 7 R14_1 = true := by decide +kernel
theorem E14_3 : C14_3 = .region 1 R14_1 false := rfl
theorem E14_4 : C14_4 = .ret := rfl
theorem E14_2 : C14_2 = .seq C14_3 C14_4 := rfl
theorem E14_0 : C14_0 = .seq C14_1 C14_2 := rfl
def S14_0 (Q : Int → AW → Prop) (E : List PanicEntry → AW → Prop)  (n_0 : Int) (aw : AW) : Prop :=
  Q (bitsOf .or .u64 (IntKind.u64.wrap ((IntKind.u64.wrap n_0) * 2 ^ (min (1 : Int).toNat IntKind.u64.bits))) 1) aw
theorem S14_0_ok (Q : Int → AW → Prop) (E : List PanicEntry → AW → Prop)  (ρ : Env) (n_0 : Int) (aw : AW) (h0 : ρ 0 = .int .i64 n_0) (H : S14_0 Q E  n_0 aw) :
    AGo prog 7 [.code C14_0] ρ [] aw (RR prog f14 7 sh14 Q E) := by
  unfold S14_0 at H
  refine ago_seqE E14_0 ?_
  refine ago_regE E14_1 (l := [0]) rfl ?_
  refine lk (dt := some 2) R14_0_N rfl rfl rfl (opv_assign rfl rfl rfl) ?_
  refine aops_nil ?_
  refine ago_seqE E14_2 ?_
  refine ago_regE E14_3 (l := [0, 1, 2, 3, 4]) rfl ?_
  refine lk (dt := some 3) R14_1_N rfl rfl rfl (opv_move rfl rfl h0) ?_
  refine lk (dt := some 4) R14_1_N rfl rfl rfl (opv_conv rfl rfl underlying2 underlying26 rfl) ?_
  refine lk (dt := some 5) R14_1_N rfl rfl rfl (opv_shl rfl rfl rfl rfl rfl (by decide)) ?_
  refine lk (dt := some 6) R14_1_N rfl rfl rfl (opv_or rfl rfl rfl rfl rfl) ?_
  refine lk (dt := some 2) R14_1_N rfl rfl rfl (opv_assign rfl rfl rfl) ?_
  refine aops_nil ?_
  exact ago_retE E14_4 (r := (bitsOf .or .u64 (IntKind.u64.wrap ((IntKind.u64.wrap n_0) * 2 ^ (min (1 : Int).toNat IntKind.u64.bits))) 1)) (ares_1 rfl (oneT rfl)) rfl H
theorem F14_ok {Q : Int → AW → Prop} {E : List PanicEntry → AW → Prop} (n_0 : Int) (aw : AW) (H : S14_0 Q E n_0 aw) : CallP prog 14 [.int .i64 n_0] aw sh14 Q E :=
  callP_of func14 C14_is rfl (Nat.le_of_ble_eq_true rfl) (S14_0_ok Q E _ n_0 aw rfl H)
def C15_0 : Code := bodyOf f15
theorem C15_is : f15.body = some C15_0 := by kernel_rfl
def C15_1 : Code := cl C15_0
def R15_0 : Array Oper := regOps C15_1
def C15_2 : Code := cr C15_0
def C15_3 : Code := cl C15_2
def R15_1 : Array Oper := regOps C15_3
def C15_4 : Code := cr C15_2
def C15_5 : Code := cl C15_4
def C15_6 : Code := cl C15_5
def R15_2 : Array Oper := regOps C15_6
def C15_7 : Code := cr C15_5
def C15_8 : Code := cl C15_7
def C15_9 : Code := cl C15_8
def R15_3 : Array Oper := regOps C15_9
def C15_10 : Code := cr C15_8
def C15_11 : Code := cr C15_7
def C15_12 : Code := cr C15_4
def C15_13 : Code := cl C15_12
def R15_4 : Array Oper := regOps C15_13
def C15_14 : Code := cr C15_12
def C15_15 : Code := cl C15_14
def C15_16 : Code := cl C15_15
def R15_5 : Array Oper := regOps C15_16
def C15_17 : Code := cr C15_15
def C15_18 : Code := cl C15_17
def C15_19 : Code := cl C15_18
def C15_20 : Code := cl C15_19
def R15_6 : Array Oper := regOps C15_20
def C15_21 : Code := cr C15_19
def C15_22 : Code := cl C15_21
def C15_23 : Code := cl C15_22
def C15_24 : Code := cr C15_22
def C15_25 : Code := cr C15_21
def C15_26 : Code := cl C15_25
def C15_27 : Code := cl C15_26
def C15_28 : Code := cl C15_27
def R15_7 : Array Oper := regOps C15_28
def C15_29 : Code := cr C15_27
def C15_30 : Code := cl C15_29
def R15_8 : Array Oper := regOps C15_30
def C15_31 : Code := cr C15_29
def C15_32 : Code := cl C15_31
def C15_33 : Code := cl C15_32
def R15_9 : Array Oper := regOps C15_33
def C15_34 : Code := cr C15_32
def C15_35 : Code := cl C15_34
def C15_36 : Code := cl C15_35
def R15_10 : Array Oper := regOps C15_36
def C15_37 : Code := cr C15_35
def C15_38 : Code := cr C15_34
def C15_39 : Code := cr C15_31
def R15_11 : Array Oper := regOps C15_39
def C15_40 : Code := cr C15_25
def R15_12 : Array Oper := regOps C15_40
def C15_41 : Code := cr C15_14
def C15_42 : Code := cl C15_41
def R15_13 : Array Oper := regOps C15_42
def C15_43 : Code := cr C15_41
theorem R15_0_N : dstsOk 52 R15_0 = true := by decide +kernel
theorem E15_1 : C15_1 = .region 0 R15_0 false := rfl
theorem R15_1_N : dstsOk 52 R15_1 = true := by decide +kernel
theorem E15_3 : C15_3 = .region 1 R15_1 false := rfl
theorem R15_2_N : dstsOk 52 R15_2 = true := by decide +kernel
theorem E15_6 : C15_6 = .region 2 R15_2 false := rfl
theorem R15_3_N : dstsOk 52 R15_3 = true := by decide +kernel
theorem E15_9 : C15_9 = .region 3 R15_3 false := rfl
theorem E15_10 : C15_10 = .ret := rfl
theorem E15_8 : C15_8 = .seq C15_9 C15_10 := rfl
theorem E15_11 : C15_11 = .skip := rfl
theorem E15_7 : C15_7 = .cond (.tmp 18) C15_8 C15_11 := rfl
theorem E15_5 : C15_5 = .seq C15_6 C15_7 := rfl
theorem R15_4_N : dstsOk 52 R15_4 = true := by decide +kernel
theorem E15_13 : C15_13 = .region 4 R15_4 false := rfl
theorem R15_5_N : dstsOk 52 R15_5 = true := by decide +kernel
theorem E15_16 : C15_16 = .region 5 R15_5 false := rfl
theorem R15_6_N : dstsOk 52 R15_6 = true := by decide +kernel
theorem E15_20 : C15_20 = .region 6 R15_6 false := rfl
theorem E15_23 : C15_23 = .skip := rfl
theorem E15_24 : C15_24 = .exit 0 := rfl
theorem E15_22 : C15_22 = .cond (.tmp 25) C15_23 C15_24 := rfl
theorem R15_7_N : dstsOk 52 R15_7 = true := by decide +kernel
theorem E15_28 : C15_28 = .region 7 R15_7 false := rfl
theorem R15_8_N : dstsOk 52 R15_8 = true := by decide +kernel
theorem E15_30 : C15_30 = .region 8 R15_8 false := rfl
theorem R15_9_N : dstsOk 52 R15_9 = true := by decide +kernel
theorem E15_33 : C15_33 = .region 9 R15_9 false := rfl
theorem R15_10_N : dstsOk 52 R15_10 = true := by decide +kernel
theorem E15_36 : C15_36 = .region 10 R15_10 false := rfl
theorem E15_37 : C15_37 = .ret := rfl
theorem E15_35 : C15_35 = .seq C15_36 C15_37 := rfl
theorem E15_38 : C15_38 = .skip := rfl
theorem E15_34 : C15_34 = .cond (.tmp 38) C15_35 C15_38 := rfl
theorem E15_32 : C15_32 = .seq C15_33 C15_34 := rfl
theorem R15_11_N : dstsOk 52 R15_11 = true := by decide +kernel
theorem E15_39 : C15_39 = .region 11 R15_11 false := rfl
theorem E15_31 : C15_31 = .seq C15_32 C15_39 := rfl
theorem E15_29 : C15_29 = .seq C15_30 C15_31 := rfl
theorem E15_27 : C15_27 = .seq C15_28 C15_29 := rfl
theorem E15_26 : C15_26 = .block 1 C15_27 := rfl
theorem R15_12_N : dstsOk 52 R15_12 = true := by decide +kernel
theorem E15_40 : C15_40 = .region 12 R15_12 false := rfl
theorem E15_25 : C15_25 = .seq C15_26 C15_40 := rfl
theorem E15_21 : C15_21 = .seq C15_22 C15_25 := rfl
theorem E15_19 : C15_19 = .seq C15_20 C15_21 := rfl
theorem E15_18 : C15_18 = .loop C15_19 := rfl
theorem E15_17 : C15_17 = .block 0 C15_18 := rfl
theorem E15_15 : C15_15 = .seq C15_16 C15_17 := rfl
theorem R15_13_N : dstsOk 52 R15_13 = true := by decide +kernel
theorem E15_42 : C15_42 = .region 13 R15_13 false := rfl
theorem E15_43 : C15_43 = .ret := rfl
theorem E15_41 : C15_41 = .seq C15_42 C15_43 := rfl
theorem E15_14 : C15_14 = .seq C15_15 C15_41 := rfl
theorem E15_12 : C15_12 = .seq C15_13 C15_14 := rfl
theorem E15_4 : C15_4 = .seq C15_5 C15_12 := rfl
theorem E15_2 : C15_2 = .seq C15_3 C15_4 := rfl
theorem E15_0 : C15_0 = .seq C15_1 C15_2 := rfl
def S15_1s (Q : (Value × Int) → AW → Prop) (E : List PanicEntry → AW → Prop)  (nx1 : Value → Value → Int → Int → AW → Prop) (h_6 : Value) (m_8 : Value) (t_23 : Int) (t_24 : Int) (aw : AW) : Prop :=
  cnd (decide (t_24 < t_23)) (CallP prog 14 [.int .i64 t_24] aw sh14 (fun r2 aw3 =>
  alcS aw3 [.int .u64 r2] 26 1 1 fun p4 aw5 =>
  CallP prog 31 [m_8] aw5 sh31 (fun r8 aw9 =>
  CallP prog 30 [h_6, .int .u8 6, p4, r8] aw9 sh30 (fun r10 aw11 =>
  cnd (!decide (r10.2 = 0)) (Q ((.pointer none), r10.2) aw11) (nck m_8 (fldA m_8 2 fun p14 =>
  ldV aw11 p14 fun x22 =>
  alcS aw11 [.int .u64 r10.1] 26 1 1 fun p24 aw25 =>
  app aw25 26 1 8 x22 p24 fun v28 aw29 =>
  nck m_8 (fldA m_8 2 fun p32 =>
  st aw29 p32 [v28] fun aw37 =>
  nx1 h_6 m_8 t_23 (IntKind.i64.wrap (t_24 + 1)) aw37)))) E) E) E) (Q (m_8, 0) aw)
def S15_1 (Q : (Value × Int) → AW → Prop) (E : List PanicEntry → AW → Prop)  : Nat → Value → Value → Int → Int → AW → Prop
  | 0 => fun _ _ _ _ _ => False
  | n + 1 => S15_1s Q E  (S15_1 Q E  n)
def S15_0 (Q : (Value × Int) → AW → Prop) (E : List PanicEntry → AW → Prop)  (quota_0 : Int) (prims_1 : Int) (aw : AW) : Prop :=
  CallP prog 28 [.int .i64 quota_0] aw sh28 (fun r44 aw45 =>
  cnd (!decide (r44.2 = 0)) (Q ((.pointer none), r44.2) aw45) (one r44.1 = true ∧ alc aw45 [r44.1, (.slice none 0 0), (.slice none 0 0), (.slice none 0 0), (.slice none 0 0), (.slice none 0 0), .int .i64 0, .int .i64 0, .int .i64 0, (.pointer none), (.slice none 0 0), (.slice none 0 0)] 77 0 fun p48 aw49 =>
  ∃ n, S15_1 Q E  n r44.1 p48 prims_1 0 aw49)) E
theorem S15_1s_ok (Q : (Value × Int) → AW → Prop) (E : List PanicEntry → AW → Prop)  (nx1 : Value → Value → Int → Int → AW → Prop) (L1 : ∀ (ρ : Env) (h_6 : Value) (m_8 : Value) (t_23 : Int) (t_24 : Int) (aw : AW) (h6 : ρ 6 = h_6) (h8 : ρ 8 = m_8) (h23 : ρ 23 = .int .i64 t_23) (h24 : ρ 24 = .int .i64 t_24), nx1 h_6 m_8 t_23 t_24 aw → AGo prog 52 [.code C15_19, .inLoop C15_19, .inBlock 0, .code C15_41] ρ [] aw (RR prog f15 52 sh15 Q E)) (ρ : Env) (h_6 : Value) (m_8 : Value) (t_23 : Int) (t_24 : Int) (aw : AW) (h6 : ρ 6 = h_6) (h8 : ρ 8 = m_8) (h23 : ρ 23 = .int .i64 t_23) (h24 : ρ 24 = .int .i64 t_24) (H : S15_1s Q E  nx1 h_6 m_8 t_23 t_24 aw) :
    AGo prog 52 [.code C15_19, .inLoop C15_19, .inBlock 0, .code C15_41] ρ [] aw (RR prog f15 52 sh15 Q E) := by
  unfold S15_1s at H
  refine ago_seqE E15_19 ?_
  refine ago_regE E15_20 (l := [0]) rfl ?_
  refine lk (dt := some 25) R15_6_N rfl rfl rfl (opv_lt rfl rfl rfl h24 h23) ?_
  refine aops_nil ?_
  refine ago_seqE E15_21 ?_
  refine ago_condE  E15_22 rfl rfl (fun hb1 => ?_) (fun hb1 => ?_)
  · replace H := cnd_t H hb1
    refine ago_skipE E15_23 ?_
    refine ago_seqE E15_25 ?_
    refine ago_blockE E15_26 ?_
    refine ago_seqE E15_27 ?_
    refine ago_regE E15_28 (l := [0, 1]) rfl ?_
    refine lk (dt := some 26) R15_7_N rfl rfl rfl (opv_move rfl rfl h24) ?_
    refine lk (dt := some 9) R15_7_N rfl rfl rfl (opv_assign rfl rfl rfl) ?_
    refine aops_nil ?_
    refine ago_seqE E15_29 ?_
    refine ago_regE E15_30 (l := [0, 1, 2, 3, 4, 5, 6, 7, 8, 9, 10, 11]) rfl ?_
    refine lk (dt := some 28) R15_8_N rfl rfl rfl (opv_move rfl rfl h6) ?_
    refine lk (dt := some 29) R15_8_N rfl rfl rfl (opv_move rfl rfl rfl) ?_
    refine lk_call (dt := some 30) R15_8_N rfl rfl rfl (opc_of rfl rfl is14 (ma_cons rfl rfl)) H (fun _ _ h => ⟨rfl, h⟩) fun r2 aw3 H => ?_
    obtain ⟨p4, aw5, hp6, ha7, H⟩ := H
    refine lk (dt := some 31) R15_8_N rfl rfl rfl (ov_bsA (r := [.int .u64 r2]) (vs := [.int .u64 r2]) rfl rfl underlying62 sz26 z26 rfl rfl rfl rfl rfl (mp_cons rfl rfl) (.one rfl .nil) hp6 ha7) ?_
    refine lk (dt := some 32) R15_8_N rfl rfl rfl (opv_move rfl rfl h8) ?_
    refine lk_call (dt := some 33) R15_8_N rfl rfl rfl (opc_of rfl rfl is31 (ma_cons rfl rfl)) H (fun _ _ h => ⟨rfl, h⟩) fun r8 aw9 H => ?_
    refine lk_call (dt := some 34) R15_8_N rfl rfl rfl (opc_of rfl rfl is30 (ma_cons rfl (ma_cons rfl (ma_cons rfl (ma_cons rfl rfl))))) H (fun _ _ h => ⟨rfl, h⟩) fun r10 aw11 H => ?_
    refine lk (dt := some 27) R15_8_N rfl rfl rfl (opv_move rfl rfl rfl) ?_
    refine lk (dt := some 35) R15_8_N rfl rfl rfl (opv_extract rfl rfl rfl rfl) ?_
    refine lk (dt := some 36) R15_8_N rfl rfl rfl (opv_extract rfl rfl rfl rfl) ?_
    refine lk (dt := some 10) R15_8_N rfl rfl rfl (opv_assign rfl rfl rfl) ?_
    refine lk (dt := some 11) R15_8_N rfl rfl rfl (opv_assign rfl rfl rfl) ?_
    refine aops_nil ?_
    refine ago_seqE E15_31 ?_
    refine ago_seqE E15_32 ?_
    refine ago_cut (fun ρ => ρ 6 = h_6 ∧ ρ 8 = m_8 ∧ ρ 10 = .int .u64 r10.1 ∧ ρ 11 = .int .i64 r10.2 ∧ ρ 23 = .int .i64 t_23 ∧ ρ 24 = .int .i64 t_24 ∧ True) ⟨h6, h8, rfl, rfl, h23, h24, trivial⟩ (fun ρ ⟨h6, h8, h10, h11, h23, h24, _⟩ => ?_)
    refine ago_regE E15_33 (l := [0, 1]) rfl ?_
    refine lk (dt := some 37) R15_9_N rfl rfl rfl (opv_move rfl rfl h11) ?_
    refine lk (dt := some 38) R15_9_N rfl rfl rfl (opv_neI rfl rfl rfl rfl rfl) ?_
    refine aops_nil ?_
    refine ago_condE  E15_34 rfl rfl (fun hb12 => ?_) (fun hb12 => ?_)
    · replace H := cnd_t H hb12
      refine ago_seqE E15_35 ?_
      refine ago_regE E15_36 (l := [0, 1, 2]) rfl ?_
      refine lk (dt := some 39) R15_10_N rfl rfl rfl (opv_move rfl rfl h11) ?_
      refine lk (dt := some 4) R15_10_N rfl rfl rfl (opv_assign rfl rfl rfl) ?_
      refine lk (dt := some 5) R15_10_N rfl rfl rfl (opv_assign rfl rfl rfl) ?_
      refine aops_nil ?_
      exact ago_retE E15_37 (r := ((.pointer none), r10.2)) (ares_2 rfl (oneT rfl) (oneT rfl)) rfl H
    · replace H := cnd_f H hb12
      refine ago_skipE E15_38 ?_
      refine ago_regE E15_39 (l := [0, 1, 2, 3, 4, 5, 6, 7, 8, 9, 10]) rfl ?_
      refine lk (dt := some 40) R15_11_N rfl rfl rfl (opv_move rfl rfl h8) ?_
      refine lk (dt := some 41) R15_11_N rfl rfl rfl (opv_move rfl rfl h8) ?_
      obtain ⟨hp13, H⟩ := H
      refine lk (dt := some 42) R15_11_N rfl rfl rfl (ov_nck rfl rfl rfl hp13) ?_
      obtain ⟨b15, i16, p14, hp17, hv18, H⟩ := H
      refine lk (dt := some 43) R15_11_N rfl rfl rfl (ov_fldA rfl rfl underlying77 rfl sz62 (by decide) rfl hp17 rfl hv18) ?_
      obtain ⟨b19, i20, x22, hp21, hg23, H⟩ := H
      refine lk (dt := some 44) R15_11_N rfl rfl rfl (ov_ldV rfl underlying62 rfl rfl rfl hp21 hg23) ?_
      refine lk (dt := some 45) R15_11_N rfl rfl rfl (opv_move rfl rfl h10) ?_
      obtain ⟨p24, aw25, hp26, ha27, H⟩ := H
      refine lk (dt := some 46) R15_11_N rfl rfl rfl (ov_bsA (r := [.int .u64 r10.1]) (vs := [.int .u64 r10.1]) rfl rfl underlying62 sz26 z26 rfl rfl rfl rfl rfl (mp_cons rfl rfl) (.one rfl .nil) hp26 ha27) ?_
      obtain ⟨v28, aw29, hq30, H⟩ := H
      refine lk (dt := some 47) R15_11_N rfl rfl rfl (ov_app rfl rfl rfl rfl underlying62 sz26 by26 underlying62 rfl z26 rfl (by decide) (by decide) rfl rfl hq30) ?_
      obtain ⟨hp31, H⟩ := H
      refine lk (dt := some 48) R15_11_N rfl rfl rfl (ov_nck rfl rfl rfl hp31) ?_
      obtain ⟨b33, i34, p32, hp35, hv36, H⟩ := H
      refine lk (dt := some 49) R15_11_N rfl rfl rfl (ov_fldA rfl rfl underlying77 rfl sz62 (by decide) rfl hp35 rfl hv36) ?_
      obtain ⟨b38, i39, aw37, hp40, hw41, ho42, ha43, H⟩ := H
      refine lk (dt := none) R15_11_N rfl rfl rfl (ov_st rfl rfl rfl rfl rfl (cells_all ho42) sz62 hp40 hw41 ho42 ha43) ?_
      refine aops_nil ?_
      refine ago_inBlock ?_
      refine ago_cut (fun ρ => ρ 6 = h_6 ∧ ρ 8 = m_8 ∧ ρ 23 = .int .i64 t_23 ∧ ρ 24 = .int .i64 t_24 ∧ True) ⟨h6, h8, h23, h24, trivial⟩ (fun ρ ⟨h6, h8, h23, h24, _⟩ => ?_)
      refine ago_regE E15_40 (l := [0, 1]) rfl ?_
      refine lk (dt := some 50) R15_12_N rfl rfl rfl (opv_add rfl rfl rfl h24 rfl) ?_
      refine lk (dt := some 24) R15_12_N rfl rfl rfl (opv_move rfl rfl rfl) ?_
      refine aops_nil ?_
      refine ago_inLoop ?_
      exact L1 _ h_6 m_8 t_23 (IntKind.i64.wrap (t_24 + 1)) aw37 h6 h8 h23 rfl H
  · replace H := cnd_f H hb1
    refine ago_exitE E15_24 rfl ?_
    refine ago_seqE E15_41 ?_
    refine ago_regE E15_42 (l := [0, 1, 2]) rfl ?_
    refine lk (dt := some 51) R15_13_N rfl rfl rfl (opv_move rfl rfl h8) ?_
    refine lk (dt := some 4) R15_13_N rfl rfl rfl (opv_assign rfl rfl rfl) ?_
    refine lk (dt := some 5) R15_13_N rfl rfl rfl (opv_assign rfl rfl rfl) ?_
    refine aops_nil ?_
    exact ago_retE E15_43 (r := (m_8, 0)) (ares_2 rfl (oneT rfl) (oneT rfl)) rfl H
theorem S15_1_ok (Q : (Value × Int) → AW → Prop) (E : List PanicEntry → AW → Prop)  : ∀ (n : Nat) (ρ : Env) (h_6 : Value) (m_8 : Value) (t_23 : Int) (t_24 : Int) (aw : AW) (h6 : ρ 6 = h_6) (h8 : ρ 8 = m_8) (h23 : ρ 23 = .int .i64 t_23) (h24 : ρ 24 = .int .i64 t_24), S15_1 Q E  n h_6 m_8 t_23 t_24 aw →
    AGo prog 52 [.code C15_19, .inLoop C15_19, .inBlock 0, .code C15_41] ρ [] aw (RR prog f15 52 sh15 Q E)
  | 0, _, _, _, _, _, _, _, _, _, _ => fun H => H.elim
  | n + 1, ρ, h_6, m_8, t_23, t_24, aw, h6, h8, h23, h24 => fun H => S15_1s_ok Q E  _ (S15_1_ok Q E  n) ρ h_6 m_8 t_23 t_24 aw h6 h8 h23 h24 H
theorem S15_0_ok (Q : (Value × Int) → AW → Prop) (E : List PanicEntry → AW → Prop)  (ρ : Env) (quota_0 : Int) (prims_1 : Int) (aw : AW) (h0 : ρ 0 = .int .i64 quota_0) (h1 : ρ 1 = .int .i64 prims_1) (H : S15_0 Q E  quota_0 prims_1 aw) :
    AGo prog 52 [.code C15_0] ρ [] aw (RR prog f15 52 sh15 Q E) := by
  unfold S15_0 at H
  refine ago_seqE E15_0 ?_
  refine ago_regE E15_1 (l := [0, 1]) rfl ?_
  refine lk (dt := some 4) R15_0_N rfl rfl rfl (opv_assign rfl rfl rfl) ?_
  refine lk (dt := some 5) R15_0_N rfl rfl rfl (opv_assign rfl rfl rfl) ?_
  refine aops_nil ?_
  refine ago_seqE E15_2 ?_
  refine ago_regE E15_3 (l := [0, 1, 2, 3, 4, 5, 6]) rfl ?_
  refine lk (dt := some 13) R15_1_N rfl rfl rfl (opv_move rfl rfl h0) ?_
  refine lk_call (dt := some 14) R15_1_N rfl rfl rfl (opc_of rfl rfl is28 (ma_cons rfl rfl)) H (fun _ _ h => ⟨rfl, h⟩) fun r44 aw45 H => ?_
  refine lk (dt := some 12) R15_1_N rfl rfl rfl (opv_move rfl rfl rfl) ?_
  refine lk (dt := some 15) R15_1_N rfl rfl rfl (opv_extract rfl rfl rfl rfl) ?_
  refine lk (dt := some 16) R15_1_N rfl rfl rfl (opv_extract rfl rfl rfl rfl) ?_
  refine lk (dt := some 6) R15_1_N rfl rfl rfl (opv_assign rfl rfl rfl) ?_
  refine lk (dt := some 7) R15_1_N rfl rfl rfl (opv_assign rfl rfl rfl) ?_
  refine aops_nil ?_
  refine ago_seqE E15_4 ?_
  refine ago_seqE E15_5 ?_
  refine ago_regE E15_6 (l := [0, 1]) rfl ?_
  refine lk (dt := some 17) R15_2_N rfl rfl rfl (opv_move rfl rfl rfl) ?_
  refine lk (dt := some 18) R15_2_N rfl rfl rfl (opv_neI rfl rfl rfl rfl rfl) ?_
  refine aops_nil ?_
  refine ago_condE  E15_7 rfl rfl (fun hb46 => ?_) (fun hb46 => ?_)
  · replace H := cnd_t H hb46
    refine ago_seqE E15_8 ?_
    refine ago_regE E15_9 (l := [0, 1, 2]) rfl ?_
    refine lk (dt := some 19) R15_3_N rfl rfl rfl (opv_move rfl rfl rfl) ?_
    refine lk (dt := some 4) R15_3_N rfl rfl rfl (opv_assign rfl rfl rfl) ?_
    refine lk (dt := some 5) R15_3_N rfl rfl rfl (opv_assign rfl rfl rfl) ?_
    refine aops_nil ?_
    exact ago_retE E15_10 (r := ((.pointer none), r44.2)) (ares_2 rfl (oneT rfl) (oneT rfl)) rfl H
  · replace H := cnd_f H hb46
    refine ago_skipE E15_11 ?_
    refine ago_seqE E15_12 ?_
    refine ago_regE E15_13 (l := [0, 1, 2, 3]) rfl ?_
    refine lk (dt := some 20) R15_4_N rfl rfl rfl (opv_move rfl rfl rfl) ?_
    obtain ⟨h147, H⟩ := H
    refine lk (dt := some 21) R15_4_N rfl rfl rfl (ov_bld (r := [r44.1, (.slice none 0 0), (.slice none 0 0), (.slice none 0 0), (.slice none 0 0), (.slice none 0 0), .int .i64 0, .int .i64 0, .int .i64 0, (.pointer none), (.slice none 0 0), (.slice none 0 0)]) rfl rfl bo77 (mp_cons rfl rfl) (fillP (cells_one h147) rfl rfl rfl (fillN rfl))) ?_
    obtain ⟨p48, aw49, hp50, ha51, H⟩ := H
    refine lk (dt := some 22) R15_4_N rfl rfl rfl (ov_box rfl rfl rfl rfl hp50 ha51) ?_
    refine lk (dt := some 8) R15_4_N rfl rfl rfl (opv_assign rfl rfl rfl) ?_
    refine aops_nil ?_
    refine ago_seqE E15_14 ?_
    refine ago_seqE E15_15 ?_
    refine ago_cut (fun ρ => ρ 1 = .int .i64 prims_1 ∧ ρ 6 = r44.1 ∧ ρ 8 = p48 ∧ True) ⟨h1, rfl, rfl, trivial⟩ (fun ρ ⟨h1, h6, h8, _⟩ => ?_)
    refine ago_regE E15_16 (l := [0, 1]) rfl ?_
    refine lk (dt := some 23) R15_5_N rfl rfl rfl (opv_move rfl rfl h1) ?_
    refine lk (dt := some 24) R15_5_N rfl rfl rfl (opv_move rfl rfl rfl) ?_
    refine aops_nil ?_
    refine ago_blockE E15_17 ?_
    refine ago_loopE E15_18 ?_
    obtain ⟨n, H⟩ := H
    exact S15_1_ok Q E  n _ r44.1 p48 prims_1 0 aw49 h6 h8 rfl rfl H
theorem F15_ok {Q : (Value × Int) → AW → Prop} {E : List PanicEntry → AW → Prop} (quota_0 : Int) (prims_1 : Int) (aw : AW) (H : S15_0 Q E quota_0 prims_1 aw) : CallP prog 15 [.int .i64 quota_0, .int .i64 prims_1] aw sh15 Q E :=
  callP_of func15 C15_is rfl (Nat.le_of_ble_eq_true rfl) (S15_0_ok Q E _ quota_0 prims_1 aw rfl rfl H)
def C16_0 : Code := bodyOf f16
theorem C16_is : f16.body = some C16_0 := by kernel_rfl
def C16_1 : Code := cl C16_0
def R16_0 : Array Oper := regOps C16_1
def C16_2 : Code := cr C16_0
def C16_3 : Code := cl C16_2
def C16_4 : Code := cl C16_3
def C16_5 : Code := cl C16_4
def R16_1 : Array Oper := regOps C16_5
def C16_6 : Code := cr C16_4
def C16_7 : Code := cl C16_6
def C16_8 : Code := cl C16_7
def R16_2 : Array Oper := regOps C16_8
def C16_9 : Code := cr C16_7
def C16_10 : Code := cr C16_6
def C16_11 : Code := cl C16_10
def R16_3 : Array Oper := regOps C16_11
def C16_12 : Code := cr C16_10
def C16_13 : Code := cl C16_12
def C16_14 : Code := cl C16_13
def R16_4 : Array Oper := regOps C16_14
def C16_15 : Code := cr C16_13
def C16_16 : Code := cr C16_12
def C16_17 : Code := cl C16_16
def R16_5 : Array Oper := regOps C16_17
def C16_18 : Code := cr C16_16
def C16_19 : Code := cl C16_18
def C16_20 : Code := cl C16_19
def R16_6 : Array Oper := regOps C16_20
def C16_21 : Code := cr C16_19
def C16_22 : Code := cr C16_18
def C16_23 : Code := cr C16_2
def C16_24 : Code := cl C16_23
def R16_7 : Array Oper := regOps C16_24
def C16_25 : Code := cr C16_23
def C16_26 : Code := cl C16_25
def R16_8 : Array Oper := regOps C16_26
def C16_27 : Code := cr C16_25
theorem R16_0_N : dstsOk 42 R16_0 = true := by decide +kernel
theorem E16_1 : C16_1 = .region 0 R16_0 false := rfl
theorem R16_1_N : dstsOk 42 R16_1 = true := by decide +kernel
theorem E16_5 : C16_5 = .region 1 R16_1 false := rfl
theorem R16_2_N : dstsOk 42 R16_2 = true := by decide +kernel
theorem E16_8 : C16_8 = .region 2 R16_2 false := rfl
theorem E16_9 : C16_9 = .ret := rfl
theorem E16_7 : C16_7 = .seq C16_8 C16_9 := rfl
theorem R16_3_N : dstsOk 42 R16_3 = true := by decide +kernel
theorem E16_11 : C16_11 = .region 3 R16_3 false := rfl
theorem R16_4_N : dstsOk 42 R16_4 = true := by decide +kernel
theorem E16_14 : C16_14 = .region 4 R16_4 false := rfl
theorem E16_15 : C16_15 = .ret := rfl
theorem E16_13 : C16_13 = .seq C16_14 C16_15 := rfl
theorem R16_5_N : dstsOk 42 R16_5 = true := by decide +kernel
theorem R16_5_O : linOk R16_5 [0, 1, 2, 3, 4, 7, 8, 9, 10, 11] [(5, [7, 8, 9, 10, 11], []), (6, [7, 8, 9, 10, 11], []), (12, [], [13, 14])] = true := by decide +kernel
theorem E16_17 : C16_17 = .region 5 R16_5 true := rfl
theorem R16_6_N : dstsOk 42 R16_6 = true := by decide +kernel
theorem E16_20 : C16_20 = .region 6 R16_6 false := rfl
theorem E16_21 : C16_21 = .ret := rfl
theorem E16_19 : C16_19 = .seq C16_20 C16_21 := rfl
theorem E16_22 : C16_22 = .skip := rfl
theorem E16_18 : C16_18 = .cond (.tmp 18) C16_19 C16_22 := rfl
theorem E16_16 : C16_16 = .seq C16_17 C16_18 := rfl
theorem E16_12 : C16_12 = .cond (.tmp 8) C16_13 C16_16 := rfl
theorem E16_10 : C16_10 = .seq C16_11 C16_12 := rfl
theorem E16_6 : C16_6 = .cond (.tmp 5) C16_7 C16_10 := rfl
theorem E16_4 : C16_4 = .seq C16_5 C16_6 := rfl
theorem E16_3 : C16_3 = .block 0 C16_4 := rfl
theorem R16_7_N : dstsOk 42 R16_7 = true := by decide +kernel
theorem E16_24 : C16_24 = .region 7 R16_7 false := rfl
theorem R16_8_N : dstsOk 42 R16_8 = true := by decide +kernel
theorem E16_26 : C16_26 = .region 8 R16_8 false := rfl
theorem E16_27 : C16_27 = .ret := rfl
theorem E16_25 : C16_25 = .seq C16_26 C16_27 := rfl
theorem E16_23 : C16_23 = .seq C16_24 C16_25 := rfl
theorem E16_2 : C16_2 = .seq C16_3 C16_23 := rfl
theorem E16_0 : C16_0 = .seq C16_1 C16_2 := rfl
def S16_0 (Q : Int → AW → Prop) (E : List PanicEntry → AW → Prop)  (m_0 : Value) (l_1 : Value) (aw : AW) : Prop :=
  nilB (.pointer 77) m_0 (.pointer none) fun q1 =>
  cnd q1 (Q 6 aw) (nck m_0 (fldA m_0 1 fun p6 =>
  ldV aw p6 fun x14 =>
  slen x14 fun n16 =>
  slen l_1 fun n22 =>
  cnd (decide (4000 < (IntKind.i64.wrap (n16 + n22)))) (Q 2 aw) (nck m_0 (fldA m_0 1 fun p30 =>
  ldV aw p30 fun x38 =>
  nck m_0 (fldA m_0 2 fun p41 =>
  ldV aw p41 fun x49 =>
  slen x49 fun n51 =>
  one x38 = true ∧ one l_1 = true ∧ alcS aw [x38, l_1] 44 1 2 fun p57 aw58 =>
  again1 aw58 p41 (x49) ∧ CallP prog 32 [p57] aw58 sh32 (fun r63 aw64 =>
  again1 aw64 p41 (x49) ∧ CallP prog 21 [r63, .int .i64 n51] aw64 sh21 (fun r65 aw66 =>
  cnd (!r65) (Q 3 aw66) (nck m_0 (fldA m_0 1 fun p69 =>
  ldV aw66 p69 fun x77 =>
  app aw66 43 2 32 x77 l_1 fun v79 aw80 =>
  nck m_0 (fldA m_0 1 fun p83 =>
  st aw80 p83 [v79] fun aw88 =>
  Q 0 aw88)))) E) E)))))
theorem S16_0_ok (Q : Int → AW → Prop) (E : List PanicEntry → AW → Prop)  (ρ : Env) (m_0 : Value) (l_1 : Value) (aw : AW) (h0 : ρ 0 = m_0) (h1 : ρ 1 = l_1) (H : S16_0 Q E  m_0 l_1 aw) :
    AGo prog 42 [.code C16_0] ρ [] aw (RR prog f16 42 sh16 Q E) := by
  unfold S16_0 at H
  refine ago_seqE E16_0 ?_
  refine ago_regE E16_1 (l := [0]) rfl ?_
  refine lk (dt := some 4) R16_0_N rfl rfl rfl (opv_assign rfl rfl rfl) ?_
  refine aops_nil ?_
  refine ago_seqE E16_2 ?_
  refine ago_blockE E16_3 ?_
  refine ago_seqE E16_4 ?_
  refine ago_regE E16_5 (l := [0, 1, 2]) rfl ?_
  refine lk (dt := some 6) R16_1_N rfl rfl rfl (opv_move rfl rfl h0) ?_
  obtain ⟨q1, hf2, hq3, H⟩ := H
  refine lk (dt := some 7) R16_1_N rfl rfl rfl (ov_eqNil rfl rfl underlying30 rfl hf2 hq3) ?_
  refine lk (dt := some 5) R16_1_N rfl rfl rfl (opv_assign rfl rfl rfl) ?_
  refine aops_nil ?_
  refine ago_condE  E16_6 rfl rfl (fun hb4 => ?_) (fun hb4 => ?_)
  · replace H := cnd_t H hb4
    refine ago_seqE E16_7 ?_
    refine ago_regE E16_8 (l := [0]) rfl ?_
    refine lk (dt := some 4) R16_2_N rfl rfl rfl (opv_assign rfl rfl rfl) ?_
    refine aops_nil ?_
    exact ago_retE E16_9 (r := 6) (ares_1 rfl (oneT rfl)) rfl H
  · replace H := cnd_f H hb4
    refine ago_seqE E16_10 ?_
    refine ago_regE E16_11 (l := [0, 1, 2, 3, 4, 5, 6, 7, 8, 9]) rfl ?_
    refine lk (dt := some 9) R16_3_N rfl rfl rfl (opv_move rfl rfl h0) ?_
    obtain ⟨hp5, H⟩ := H
    refine lk (dt := some 10) R16_3_N rfl rfl rfl (ov_nck rfl rfl rfl hp5) ?_
    obtain ⟨b7, i8, p6, hp9, hv10, H⟩ := H
    refine lk (dt := some 11) R16_3_N rfl rfl rfl (ov_fldA rfl rfl underlying77 rfl sz44 (by decide) rfl hp9 rfl hv10) ?_
    obtain ⟨b11, i12, x14, hp13, hg15, H⟩ := H
    refine lk (dt := some 12) R16_3_N rfl rfl rfl (ov_ldV rfl underlying44 rfl rfl rfl hp13 hg15) ?_
    obtain ⟨q17, l18, c19, n16, hv20, hn21, H⟩ := H
    refine lk (dt := some 13) R16_3_N rfl rfl rfl (ov_len rfl rfl rfl underlying44 rfl hv20 hn21) ?_
    refine lk (dt := some 14) R16_3_N rfl rfl rfl (opv_move rfl rfl h1) ?_
    obtain ⟨q23, l24, c25, n22, hv26, hn27, H⟩ := H
    refine lk (dt := some 15) R16_3_N rfl rfl rfl (ov_len rfl rfl rfl underlying44 rfl hv26 hn27) ?_
    refine lk (dt := some 16) R16_3_N rfl rfl rfl (opv_add rfl rfl rfl rfl rfl) ?_
    refine lk (dt := some 17) R16_3_N rfl rfl rfl (opv_gt rfl rfl rfl rfl rfl) ?_
    refine lk (dt := some 8) R16_3_N rfl rfl rfl (opv_assign rfl rfl rfl) ?_
    refine aops_nil ?_
    refine ago_condE  E16_12 rfl rfl (fun hb28 => ?_) (fun hb28 => ?_)
    · replace H := cnd_t H hb28
      refine ago_seqE E16_13 ?_
      refine ago_regE E16_14 (l := [0]) rfl ?_
      refine lk (dt := some 4) R16_4_N rfl rfl rfl (opv_assign rfl rfl rfl) ?_
      refine aops_nil ?_
      exact ago_retE E16_15 (r := 2) (ares_1 rfl (oneT rfl)) rfl H
    · replace H := cnd_f H hb28
      refine ago_seqE E16_16 ?_
      refine ago_cut (fun ρ => ρ 0 = m_0 ∧ ρ 1 = l_1 ∧ True) ⟨h0, h1, trivial⟩ (fun ρ ⟨h0, h1, _⟩ => ?_)
      obtain ⟨hp29, H⟩ := H
      obtain ⟨b31, i32, p30, hp33, hv34, H⟩ := H
      obtain ⟨b35, i36, x38, hp37, hg39, H⟩ := H
      obtain ⟨hp40, H⟩ := H
      obtain ⟨b42, i43, p41, hp44, hv45, H⟩ := H
      obtain ⟨b46, i47, x49, hp48, hg50, H⟩ := H
      obtain ⟨q52, l53, c54, n51, hv55, hn56, H⟩ := H
      refine ago_drawH (p := [0, 1, 2, 3, 4, 7, 8, 9, 10, 11]) (tl := [(5, [7, 8, 9, 10, 11], []), (6, [7, 8, 9, 10, 11], []), (12, [], [13, 14])]) (hv := [(0, m_0), (1, m_0), (2, p30), (3, x38), (4, l_1), (7, m_0), (8, m_0), (9, p41), (10, x49), (11, Value.int .i64 n51)]) E16_17 mixed R16_5_N R16_5_O rfl (pv_cons rfl (pv_cons rfl (pv_cons rfl (pv_cons rfl (pv_cons rfl (pv_cons rfl (pv_cons rfl (pv_cons rfl (pv_cons rfl (pv_cons rfl (pv_nil _)))))))))))
        (ffc (d := 19) (v := m_0) (hd_v rfl fun ρ hρ => ⟨rfl, opv_move rfl rfl ((hρ 0 (lmem rfl)).trans h0)⟩) rfl rfl
        (ffc (d := 20) (v := m_0) (hd_v rfl fun ρ hρ => ⟨rfl, ov_nck rfl rfl ((hρ 19 (lmem rfl)).trans rfl) hp29⟩) rfl rfl
        (ffc (d := 21) (v := p30) (hd_v rfl fun ρ hρ => ⟨rfl, ov_fldA rfl rfl underlying77 rfl sz44 (by decide) ((hρ 20 (lmem rfl)).trans rfl) hp33 rfl hv34⟩) rfl rfl
        (ffc (d := 22) (v := x38) (hd_v rfl fun ρ hρ => ⟨rfl, ov_ldV rfl underlying44 rfl rfl ((hρ 21 (lmem rfl)).trans rfl) hp37 hg39⟩) rfl rfl
        (ffc (d := 23) (v := l_1) (hd_v rfl fun ρ hρ => ⟨rfl, opv_move rfl rfl ((hρ 1 (lmem rfl)).trans h1)⟩) rfl rfl
        (ffc (d := 26) (v := m_0) (hd_v rfl fun ρ hρ => ⟨rfl, opv_move rfl rfl ((hρ 0 (lmem rfl)).trans h0)⟩) rfl rfl
        (ffc (d := 27) (v := m_0) (hd_v rfl fun ρ hρ => ⟨rfl, ov_nck rfl rfl ((hρ 26 (lmem rfl)).trans rfl) hp40⟩) rfl rfl
        (ffc (d := 28) (v := p41) (hd_v rfl fun ρ hρ => ⟨rfl, ov_fldA rfl rfl underlying77 rfl sz62 (by decide) ((hρ 27 (lmem rfl)).trans rfl) hp44 rfl hv45⟩) rfl rfl
        (ffc (d := 29) (v := x49) (hd_v rfl fun ρ hρ => ⟨rfl, ov_ldV rfl underlying62 rfl rfl ((hρ 28 (lmem rfl)).trans rfl) hp48 hg50⟩) rfl rfl
        (ffc (d := 30) (v := .int .i64 n51) (hd_v rfl fun ρ hρ => ⟨rfl, ov_len rfl rfl rfl underlying62 ((hρ 29 (lmem rfl)).trans rfl) hv55 hn56⟩) rfl rfl
        ffn)))))))))) ?_
      obtain ⟨h161, H⟩ := H
      obtain ⟨h162, H⟩ := H
      obtain ⟨p57, aw58, hp59, ha60, H⟩ := H
      refine lt_val (dt := some 24) (v := p57) rfl rfl (fun ρ hρ => ⟨rfl, ov_bsA (r := [x38, l_1]) (vs := [x38, l_1]) rfl rfl underlying111 sz44 z44 rfl rfl rfl rfl rfl (mp_cons ((hρ 22 (lmem rfl)).trans rfl) (mp_cons ((hρ 23 (lmem rfl)).trans rfl) rfl)) (.one (cells_one h161) (.one (cells_one h162) .nil)) hp59 ha60⟩) ?_
      obtain ⟨hg50, H⟩ := H
      replace hg50 := hg50 _ _ hp48
      refine lt_next (l := [7, 8, 9, 10, 11]) (hv := []) rfl rfl (pv_nil _)
        (ffc (d := 26) (v := m_0) (hd_v rfl fun ρ hρ => ⟨rfl, opv_move rfl rfl ((hρ 0 (lmem rfl)).trans h0)⟩) rfl rfl
        (ffc (d := 27) (v := m_0) (hd_v rfl fun ρ hρ => ⟨rfl, ov_nck rfl rfl ((hρ 26 (lmem rfl)).trans rfl) hp40⟩) rfl rfl
        (ffc (d := 28) (v := p41) (hd_v rfl fun ρ hρ => ⟨rfl, ov_fldA rfl rfl underlying77 rfl sz62 (by decide) ((hρ 27 (lmem rfl)).trans rfl) hp44 rfl hv45⟩) rfl rfl
        (ffc (d := 29) (v := x49) (hd_v rfl fun ρ hρ => ⟨rfl, ov_ldV rfl underlying62 rfl rfl ((hρ 28 (lmem rfl)).trans rfl) hp48 hg50⟩) rfl rfl
        (ffc (d := 30) (v := .int .i64 n51) (hd_v rfl fun ρ hρ => ⟨rfl, ov_len rfl rfl rfl underlying62 ((hρ 29 (lmem rfl)).trans rfl) hv55 hn56⟩) rfl rfl
        ffn))))) ?_
      refine lt_call (dt := some 25) rfl rfl (fun ρ hρ => ⟨rfl, opc_of rfl rfl is32 (ma_cons ((hρ 24 (lmem rfl)).trans rfl) rfl)⟩) H (fun _ _ h _ => ⟨rfl, h⟩) fun r63 aw64 H => ?_
      obtain ⟨hg50, H⟩ := H
      replace hg50 := hg50 _ _ hp48
      refine lt_next (l := [7, 8, 9, 10, 11]) (hv := []) rfl rfl (pv_nil _)
        (ffc (d := 26) (v := m_0) (hd_v rfl fun ρ hρ => ⟨rfl, opv_move rfl rfl ((hρ 0 (lmem rfl)).trans h0)⟩) rfl rfl
        (ffc (d := 27) (v := m_0) (hd_v rfl fun ρ hρ => ⟨rfl, ov_nck rfl rfl ((hρ 26 (lmem rfl)).trans rfl) hp40⟩) rfl rfl
        (ffc (d := 28) (v := p41) (hd_v rfl fun ρ hρ => ⟨rfl, ov_fldA rfl rfl underlying77 rfl sz62 (by decide) ((hρ 27 (lmem rfl)).trans rfl) hp44 rfl hv45⟩) rfl rfl
        (ffc (d := 29) (v := x49) (hd_v rfl fun ρ hρ => ⟨rfl, ov_ldV rfl underlying62 rfl rfl ((hρ 28 (lmem rfl)).trans rfl) hp48 hg50⟩) rfl rfl
        (ffc (d := 30) (v := .int .i64 n51) (hd_v rfl fun ρ hρ => ⟨rfl, ov_len rfl rfl rfl underlying62 ((hρ 29 (lmem rfl)).trans rfl) hv55 hn56⟩) rfl rfl
        ffn))))) ?_
      refine lt_call (dt := some 31) rfl rfl (fun ρ hρ => ⟨rfl, opc_of rfl rfl is21 (ma_cons ((hρ 25 (lmem rfl)).trans rfl) (ma_cons ((hρ 30 (lmem rfl)).trans rfl) rfl))⟩) H (fun _ _ h _ => ⟨rfl, h⟩) fun r65 aw66 H => ?_
      refine lt_next (l := [13, 14]) (hv := [(13, Value.bool (!r65)), (14, Value.bool (!r65))]) rfl rfl (pv_cons rfl (pv_cons rfl (pv_nil _)))
        (ffc (d := 32) (v := .bool (!r65)) (hd_v rfl fun ρ hρ => ⟨rfl, opv_not rfl rfl ((hρ 31 (lmem rfl)).trans rfl)⟩) rfl rfl
        (ffc (d := 18) (v := .bool (!r65)) (hd_v rfl fun ρ hρ => ⟨rfl, opv_assign rfl rfl ((hρ 32 (lmem rfl)).trans rfl)⟩) rfl rfl
        ffn)) ?_
      refine lt_end ?_
      refine ago_condE  E16_18 rfl rfl (fun hb67 => ?_) (fun hb67 => ?_)
      · replace H := cnd_t H hb67
        refine ago_seqE E16_19 ?_
        refine ago_regE E16_20 (l := [0]) rfl ?_
        refine lk (dt := some 4) R16_6_N rfl rfl rfl (opv_assign rfl rfl rfl) ?_
        refine aops_nil ?_
        exact ago_retE E16_21 (r := 3) (ares_1 rfl (oneT rfl)) rfl H
      · replace H := cnd_f H hb67
        refine ago_skipE E16_22 ?_
        refine ago_inBlock ?_
        refine ago_seqE E16_23 ?_
        refine ago_cut (fun ρ => ρ 0 = m_0 ∧ ρ 1 = l_1 ∧ True) ⟨h0, h1, trivial⟩ (fun ρ ⟨h0, h1, _⟩ => ?_)
        refine ago_regE E16_24 (l := [0, 1, 2, 3, 4, 5, 6, 7, 8, 9]) rfl ?_
        refine lk (dt := some 33) R16_7_N rfl rfl rfl (opv_move rfl rfl h0) ?_
        refine lk (dt := some 34) R16_7_N rfl rfl rfl (opv_move rfl rfl h0) ?_
        obtain ⟨hp68, H⟩ := H
        refine lk (dt := some 35) R16_7_N rfl rfl rfl (ov_nck rfl rfl rfl hp68) ?_
        obtain ⟨b70, i71, p69, hp72, hv73, H⟩ := H
        refine lk (dt := some 36) R16_7_N rfl rfl rfl (ov_fldA rfl rfl underlying77 rfl sz44 (by decide) rfl hp72 rfl hv73) ?_
        obtain ⟨b74, i75, x77, hp76, hg78, H⟩ := H
        refine lk (dt := some 37) R16_7_N rfl rfl rfl (ov_ldV rfl underlying44 rfl rfl rfl hp76 hg78) ?_
        refine lk (dt := some 38) R16_7_N rfl rfl rfl (opv_move rfl rfl h1) ?_
        obtain ⟨v79, aw80, hq81, H⟩ := H
        refine lk (dt := some 39) R16_7_N rfl rfl rfl (ov_app rfl rfl rfl rfl underlying44 sz43 by43 underlying44 rfl z43 rfl (by decide) (by decide) rfl rfl hq81) ?_
        obtain ⟨hp82, H⟩ := H
        refine lk (dt := some 40) R16_7_N rfl rfl rfl (ov_nck rfl rfl rfl hp82) ?_
        obtain ⟨b84, i85, p83, hp86, hv87, H⟩ := H
        refine lk (dt := some 41) R16_7_N rfl rfl rfl (ov_fldA rfl rfl underlying77 rfl sz44 (by decide) rfl hp86 rfl hv87) ?_
        obtain ⟨b89, i90, aw88, hp91, hw92, ho93, ha94, H⟩ := H
        refine lk (dt := none) R16_7_N rfl rfl rfl (ov_st rfl rfl rfl rfl rfl (cells_all ho93) sz44 hp91 hw92 ho93 ha94) ?_
        refine aops_nil ?_
        refine ago_seqE E16_25 ?_
        refine ago_regE E16_26 (l := [0]) rfl ?_
        refine lk (dt := some 4) R16_8_N rfl rfl rfl (opv_assign rfl rfl rfl) ?_
        refine aops_nil ?_
        exact ago_retE E16_27 (r := 0) (ares_1 rfl (oneT rfl)) rfl H
theorem F16_ok {Q : Int → AW → Prop} {E : List PanicEntry → AW → Prop} (m_0 : Value) (l_1 : Value) (aw : AW) (H : S16_0 Q E m_0 l_1 aw) : CallP prog 16 [m_0, l_1] aw sh16 Q E :=
  callP_of func16 C16_is rfl (Nat.le_of_ble_eq_true rfl) (S16_0_ok Q E _ m_0 l_1 aw rfl rfl H)
def C17_0 : Code := bodyOf f17
theorem C17_is : f17.body = some C17_0 := by kernel_rfl
def C17_1 : Code := cl C17_0
def R17_0 : Array Oper := regOps C17_1
def C17_2 : Code := cr C17_0
def C17_3 : Code := cl C17_2
def C17_4 : Code := cl C17_3
def C17_5 : Code := cl C17_4
def R17_1 : Array Oper := regOps C17_5
def C17_6 : Code := cr C17_4
def C17_7 : Code := cl C17_6
def C17_8 : Code := cl C17_7
def R17_2 : Array Oper := regOps C17_8
def C17_9 : Code := cr C17_7
def C17_10 : Code := cr C17_6
def C17_11 : Code := cl C17_10
def R17_3 : Array Oper := regOps C17_11
def C17_12 : Code := cr C17_10
def C17_13 : Code := cl C17_12
def C17_14 : Code := cl C17_13
def R17_4 : Array Oper := regOps C17_14
def C17_15 : Code := cr C17_13
def C17_16 : Code := cr C17_12
def C17_17 : Code := cr C17_2
def C17_18 : Code := cl C17_17
def R17_5 : Array Oper := regOps C17_18
def C17_19 : Code := cr C17_17
def C17_20 : Code := cl C17_19
def R17_6 : Array Oper := regOps C17_20
def C17_21 : Code := cr C17_19
def C17_22 : Code := cl C17_21
def R17_7 : Array Oper := regOps C17_22
def C17_23 : Code := cr C17_21
def C17_24 : Code := cl C17_23
def R17_8 : Array Oper := regOps C17_24
def C17_25 : Code := cr C17_23
def C17_26 : Code := cl C17_25
def R17_9 : Array Oper := regOps C17_26
def C17_27 : Code := cr C17_25
def C17_28 : Code := cl C17_27
def R17_10 : Array Oper := regOps C17_28
def C17_29 : Code := cr C17_27
def C17_30 : Code := cl C17_29
def R17_11 : Array Oper := regOps C17_30
def C17_31 : Code := cr C17_29
def C17_32 : Code := cl C17_31
def C17_33 : Code := cl C17_32
def R17_12 : Array Oper := regOps C17_33
def C17_34 : Code := cr C17_32
def C17_35 : Code := cl C17_34
def C17_36 : Code := cl C17_35
def C17_37 : Code := cl C17_36
def C17_38 : Code := cl C17_37
def R17_13 : Array Oper := regOps C17_38
def C17_39 : Code := cr C17_37
def C17_40 : Code := cl C17_39
def C17_41 : Code := cr C17_39
def C17_42 : Code := cr C17_36
def C17_43 : Code := cl C17_42
def R17_14 : Array Oper := regOps C17_43
def C17_44 : Code := cr C17_31
def C17_45 : Code := cl C17_44
def R17_15 : Array Oper := regOps C17_45
def C17_46 : Code := cr C17_44
def C17_47 : Code := cl C17_46
def C17_48 : Code := cl C17_47
def R17_16 : Array Oper := regOps C17_48
def C17_49 : Code := cr C17_47
def C17_50 : Code := cl C17_49
def R17_17 : Array Oper := regOps C17_50
def C17_51 : Code := cr C17_49
def C17_52 : Code := cr C17_46
def C17_53 : Code := cl C17_52
def R17_18 : Array Oper := regOps C17_53
def C17_54 : Code := cr C17_52
def C17_55 : Code := cl C17_54
def R17_19 : Array Oper := regOps C17_55
def C17_56 : Code := cr C17_54
theorem R17_0_N : dstsOk 134 R17_0 = true := by decide +kernel
theorem E17_1 : C17_1 = .region 0 R17_0 false := rfl
theorem R17_1_N : dstsOk 134 R17_1 = true := by decide +kernel
theorem E17_5 : C17_5 = .region 1 R17_1 false := rfl
theorem R17_2_N : dstsOk 134 R17_2 = true := by decide +kernel
theorem E17_8 : C17_8 = .region 2 R17_2 false := rfl
theorem E17_9 : C17_9 = .ret := rfl
theorem E17_7 : C17_7 = .seq C17_8 C17_9 := rfl
theorem R17_3_N : dstsOk 134 R17_3 = true := by decide +kernel
theorem E17_11 : C17_11 = .region 3 R17_3 false := rfl
theorem R17_4_N : dstsOk 134 R17_4 = true := by decide +kernel
theorem E17_14 : C17_14 = .region 4 R17_4 false := rfl
theorem E17_15 : C17_15 = .ret := rfl
theorem E17_13 : C17_13 = .seq C17_14 C17_15 := rfl
theorem E17_16 : C17_16 = .skip := rfl
theorem E17_12 : C17_12 = .cond (.tmp 17) C17_13 C17_16 := rfl
theorem E17_10 : C17_10 = .seq C17_11 C17_12 := rfl
theorem E17_6 : C17_6 = .cond (.tmp 13) C17_7 C17_10 := rfl
theorem E17_4 : C17_4 = .seq C17_5 C17_6 := rfl
theorem E17_3 : C17_3 = .block 0 C17_4 := rfl
theorem R17_5_N : dstsOk 134 R17_5 = true := by decide +kernel
theorem E17_18 : C17_18 = .region 5 R17_5 false := rfl
theorem R17_6_N : dstsOk 134 R17_6 = true := by decide +kernel
theorem E17_20 : C17_20 = .region 6 R17_6 false := rfl
theorem R17_7_N : dstsOk 134 R17_7 = true := by decide +kernel
theorem E17_22 : C17_22 = .region 7 R17_7 false := rfl
theorem R17_8_N : dstsOk 134 R17_8 = true := by decide +kernel
theorem E17_24 : C17_24 = .region 8 R17_8 false := rfl
theorem R17_9_N : dstsOk 134 R17_9 = true := by decide +kernel
theorem E17_26 : C17_26 = .region 9 R17_9 false := rfl
theorem R17_10_N : dstsOk 134 R17_10 = true := by decide +kernel
theorem E17_28 : C17_28 = .region 10 R17_10 false := rfl
theorem R17_11_N : dstsOk 134 R17_11 = true := by decide +kernel
theorem E17_30 : C17_30 = .region 11 R17_11 false := rfl
theorem R17_12_N : dstsOk 134 R17_12 = true := by decide +kernel
theorem E17_33 : C17_33 = .region 12 R17_12 false := rfl
theorem R17_13_N : dstsOk 134 R17_13 = true := by decide +kernel
theorem E17_38 : C17_38 = .region 13 R17_13 false := rfl
theorem E17_40 : C17_40 = .skip := rfl
theorem E17_41 : C17_41 = .exit 1 := rfl
theorem E17_39 : C17_39 = .cond (.tmp 103) C17_40 C17_41 := rfl
theorem E17_37 : C17_37 = .seq C17_38 C17_39 := rfl
theorem R17_14_N : dstsOk 134 R17_14 = true := by decide +kernel
theorem E17_43 : C17_43 = .region 14 R17_14 false := rfl
theorem E17_42 : C17_42 = .block 2 C17_43 := rfl
theorem E17_36 : C17_36 = .seq C17_37 C17_42 := rfl
theorem E17_35 : C17_35 = .loop C17_36 := rfl
theorem E17_34 : C17_34 = .block 1 C17_35 := rfl
theorem E17_32 : C17_32 = .seq C17_33 C17_34 := rfl
theorem R17_15_N : dstsOk 134 R17_15 = true := by decide +kernel
theorem R17_15_O : linOk R17_15 [0, 1, 2, 4, 5, 6, 7, 8, 9, 10, 11] [(3, [4, 5, 6, 7, 8, 9, 10, 11], [12]), (13, [4, 5, 6, 7, 8, 9, 10, 11], [14]), (15, [8, 9, 10, 11], [16]), (17, [], [])] = true := by decide +kernel
theorem E17_45 : C17_45 = .region 15 R17_15 true := rfl
theorem R17_16_N : dstsOk 134 R17_16 = true := by decide +kernel
theorem E17_48 : C17_48 = .region 16 R17_16 false := rfl
theorem R17_17_N : dstsOk 134 R17_17 = true := by decide +kernel
theorem E17_50 : C17_50 = .region 17 R17_17 false := rfl
theorem E17_51 : C17_51 = .skip := rfl
theorem E17_49 : C17_49 = .cond (.tmp 126) C17_50 C17_51 := rfl
theorem E17_47 : C17_47 = .seq C17_48 C17_49 := rfl
theorem R17_18_N : dstsOk 134 R17_18 = true := by decide +kernel
theorem E17_53 : C17_53 = .region 18 R17_18 false := rfl
theorem R17_19_N : dstsOk 134 R17_19 = true := by decide +kernel
theorem E17_55 : C17_55 = .region 19 R17_19 false := rfl
theorem E17_56 : C17_56 = .ret := rfl
theorem E17_54 : C17_54 = .seq C17_55 C17_56 := rfl
theorem E17_52 : C17_52 = .seq C17_53 C17_54 := rfl
theorem E17_46 : C17_46 = .seq C17_47 C17_52 := rfl
theorem E17_44 : C17_44 = .seq C17_45 C17_46 := rfl
theorem E17_31 : C17_31 = .seq C17_32 C17_44 := rfl
theorem E17_29 : C17_29 = .seq C17_30 C17_31 := rfl
theorem E17_27 : C17_27 = .seq C17_28 C17_29 := rfl
theorem E17_25 : C17_25 = .seq C17_26 C17_27 := rfl
theorem E17_23 : C17_23 = .seq C17_24 C17_25 := rfl
theorem E17_21 : C17_21 = .seq C17_22 C17_23 := rfl
theorem E17_19 : C17_19 = .seq C17_20 C17_21 := rfl
theorem E17_17 : C17_17 = .seq C17_18 C17_19 := rfl
theorem E17_2 : C17_2 = .seq C17_3 C17_17 := rfl
theorem E17_0 : C17_0 = .seq C17_1 C17_2 := rfl
def S17_3 (Q : (Int × Int × ByteArray × ByteArray × Value × Int) → AW → Prop) (E : List PanicEntry → AW → Prop)  (m_0 : Value) (t_10 : Value) (r_11 : Value) (aw : AW) : Prop :=
  nck m_0 (fldA m_0 3 fun p2 =>
  st aw p2 [(.slice none 0 0)] fun aw7 =>
  ptr r_11 fun b14 i15 =>
  gI .i64 aw7 b14 i15 fun c17 =>
  gI .u64 aw7 b14 (i15 + 1) fun c18 =>
  gS aw7 b14 (i15 + 2) fun c19 =>
  gS aw7 b14 (i15 + 3) fun c20 =>
  gV aw7 b14 (i15 + 4) fun c21 =>
  gI .i64 aw7 b14 (i15 + 5) fun c22 =>
  st aw7 t_10 [.int .i64 c17, .int .u64 c18, .string c19, .string c20, c21, .int .i64 c22] fun aw29 =>
  ptr t_10 fun b36 i37 => gI .i64 aw29 b36 i37 fun c39 => gI .u64 aw29 b36 (i37 + 1) fun c40 => gS aw29 b36 (i37 + 2) fun c41 => gS aw29 b36 (i37 + 3) fun c42 => gV aw29 b36 (i37 + 4) fun c43 => gI .i64 aw29 b36 (i37 + 5) fun c44 => Q (c39, c40, c41, c42, c43, c44) aw29)
def S17_2s (Q : (Int × Int × ByteArray × ByteArray × Value × Int) → AW → Prop) (E : List PanicEntry → AW → Prop)  (nx2 : Value → Value → Value → Bool → AW → Prop) (m_0 : Value) (t_10 : Value) (r_11 : Value) (again_12 : Bool) (aw : AW) : Prop :=
  cnd again_12 (CallP prog 35 [m_0] aw sh35 (fun r52 aw53 =>
  st aw53 r_11 [.int .i64 r52.2.1, .int .u64 r52.2.2.1, .string r52.2.2.2.1, .string r52.2.2.2.2.1, r52.2.2.2.2.2.1, .int .i64 r52.2.2.2.2.2.2] fun aw54 =>
  nx2 m_0 t_10 r_11 r52.1 aw54) E) (nck m_0 (fldA m_0 9 fun p62 =>
  nck m_0 (fldA m_0 11 fun p68 =>
  ldV aw p68 fun x76 =>
  nck m_0 (fldA m_0 6 fun p79 =>
  ldI .i64 aw p79 fun x87 =>
  CallP prog 36 [p62] aw sh36 (fun r89 aw90 =>
  again1 aw90 p68 (x76) ∧ again1 aw90 p79 (.int .i64 x87) ∧ fldA r_11 3 fun p91 =>
  st aw90 p91 [.string r89] fun aw96 =>
  again1 aw96 p68 (x76) ∧ again1 aw96 p79 (.int .i64 x87) ∧ fldA r_11 4 fun p103 =>
  st aw96 p103 [x76] fun aw108 =>
  again1 aw108 p79 (.int .i64 x87) ∧ fldA r_11 5 fun p115 =>
  st aw108 p115 [.int .i64 x87] fun aw120 =>
  fldA r_11 0 fun p127 =>
  ldI .i64 aw120 p127 fun x135 =>
  cnd (decide (x135 = 0)) (CallP prog 37 [m_0] aw120 sh37 (fun r138 aw139 =>
  fldA r_11 1 fun p140 =>
  st aw139 p140 [.int .u64 r138] fun aw145 =>
  S17_3 Q E  m_0 t_10 r_11 aw145) E) (S17_3 Q E  m_0 t_10 r_11 aw120)) E))))
def S17_2 (Q : (Int × Int × ByteArray × ByteArray × Value × Int) → AW → Prop) (E : List PanicEntry → AW → Prop)  : Nat → Value → Value → Value → Bool → AW → Prop
  | 0 => fun _ _ _ _ _ => False
  | n + 1 => S17_2s Q E  (S17_2 Q E  n)
def S17_1 (Q : (Int × Int × ByteArray × ByteArray × Value × Int) → AW → Prop) (E : List PanicEntry → AW → Prop)  (m_0 : Value) (fun_1 : Int) (fuel_2 : Int) (moves_3 : Int) (room_4 : Int) (t_10 : Value) (t_17 : Bool) (aw : AW) : Prop :=
  cnd t_17 (st aw t_10 [.int .i64 1, .int .u64 0, .string (⟨#[]⟩ : ByteArray), .string (⟨#[]⟩ : ByteArray), (.slice none 0 0), .int .i64 0] fun aw153 =>
  ptr t_10 fun b160 i161 => gI .i64 aw153 b160 i161 fun c163 => gI .u64 aw153 b160 (i161 + 1) fun c164 => gS aw153 b160 (i161 + 2) fun c165 => gS aw153 b160 (i161 + 3) fun c166 => gV aw153 b160 (i161 + 4) fun c167 => gI .i64 aw153 b160 (i161 + 5) fun c168 => Q (c163, c164, c165, c166, c167, c168) aw153) (nck m_0 (fldA m_0 3 fun p176 =>
  st aw p176 [(.slice none 0 0)] fun aw181 =>
  nck m_0 (fldA m_0 4 fun p189 =>
  st aw181 p189 [(.slice none 0 0)] fun aw194 =>
  nck m_0 (fldA m_0 5 fun p202 =>
  st aw194 p202 [(.slice none 0 0)] fun aw207 =>
  nck m_0 (fldA m_0 6 fun p215 =>
  st aw207 p215 [.int .i64 fuel_2] fun aw220 =>
  nck m_0 (fldA m_0 8 fun p228 =>
  st aw220 p228 [.int .i64 moves_3] fun aw233 =>
  nck m_0 (fldA m_0 7 fun p241 =>
  st aw233 p241 [.int .i64 room_4] fun aw246 =>
  nck m_0 (fldA m_0 11 fun p254 =>
  st aw246 p254 [(.slice none 0 0)] fun aw259 =>
  nck m_0 (fldA m_0 9 fun p267 =>
  CallP prog 33 [p267] aw259 sh33 (fun r272 aw273 =>
  CallP prog 14 [.int .i64 0] aw273 sh14 (fun r274 aw275 =>
  CallP prog 34 [m_0, .int .u64 r274] aw275 sh34 (fun r276 aw277 =>
  CallP prog 14 [.int .i64 0] aw277 sh14 (fun r278 aw279 =>
  CallP prog 34 [m_0, .int .u64 r278] aw279 sh34 (fun r280 aw281 =>
  nck m_0 (fldA m_0 4 fun p283 =>
  ldV aw281 p283 fun x291 =>
  alcS aw281 [.int .i64 fun_1, .int .i64 0, .int .i64 1] 85 3 1 fun p293 aw294 =>
  app aw294 85 3 24 x291 p293 fun v297 aw298 =>
  nck m_0 (fldA m_0 4 fun p301 =>
  st aw298 p301 [v297] fun aw306 =>
  alc aw306 [.int .i64 0, .int .u64 0, .string (⟨#[]⟩ : ByteArray), .string (⟨#[]⟩ : ByteArray), (.slice none 0 0), .int .i64 0] 29 0 fun p313 aw314 =>
  st aw314 p313 [.int .i64 0, .int .u64 0, .string (⟨#[]⟩ : ByteArray), .string (⟨#[]⟩ : ByteArray), (.slice none 0 0), .int .i64 0] fun aw317 =>
  ∃ n, S17_2 Q E  n m_0 t_10 p313 true aw317))) E) E) E) E) E)))))))))
def S17_0 (Q : (Int × Int × ByteArray × ByteArray × Value × Int) → AW → Prop) (E : List PanicEntry → AW → Prop)  (m_0 : Value) (fun_1 : Int) (fuel_2 : Int) (moves_3 : Int) (room_4 : Int) (aw : AW) : Prop :=
  alc aw [.int .i64 0, .int .u64 0, .string (⟨#[]⟩ : ByteArray), .string (⟨#[]⟩ : ByteArray), (.slice none 0 0), .int .i64 0] 29 0 fun p324 aw325 =>
  nilB (.pointer 77) m_0 (.pointer none) fun q328 =>
  cnd q328 (st aw325 p324 [.int .i64 6, .int .u64 0, .string (⟨#[]⟩ : ByteArray), .string (⟨#[]⟩ : ByteArray), (.slice none 0 0), .int .i64 0] fun aw332 =>
  ptr p324 fun b339 i340 => gI .i64 aw332 b339 i340 fun c342 => gI .u64 aw332 b339 (i340 + 1) fun c343 => gS aw332 b339 (i340 + 2) fun c344 => gS aw332 b339 (i340 + 3) fun c345 => gV aw332 b339 (i340 + 4) fun c346 => gI .i64 aw332 b339 (i340 + 5) fun c347 => Q (c342, c343, c344, c345, c346, c347) aw332) (cnd (decide (fun_1 < 0)) (S17_1 Q E  m_0 fun_1 fuel_2 moves_3 room_4 p324 true aw325) (nck m_0 (fldA m_0 1 fun p356 =>
  ldV aw325 p356 fun x364 =>
  slen x364 fun n366 =>
  cnd (decide (n366 ≤ fun_1)) (S17_1 Q E  m_0 fun_1 fuel_2 moves_3 room_4 p324 true aw325) (nck m_0 (fldA m_0 1 fun p374 =>
  ldV aw325 p374 fun x382 =>
  ixS x382 fun_1 2 fun p384 =>
  fldA p384 0 fun p393 =>
  ldI .i64 aw325 p393 fun x401 =>
  cnd (decide (0 < x401)) (S17_1 Q E  m_0 fun_1 fuel_2 moves_3 room_4 p324 true aw325) (cnd (decide (fuel_2 < 0)) (S17_1 Q E  m_0 fun_1 fuel_2 moves_3 room_4 p324 true aw325) (cnd (decide (20000 < fuel_2)) (S17_1 Q E  m_0 fun_1 fuel_2 moves_3 room_4 p324 true aw325) (cnd (decide (moves_3 < 0)) (S17_1 Q E  m_0 fun_1 fuel_2 moves_3 room_4 p324 true aw325) (S17_1 Q E  m_0 fun_1 fuel_2 moves_3 room_4 p324 (decide (room_4 < 0)) aw325)))))))))
theorem S17_3_ok (Q : (Int × Int × ByteArray × ByteArray × Value × Int) → AW → Prop) (E : List PanicEntry → AW → Prop)  (ρ : Env) (m_0 : Value) (t_10 : Value) (r_11 : Value) (aw : AW) (h0 : ρ 0 = m_0) (h10 : ρ 10 = t_10) (h11 : ρ 11 = r_11) (H : S17_3 Q E  m_0 t_10 r_11 aw) :
    AGo prog 134 [.code C17_52] ρ [] aw (RR prog f17 134 sh17 Q E) := by
  unfold S17_3 at H
  refine ago_seqE E17_52 ?_
  refine ago_regE E17_53 (l := [0, 1, 2, 3]) rfl ?_
  refine lk (dt := some 130) R17_18_N rfl rfl rfl (opv_move rfl rfl h0) ?_
  obtain ⟨hp1, H⟩ := H
  refine lk (dt := some 131) R17_18_N rfl rfl rfl (ov_nck rfl rfl rfl hp1) ?_
  obtain ⟨b3, i4, p2, hp5, hv6, H⟩ := H
  refine lk (dt := some 132) R17_18_N rfl rfl rfl (ov_fldA rfl rfl underlying77 rfl sz62 (by decide) rfl hp5 rfl hv6) ?_
  obtain ⟨b8, i9, aw7, hp10, hw11, ho12, ha13, H⟩ := H
  refine lk (dt := none) R17_18_N rfl rfl rfl (ov_st rfl rfl rfl rfl rfl (cells_all ho12) sz62 hp10 hw11 ho12 ha13) ?_
  refine aops_nil ?_
  refine ago_seqE E17_54 ?_
  refine ago_regE E17_55 (l := [0, 1]) rfl ?_
  obtain ⟨b14, i15, hp16, c17, hg23, c18, hg24, c19, hg25, c20, hg26, c21, hg27, c22, hg28, H⟩ := H
  refine lk (dt := some 133) R17_19_N rfl rfl rfl (ov_ldN rfl underlying29 rfl sz29 rfl h11 hp16 (getN_cons hg23 (getN_cons hg24 (getN_cons hg25 (getN_cons hg26 (getN_cons hg27 (getN_cons hg28 getN_nil))))))) ?_
  obtain ⟨b30, i31, aw29, hp32, hw33, ho34, ha35, H⟩ := H
  refine lk (dt := none) R17_19_N rfl rfl rfl (ov_st rfl rfl rfl h10 rfl rfl sz29 hp32 hw33 ho34 ha35) ?_
  refine aops_nil ?_
  obtain ⟨b36, i37, hp38, c39, hg45, c40, hg46, c41, hg47, c42, hg48, c43, hg49, c44, hg50, H⟩ := H
  exact ago_retE E17_56 (r := (c39, c40, c41, c42, c43, c44)) (ares_1 rfl (oneN h10 hp38 underlying29 rfl sz29 (getN_cons hg45 (getN_cons hg46 (getN_cons hg47 (getN_cons hg48 (getN_cons hg49 (getN_cons hg50 getN_nil)))))))) rfl H
theorem S17_2s_ok (Q : (Int × Int × ByteArray × ByteArray × Value × Int) → AW → Prop) (E : List PanicEntry → AW → Prop)  (nx2 : Value → Value → Value → Bool → AW → Prop) (L2 : ∀ (ρ : Env) (m_0 : Value) (t_10 : Value) (r_11 : Value) (again_12 : Bool) (aw : AW) (h0 : ρ 0 = m_0) (h10 : ρ 10 = t_10) (h11 : ρ 11 = r_11) (h12 : ρ 12 = .bool again_12), nx2 m_0 t_10 r_11 again_12 aw → AGo prog 134 [.code C17_36, .inLoop C17_36, .inBlock 1, .code C17_44] ρ [] aw (RR prog f17 134 sh17 Q E)) (ρ : Env) (m_0 : Value) (t_10 : Value) (r_11 : Value) (again_12 : Bool) (aw : AW) (h0 : ρ 0 = m_0) (h10 : ρ 10 = t_10) (h11 : ρ 11 = r_11) (h12 : ρ 12 = .bool again_12) (H : S17_2s Q E  nx2 m_0 t_10 r_11 again_12 aw) :
    AGo prog 134 [.code C17_36, .inLoop C17_36, .inBlock 1, .code C17_44] ρ [] aw (RR prog f17 134 sh17 Q E) := by
  unfold S17_2s at H
  refine ago_seqE E17_36 ?_
  refine ago_seqE E17_37 ?_
  refine ago_regE E17_38 (l := [0]) rfl ?_
  refine lk (dt := some 103) R17_13_N rfl rfl rfl (opv_move rfl rfl h12) ?_
  refine aops_nil ?_
  refine ago_condE  E17_39 rfl rfl (fun hb51 => ?_) (fun hb51 => ?_)
  · replace H := cnd_t H hb51
    refine ago_skipE E17_40 ?_
    refine ago_blockE E17_42 ?_
    refine ago_regE E17_43 (l := [0, 1, 2, 3, 4, 5, 6]) rfl ?_
    refine lk (dt := some 105) R17_14_N rfl rfl rfl (opv_move rfl rfl h0) ?_
    refine lk_call (dt := some 106) R17_14_N rfl rfl rfl (opc_of rfl rfl is35 (ma_cons rfl rfl)) H (fun _ _ h => ⟨rfl, h⟩) fun r52 aw53 H => ?_
    refine lk (dt := some 104) R17_14_N rfl rfl rfl (opv_move rfl rfl rfl) ?_
    refine lk (dt := some 107) R17_14_N rfl rfl rfl (opv_extract rfl rfl rfl rfl) ?_
    refine lk (dt := some 108) R17_14_N rfl rfl rfl (opv_extract rfl rfl rfl rfl) ?_
    refine lk (dt := some 12) R17_14_N rfl rfl rfl (opv_assign rfl rfl rfl) ?_
    obtain ⟨b55, i56, aw54, hp57, hw58, ho59, ha60, H⟩ := H
    refine lk (dt := none) R17_14_N rfl rfl rfl (ov_st rfl rfl rfl h11 rfl rfl sz29 hp57 hw58 ho59 ha60) ?_
    refine aops_nil ?_
    refine ago_inBlock ?_
    refine ago_inLoop ?_
    exact L2 _ m_0 t_10 r_11 r52.1 aw54 h0 h10 h11 rfl H
  · replace H := cnd_f H hb51
    refine ago_exitE E17_41 rfl ?_
    refine ago_seqE E17_44 ?_
    obtain ⟨hp61, H⟩ := H
    obtain ⟨b63, i64, p62, hp65, hv66, H⟩ := H
    obtain ⟨hp67, H⟩ := H
    obtain ⟨b69, i70, p68, hp71, hv72, H⟩ := H
    obtain ⟨b73, i74, x76, hp75, hg77, H⟩ := H
    obtain ⟨hp78, H⟩ := H
    obtain ⟨b80, i81, p79, hp82, hv83, H⟩ := H
    obtain ⟨b84, i85, x87, hp86, hg88, H⟩ := H
    refine ago_drawH (p := [0, 1, 2, 4, 5, 6, 7, 8, 9, 10, 11]) (tl := [(3, [4, 5, 6, 7, 8, 9, 10, 11], [12]), (13, [4, 5, 6, 7, 8, 9, 10, 11], [14]), (15, [8, 9, 10, 11], [16]), (17, [], [])]) (hv := [(0, m_0), (1, m_0), (2, p62), (4, m_0), (5, m_0), (6, p68), (7, x76), (8, m_0), (9, m_0), (10, p79), (11, Value.int .i64 x87)]) E17_45 mixed R17_15_N R17_15_O rfl (pv_cons rfl (pv_cons rfl (pv_cons rfl (pv_cons rfl (pv_cons rfl (pv_cons rfl (pv_cons rfl (pv_cons rfl (pv_cons rfl (pv_cons rfl (pv_cons rfl (pv_nil _))))))))))))
      (ffc (d := 109) (v := m_0) (hd_v rfl fun ρ hρ => ⟨rfl, opv_move rfl rfl ((hρ 0 (lmem rfl)).trans h0)⟩) rfl rfl
      (ffc (d := 110) (v := m_0) (hd_v rfl fun ρ hρ => ⟨rfl, ov_nck rfl rfl ((hρ 109 (lmem rfl)).trans rfl) hp61⟩) rfl rfl
      (ffc (d := 111) (v := p62) (hd_v rfl fun ρ hρ => ⟨rfl, ov_fldA rfl rfl underlying77 rfl sz75 (by decide) ((hρ 110 (lmem rfl)).trans rfl) hp65 rfl hv66⟩) rfl rfl
      (ffc (d := 113) (v := m_0) (hd_v rfl fun ρ hρ => ⟨rfl, opv_move rfl rfl ((hρ 0 (lmem rfl)).trans h0)⟩) rfl rfl
      (ffc (d := 114) (v := m_0) (hd_v rfl fun ρ hρ => ⟨rfl, ov_nck rfl rfl ((hρ 113 (lmem rfl)).trans rfl) hp67⟩) rfl rfl
      (ffc (d := 115) (v := p68) (hd_v rfl fun ρ hρ => ⟨rfl, ov_fldA rfl rfl underlying77 rfl sz27 (by decide) ((hρ 114 (lmem rfl)).trans rfl) hp71 rfl hv72⟩) rfl rfl
      (ffc (d := 116) (v := x76) (hd_v rfl fun ρ hρ => ⟨rfl, ov_ldV rfl underlying27 rfl rfl ((hρ 115 (lmem rfl)).trans rfl) hp75 hg77⟩) rfl rfl
      (ffc (d := 117) (v := m_0) (hd_v rfl fun ρ hρ => ⟨rfl, opv_move rfl rfl ((hρ 0 (lmem rfl)).trans h0)⟩) rfl rfl
      (ffc (d := 118) (v := m_0) (hd_v rfl fun ρ hρ => ⟨rfl, ov_nck rfl rfl ((hρ 117 (lmem rfl)).trans rfl) hp78⟩) rfl rfl
      (ffc (d := 119) (v := p79) (hd_v rfl fun ρ hρ => ⟨rfl, ov_fldA rfl rfl underlying77 rfl sz3 (by decide) ((hρ 118 (lmem rfl)).trans rfl) hp82 rfl hv83⟩) rfl rfl
      (ffc (d := 120) (v := .int .i64 x87) (hd_v rfl fun ρ hρ => ⟨rfl, ov_ldI rfl underlying3 rfl ((hρ 119 (lmem rfl)).trans rfl) hp86 hg88⟩) rfl rfl
      ffn))))))))))) ?_
    refine lt_call (dt := some 112) rfl rfl (fun ρ hρ => ⟨rfl, opc_of rfl rfl is36 (ma_cons ((hρ 111 (lmem rfl)).trans rfl) rfl)⟩) H (fun _ _ h _ => ⟨rfl, h⟩) fun r89 aw90 H => ?_
    obtain ⟨hg77, H⟩ := H
    replace hg77 := hg77 _ _ hp75
    obtain ⟨hg88, H⟩ := H
    replace hg88 := hg88 _ _ hp86
    obtain ⟨b92, i93, p91, hp94, hv95, H⟩ := H
    refine lt_next (l := [4, 5, 6, 7, 8, 9, 10, 11, 12]) (hv := [(12, p91)]) rfl rfl (pv_cons rfl (pv_nil _))
      (ffc (d := 113) (v := m_0) (hd_v rfl fun ρ hρ => ⟨rfl, opv_move rfl rfl ((hρ 0 (lmem rfl)).trans h0)⟩) rfl rfl
      (ffc (d := 114) (v := m_0) (hd_v rfl fun ρ hρ => ⟨rfl, ov_nck rfl rfl ((hρ 113 (lmem rfl)).trans rfl) hp67⟩) rfl rfl
      (ffc (d := 115) (v := p68) (hd_v rfl fun ρ hρ => ⟨rfl, ov_fldA rfl rfl underlying77 rfl sz27 (by decide) ((hρ 114 (lmem rfl)).trans rfl) hp71 rfl hv72⟩) rfl rfl
      (ffc (d := 116) (v := x76) (hd_v rfl fun ρ hρ => ⟨rfl, ov_ldV rfl underlying27 rfl rfl ((hρ 115 (lmem rfl)).trans rfl) hp75 hg77⟩) rfl rfl
      (ffc (d := 117) (v := m_0) (hd_v rfl fun ρ hρ => ⟨rfl, opv_move rfl rfl ((hρ 0 (lmem rfl)).trans h0)⟩) rfl rfl
      (ffc (d := 118) (v := m_0) (hd_v rfl fun ρ hρ => ⟨rfl, ov_nck rfl rfl ((hρ 117 (lmem rfl)).trans rfl) hp78⟩) rfl rfl
      (ffc (d := 119) (v := p79) (hd_v rfl fun ρ hρ => ⟨rfl, ov_fldA rfl rfl underlying77 rfl sz3 (by decide) ((hρ 118 (lmem rfl)).trans rfl) hp82 rfl hv83⟩) rfl rfl
      (ffc (d := 120) (v := .int .i64 x87) (hd_v rfl fun ρ hρ => ⟨rfl, ov_ldI rfl underlying3 rfl ((hρ 119 (lmem rfl)).trans rfl) hp86 hg88⟩) rfl rfl
      (ffc (d := 121) (v := p91) (hd_v rfl fun ρ hρ => ⟨rfl, ov_fldA rfl rfl underlying29 rfl sz9 (by decide) ((hρ 11 (lmem rfl)).trans h11) hp94 rfl hv95⟩) rfl rfl
      ffn))))))))) ?_
    obtain ⟨b97, i98, aw96, hp99, hw100, ho101, ha102, H⟩ := H
    refine lt_val (dt := none) (v := undef) rfl rfl (fun ρ hρ => ⟨rfl, ov_st rfl rfl rfl ((hρ 121 (lmem rfl)).trans rfl) ((hρ 112 (lmem rfl)).trans rfl) rfl sz9 hp99 hw100 ho101 ha102⟩) ?_
    obtain ⟨hg77, H⟩ := H
    replace hg77 := hg77 _ _ hp75
    obtain ⟨hg88, H⟩ := H
    replace hg88 := hg88 _ _ hp86
    obtain ⟨b104, i105, p103, hp106, hv107, H⟩ := H
    refine lt_next (l := [4, 5, 6, 7, 8, 9, 10, 11, 14]) (hv := [(14, p103)]) rfl rfl (pv_cons rfl (pv_nil _))
      (ffc (d := 113) (v := m_0) (hd_v rfl fun ρ hρ => ⟨rfl, opv_move rfl rfl ((hρ 0 (lmem rfl)).trans h0)⟩) rfl rfl
      (ffc (d := 114) (v := m_0) (hd_v rfl fun ρ hρ => ⟨rfl, ov_nck rfl rfl ((hρ 113 (lmem rfl)).trans rfl) hp67⟩) rfl rfl
      (ffc (d := 115) (v := p68) (hd_v rfl fun ρ hρ => ⟨rfl, ov_fldA rfl rfl underlying77 rfl sz27 (by decide) ((hρ 114 (lmem rfl)).trans rfl) hp71 rfl hv72⟩) rfl rfl
      (ffc (d := 116) (v := x76) (hd_v rfl fun ρ hρ => ⟨rfl, ov_ldV rfl underlying27 rfl rfl ((hρ 115 (lmem rfl)).trans rfl) hp75 hg77⟩) rfl rfl
      (ffc (d := 117) (v := m_0) (hd_v rfl fun ρ hρ => ⟨rfl, opv_move rfl rfl ((hρ 0 (lmem rfl)).trans h0)⟩) rfl rfl
      (ffc (d := 118) (v := m_0) (hd_v rfl fun ρ hρ => ⟨rfl, ov_nck rfl rfl ((hρ 117 (lmem rfl)).trans rfl) hp78⟩) rfl rfl
      (ffc (d := 119) (v := p79) (hd_v rfl fun ρ hρ => ⟨rfl, ov_fldA rfl rfl underlying77 rfl sz3 (by decide) ((hρ 118 (lmem rfl)).trans rfl) hp82 rfl hv83⟩) rfl rfl
      (ffc (d := 120) (v := .int .i64 x87) (hd_v rfl fun ρ hρ => ⟨rfl, ov_ldI rfl underlying3 rfl ((hρ 119 (lmem rfl)).trans rfl) hp86 hg88⟩) rfl rfl
      (ffc (d := 122) (v := p103) (hd_v rfl fun ρ hρ => ⟨rfl, ov_fldA rfl rfl underlying29 rfl sz27 (by decide) ((hρ 11 (lmem rfl)).trans h11) hp106 rfl hv107⟩) rfl rfl
      ffn))))))))) ?_
    obtain ⟨b109, i110, aw108, hp111, hw112, ho113, ha114, H⟩ := H
    refine lt_val (dt := none) (v := undef) rfl rfl (fun ρ hρ => ⟨rfl, ov_st rfl rfl rfl ((hρ 122 (lmem rfl)).trans rfl) ((hρ 116 (lmem rfl)).trans rfl) (cells_all ho113) sz27 hp111 hw112 ho113 ha114⟩) ?_
    obtain ⟨hg88, H⟩ := H
    replace hg88 := hg88 _ _ hp86
    obtain ⟨b116, i117, p115, hp118, hv119, H⟩ := H
    refine lt_next (l := [8, 9, 10, 11, 16]) (hv := [(16, p115)]) rfl rfl (pv_cons rfl (pv_nil _))
      (ffc (d := 117) (v := m_0) (hd_v rfl fun ρ hρ => ⟨rfl, opv_move rfl rfl ((hρ 0 (lmem rfl)).trans h0)⟩) rfl rfl
      (ffc (d := 118) (v := m_0) (hd_v rfl fun ρ hρ => ⟨rfl, ov_nck rfl rfl ((hρ 117 (lmem rfl)).trans rfl) hp78⟩) rfl rfl
      (ffc (d := 119) (v := p79) (hd_v rfl fun ρ hρ => ⟨rfl, ov_fldA rfl rfl underlying77 rfl sz3 (by decide) ((hρ 118 (lmem rfl)).trans rfl) hp82 rfl hv83⟩) rfl rfl
      (ffc (d := 120) (v := .int .i64 x87) (hd_v rfl fun ρ hρ => ⟨rfl, ov_ldI rfl underlying3 rfl ((hρ 119 (lmem rfl)).trans rfl) hp86 hg88⟩) rfl rfl
      (ffc (d := 123) (v := p115) (hd_v rfl fun ρ hρ => ⟨rfl, ov_fldA rfl rfl underlying29 rfl sz3 (by decide) ((hρ 11 (lmem rfl)).trans h11) hp118 rfl hv119⟩) rfl rfl
      ffn))))) ?_
    obtain ⟨b121, i122, aw120, hp123, hw124, ho125, ha126, H⟩ := H
    refine lt_val (dt := none) (v := undef) rfl rfl (fun ρ hρ => ⟨rfl, ov_st rfl rfl rfl ((hρ 123 (lmem rfl)).trans rfl) ((hρ 120 (lmem rfl)).trans rfl) rfl sz3 hp123 hw124 ho125 ha126⟩) ?_
    refine lt_next (l := []) (hv := []) rfl rfl (pv_nil _)
      ffn ?_
    refine lt_end ?_
    refine ago_seqE E17_46 ?_
    refine ago_seqE E17_47 ?_
    refine ago_cut (fun ρ => ρ 0 = m_0 ∧ ρ 10 = t_10 ∧ ρ 11 = r_11 ∧ True) ⟨h0, h10, h11, trivial⟩ (fun ρ ⟨h0, h10, h11, _⟩ => ?_)
    refine ago_regE E17_48 (l := [0, 1, 2]) rfl ?_
    obtain ⟨b128, i129, p127, hp130, hv131, H⟩ := H
    refine lk (dt := some 124) R17_16_N rfl rfl rfl (ov_fldA rfl rfl underlying29 rfl sz24 (by decide) h11 hp130 rfl hv131) ?_
    obtain ⟨b132, i133, x135, hp134, hg136, H⟩ := H
    refine lk (dt := some 125) R17_16_N rfl rfl rfl (ov_ldI rfl underlying24 rfl rfl hp134 hg136) ?_
    refine lk (dt := some 126) R17_16_N rfl rfl rfl (opv_eqI rfl rfl rfl rfl rfl) ?_
    refine aops_nil ?_
    refine ago_condE  E17_49 rfl rfl (fun hb137 => ?_) (fun hb137 => ?_)
    · replace H := cnd_t H hb137
      refine ago_regE E17_50 (l := [0, 1, 2, 3]) rfl ?_
      refine lk (dt := some 127) R17_17_N rfl rfl rfl (opv_move rfl rfl h0) ?_
      refine lk_call (dt := some 128) R17_17_N rfl rfl rfl (opc_of rfl rfl is37 (ma_cons rfl rfl)) H (fun _ _ h => ⟨rfl, h⟩) fun r138 aw139 H => ?_
      obtain ⟨b141, i142, p140, hp143, hv144, H⟩ := H
      refine lk (dt := some 129) R17_17_N rfl rfl rfl (ov_fldA rfl rfl underlying29 rfl sz26 (by decide) h11 hp143 rfl hv144) ?_
      obtain ⟨b146, i147, aw145, hp148, hw149, ho150, ha151, H⟩ := H
      refine lk (dt := none) R17_17_N rfl rfl rfl (ov_st rfl rfl rfl rfl rfl rfl sz26 hp148 hw149 ho150 ha151) ?_
      refine aops_nil ?_
      exact S17_3_ok Q E  _ m_0 t_10 r_11 aw145 h0 h10 h11 H
    · replace H := cnd_f H hb137
      refine ago_skipE E17_51 ?_
      exact S17_3_ok Q E  _ m_0 t_10 r_11 aw120 h0 h10 h11 H
theorem S17_2_ok (Q : (Int × Int × ByteArray × ByteArray × Value × Int) → AW → Prop) (E : List PanicEntry → AW → Prop)  : ∀ (n : Nat) (ρ : Env) (m_0 : Value) (t_10 : Value) (r_11 : Value) (again_12 : Bool) (aw : AW) (h0 : ρ 0 = m_0) (h10 : ρ 10 = t_10) (h11 : ρ 11 = r_11) (h12 : ρ 12 = .bool again_12), S17_2 Q E  n m_0 t_10 r_11 again_12 aw →
    AGo prog 134 [.code C17_36, .inLoop C17_36, .inBlock 1, .code C17_44] ρ [] aw (RR prog f17 134 sh17 Q E)
  | 0, _, _, _, _, _, _, _, _, _, _ => fun H => H.elim
  | n + 1, ρ, m_0, t_10, r_11, again_12, aw, h0, h10, h11, h12 => fun H => S17_2s_ok Q E  _ (S17_2_ok Q E  n) ρ m_0 t_10 r_11 again_12 aw h0 h10 h11 h12 H
theorem S17_1_ok (Q : (Int × Int × ByteArray × ByteArray × Value × Int) → AW → Prop) (E : List PanicEntry → AW → Prop)  (ρ : Env) (m_0 : Value) (fun_1 : Int) (fuel_2 : Int) (moves_3 : Int) (room_4 : Int) (t_10 : Value) (t_17 : Bool) (aw : AW) (h0 : ρ 0 = m_0) (h1 : ρ 1 = .int .i64 fun_1) (h2 : ρ 2 = .int .i64 fuel_2) (h3 : ρ 3 = .int .i64 moves_3) (h4 : ρ 4 = .int .i64 room_4) (h10 : ρ 10 = t_10) (h17 : ρ 17 = .bool t_17) (H : S17_1 Q E  m_0 fun_1 fuel_2 moves_3 room_4 t_10 t_17 aw) :
    AGo prog 134 [.code C17_12, .inBlock 0, .code C17_17] ρ [] aw (RR prog f17 134 sh17 Q E) := by
  unfold S17_1 at H
  refine ago_condE  E17_12 rfl h17 (fun hb152 => ?_) (fun hb152 => ?_)
  · replace H := cnd_t H hb152
    refine ago_seqE E17_13 ?_
    refine ago_regE E17_14 (l := [0, 1]) rfl ?_
    refine lk (dt := some 56) R17_4_N rfl rfl rfl (ov_bld (r := [.int .i64 1, .int .u64 0, .string (⟨#[]⟩ : ByteArray), .string (⟨#[]⟩ : ByteArray), (.slice none 0 0), .int .i64 0]) rfl rfl bo29 (mp_cons rfl rfl) (fillP rfl rfl rfl rfl (fillN rfl))) ?_
    obtain ⟨b154, i155, aw153, hp156, hw157, ho158, ha159, H⟩ := H
    refine lk (dt := none) R17_4_N rfl rfl rfl (ov_st rfl rfl rfl h10 rfl rfl sz29 hp156 hw157 ho158 ha159) ?_
    refine aops_nil ?_
    obtain ⟨b160, i161, hp162, c163, hg169, c164, hg170, c165, hg171, c166, hg172, c167, hg173, c168, hg174, H⟩ := H
    exact ago_retE E17_15 (r := (c163, c164, c165, c166, c167, c168)) (ares_1 rfl (oneN h10 hp162 underlying29 rfl sz29 (getN_cons hg169 (getN_cons hg170 (getN_cons hg171 (getN_cons hg172 (getN_cons hg173 (getN_cons hg174 getN_nil)))))))) rfl H
  · replace H := cnd_f H hb152
    refine ago_skipE E17_16 ?_
    refine ago_inBlock ?_
    refine ago_seqE E17_17 ?_
    refine ago_regE E17_18 (l := [0, 1, 2, 3, 4, 5, 6, 7, 8, 9, 10, 11]) rfl ?_
    refine lk (dt := some 57) R17_5_N rfl rfl rfl (opv_move rfl rfl h0) ?_
    refine lk (dt := some 58) R17_5_N rfl rfl rfl (opv_move rfl rfl h0) ?_
    refine lk (dt := some 59) R17_5_N rfl rfl rfl (opv_move rfl rfl h0) ?_
    obtain ⟨hp175, H⟩ := H
    refine lk (dt := some 60) R17_5_N rfl rfl rfl (ov_nck rfl rfl rfl hp175) ?_
    obtain ⟨b177, i178, p176, hp179, hv180, H⟩ := H
    refine lk (dt := some 61) R17_5_N rfl rfl rfl (ov_fldA rfl rfl underlying77 rfl sz62 (by decide) rfl hp179 rfl hv180) ?_
    obtain ⟨b182, i183, aw181, hp184, hw185, ho186, ha187, H⟩ := H
    refine lk (dt := none) R17_5_N rfl rfl rfl (ov_st rfl rfl rfl rfl rfl (cells_all ho186) sz62 hp184 hw185 ho186 ha187) ?_
    obtain ⟨hp188, H⟩ := H
    refine lk (dt := some 62) R17_5_N rfl rfl rfl (ov_nck rfl rfl rfl hp188) ?_
    obtain ⟨b190, i191, p189, hp192, hv193, H⟩ := H
    refine lk (dt := some 63) R17_5_N rfl rfl rfl (ov_fldA rfl rfl underlying77 rfl sz70 (by decide) rfl hp192 rfl hv193) ?_
    obtain ⟨b195, i196, aw194, hp197, hw198, ho199, ha200, H⟩ := H
    refine lk (dt := none) R17_5_N rfl rfl rfl (ov_st rfl rfl rfl rfl rfl (cells_all ho199) sz70 hp197 hw198 ho199 ha200) ?_
    obtain ⟨hp201, H⟩ := H
    refine lk (dt := some 64) R17_5_N rfl rfl rfl (ov_nck rfl rfl rfl hp201) ?_
    obtain ⟨b203, i204, p202, hp205, hv206, H⟩ := H
    refine lk (dt := some 65) R17_5_N rfl rfl rfl (ov_fldA rfl rfl underlying77 rfl sz71 (by decide) rfl hp205 rfl hv206) ?_
    obtain ⟨b208, i209, aw207, hp210, hw211, ho212, ha213, H⟩ := H
    refine lk (dt := none) R17_5_N rfl rfl rfl (ov_st rfl rfl rfl rfl rfl (cells_all ho212) sz71 hp210 hw211 ho212 ha213) ?_
    refine aops_nil ?_
    refine ago_seqE E17_19 ?_
    refine ago_cut (fun ρ => ρ 0 = m_0 ∧ ρ 1 = .int .i64 fun_1 ∧ ρ 2 = .int .i64 fuel_2 ∧ ρ 3 = .int .i64 moves_3 ∧ ρ 4 = .int .i64 room_4 ∧ ρ 10 = t_10 ∧ True) ⟨h0, h1, h2, h3, h4, h10, trivial⟩ (fun ρ ⟨h0, h1, h2, h3, h4, h10, _⟩ => ?_)
    refine ago_regE E17_20 (l := [0, 1, 2, 3, 4, 5, 6, 7, 8, 9, 10, 11, 12, 13, 14, 15, 16, 17, 18]) rfl ?_
    refine lk (dt := some 66) R17_6_N rfl rfl rfl (opv_move rfl rfl h0) ?_
    refine lk (dt := some 67) R17_6_N rfl rfl rfl (opv_move rfl rfl h0) ?_
    refine lk (dt := some 68) R17_6_N rfl rfl rfl (opv_move rfl rfl h0) ?_
    refine lk (dt := some 69) R17_6_N rfl rfl rfl (opv_move rfl rfl h0) ?_
    refine lk (dt := some 70) R17_6_N rfl rfl rfl (opv_move rfl rfl h2) ?_
    refine lk (dt := some 71) R17_6_N rfl rfl rfl (opv_move rfl rfl h3) ?_
    refine lk (dt := some 72) R17_6_N rfl rfl rfl (opv_move rfl rfl h4) ?_
    obtain ⟨hp214, H⟩ := H
    refine lk (dt := some 73) R17_6_N rfl rfl rfl (ov_nck rfl rfl rfl hp214) ?_
    obtain ⟨b216, i217, p215, hp218, hv219, H⟩ := H
    refine lk (dt := some 74) R17_6_N rfl rfl rfl (ov_fldA rfl rfl underlying77 rfl sz3 (by decide) rfl hp218 rfl hv219) ?_
    obtain ⟨b221, i222, aw220, hp223, hw224, ho225, ha226, H⟩ := H
    refine lk (dt := none) R17_6_N rfl rfl rfl (ov_st rfl rfl rfl rfl rfl rfl sz3 hp223 hw224 ho225 ha226) ?_
    obtain ⟨hp227, H⟩ := H
    refine lk (dt := some 75) R17_6_N rfl rfl rfl (ov_nck rfl rfl rfl hp227) ?_
    obtain ⟨b229, i230, p228, hp231, hv232, H⟩ := H
    refine lk (dt := some 76) R17_6_N rfl rfl rfl (ov_fldA rfl rfl underlying77 rfl sz3 (by decide) rfl hp231 rfl hv232) ?_
    obtain ⟨b234, i235, aw233, hp236, hw237, ho238, ha239, H⟩ := H
    refine lk (dt := none) R17_6_N rfl rfl rfl (ov_st rfl rfl rfl rfl rfl rfl sz3 hp236 hw237 ho238 ha239) ?_
    obtain ⟨hp240, H⟩ := H
    refine lk (dt := some 77) R17_6_N rfl rfl rfl (ov_nck rfl rfl rfl hp240) ?_
    obtain ⟨b242, i243, p241, hp244, hv245, H⟩ := H
    refine lk (dt := some 78) R17_6_N rfl rfl rfl (ov_fldA rfl rfl underlying77 rfl sz3 (by decide) rfl hp244 rfl hv245) ?_
    obtain ⟨b247, i248, aw246, hp249, hw250, ho251, ha252, H⟩ := H
    refine lk (dt := none) R17_6_N rfl rfl rfl (ov_st rfl rfl rfl rfl rfl rfl sz3 hp249 hw250 ho251 ha252) ?_
    obtain ⟨hp253, H⟩ := H
    refine lk (dt := some 79) R17_6_N rfl rfl rfl (ov_nck rfl rfl rfl hp253) ?_
    obtain ⟨b255, i256, p254, hp257, hv258, H⟩ := H
    refine lk (dt := some 80) R17_6_N rfl rfl rfl (ov_fldA rfl rfl underlying77 rfl sz27 (by decide) rfl hp257 rfl hv258) ?_
    obtain ⟨b260, i261, aw259, hp262, hw263, ho264, ha265, H⟩ := H
    refine lk (dt := none) R17_6_N rfl rfl rfl (ov_st rfl rfl rfl rfl rfl (cells_all ho264) sz27 hp262 hw263 ho264 ha265) ?_
    refine aops_nil ?_
    refine ago_seqE E17_21 ?_
    refine ago_cut (fun ρ => ρ 0 = m_0 ∧ ρ 1 = .int .i64 fun_1 ∧ ρ 10 = t_10 ∧ True) ⟨h0, h1, h10, trivial⟩ (fun ρ ⟨h0, h1, h10, _⟩ => ?_)
    refine ago_regE E17_22 (l := [0, 1, 2, 3]) rfl ?_
    refine lk (dt := some 81) R17_7_N rfl rfl rfl (opv_move rfl rfl h0) ?_
    obtain ⟨hp266, H⟩ := H
    refine lk (dt := some 82) R17_7_N rfl rfl rfl (ov_nck rfl rfl rfl hp266) ?_
    obtain ⟨b268, i269, p267, hp270, hv271, H⟩ := H
    refine lk (dt := some 83) R17_7_N rfl rfl rfl (ov_fldA rfl rfl underlying77 rfl sz75 (by decide) rfl hp270 rfl hv271) ?_
    refine lk_call (dt := some 84) R17_7_N rfl rfl rfl (opc_of rfl rfl is33 (ma_cons rfl rfl)) H (fun _ _ h => ⟨rfl, h⟩) fun r272 aw273 H => ?_
    refine aops_nil ?_
    refine ago_seqE E17_23 ?_
    refine ago_regE E17_24 (l := [0, 1, 2]) rfl ?_
    refine lk (dt := some 85) R17_8_N rfl rfl rfl (opv_move rfl rfl h0) ?_
    refine lk_call (dt := some 86) R17_8_N rfl rfl rfl (opc_of rfl rfl is14 (ma_cons rfl rfl)) H (fun _ _ h => ⟨rfl, h⟩) fun r274 aw275 H => ?_
    refine lk_call (dt := some 87) R17_8_N rfl rfl rfl (opc_of rfl rfl is34 (ma_cons rfl (ma_cons rfl rfl))) H (fun _ _ h => ⟨rfl, h⟩) fun r276 aw277 H => ?_
    refine aops_nil ?_
    refine ago_seqE E17_25 ?_
    refine ago_regE E17_26 (l := [0, 1, 2]) rfl ?_
    refine lk (dt := some 88) R17_9_N rfl rfl rfl (opv_move rfl rfl h0) ?_
    refine lk_call (dt := some 89) R17_9_N rfl rfl rfl (opc_of rfl rfl is14 (ma_cons rfl rfl)) H (fun _ _ h => ⟨rfl, h⟩) fun r278 aw279 H => ?_
    refine lk_call (dt := some 90) R17_9_N rfl rfl rfl (opc_of rfl rfl is34 (ma_cons rfl (ma_cons rfl rfl))) H (fun _ _ h => ⟨rfl, h⟩) fun r280 aw281 H => ?_
    refine aops_nil ?_
    refine ago_seqE E17_27 ?_
    refine ago_regE E17_28 (l := [0, 1, 2, 3, 4, 5, 6, 7, 8, 9, 10, 11]) rfl ?_
    refine lk (dt := some 91) R17_10_N rfl rfl rfl (opv_move rfl rfl h0) ?_
    refine lk (dt := some 92) R17_10_N rfl rfl rfl (opv_move rfl rfl h0) ?_
    obtain ⟨hp282, H⟩ := H
    refine lk (dt := some 93) R17_10_N rfl rfl rfl (ov_nck rfl rfl rfl hp282) ?_
    obtain ⟨b284, i285, p283, hp286, hv287, H⟩ := H
    refine lk (dt := some 94) R17_10_N rfl rfl rfl (ov_fldA rfl rfl underlying77 rfl sz70 (by decide) rfl hp286 rfl hv287) ?_
    obtain ⟨b288, i289, x291, hp290, hg292, H⟩ := H
    refine lk (dt := some 95) R17_10_N rfl rfl rfl (ov_ldV rfl underlying70 rfl rfl rfl hp290 hg292) ?_
    refine lk (dt := some 96) R17_10_N rfl rfl rfl (opv_move rfl rfl h1) ?_
    refine lk (dt := some 97) R17_10_N rfl rfl rfl (ov_bld (r := [.int .i64 fun_1, .int .i64 0, .int .i64 1]) rfl rfl bo85 (mp_cons rfl (mp_cons rfl rfl)) (fillP rfl rfl rfl rfl (fillP rfl rfl rfl rfl (fillN rfl)))) ?_
    obtain ⟨p293, aw294, hp295, ha296, H⟩ := H
    refine lk (dt := some 98) R17_10_N rfl rfl rfl (ov_bsA (r := [.int .i64 fun_1, .int .i64 0, .int .i64 1]) (vs := [.agg #[.int .i64 fun_1, .int .i64 0, .int .i64 1]]) rfl rfl underlying70 sz85 z85 rfl rfl rfl rfl rfl (mp_cons rfl rfl) (.cons (v := .agg #[.int .i64 fun_1, .int .i64 0, .int .i64 1]) (xs := [.int .i64 fun_1, .int .i64 0, .int .i64 1]) (r := []) rfl rfl .nil) hp295 ha296) ?_
    obtain ⟨v297, aw298, hq299, H⟩ := H
    refine lk (dt := some 99) R17_10_N rfl rfl rfl (ov_app rfl rfl rfl rfl underlying70 sz85 by85 underlying70 rfl z85 rfl (by decide) (by decide) rfl rfl hq299) ?_
    obtain ⟨hp300, H⟩ := H
    refine lk (dt := some 100) R17_10_N rfl rfl rfl (ov_nck rfl rfl rfl hp300) ?_
    obtain ⟨b302, i303, p301, hp304, hv305, H⟩ := H
    refine lk (dt := some 101) R17_10_N rfl rfl rfl (ov_fldA rfl rfl underlying77 rfl sz70 (by decide) rfl hp304 rfl hv305) ?_
    obtain ⟨b307, i308, aw306, hp309, hw310, ho311, ha312, H⟩ := H
    refine lk (dt := none) R17_10_N rfl rfl rfl (ov_st rfl rfl rfl rfl rfl (cells_all ho311) sz70 hp309 hw310 ho311 ha312) ?_
    refine aops_nil ?_
    refine ago_seqE E17_29 ?_
    refine ago_cut (fun ρ => ρ 0 = m_0 ∧ ρ 10 = t_10 ∧ True) ⟨h0, h10, trivial⟩ (fun ρ ⟨h0, h10, _⟩ => ?_)
    refine ago_regE E17_30 (l := [0, 1, 2]) rfl ?_
    refine lk (dt := some 102) R17_11_N rfl rfl rfl (ov_bld (r := [.int .i64 0, .int .u64 0, .string (⟨#[]⟩ : ByteArray), .string (⟨#[]⟩ : ByteArray), (.slice none 0 0), .int .i64 0]) rfl rfl bo29 rfl (fillN rfl)) ?_
    obtain ⟨p313, aw314, hp315, ha316, H⟩ := H
    refine lk (dt := some 11) R17_11_N rfl rfl rfl (ov_alloc rfl z29 rfl rfl hp315 ha316) ?_
    obtain ⟨b318, i319, aw317, hp320, hw321, ho322, ha323, H⟩ := H
    refine lk (dt := none) R17_11_N rfl rfl rfl (ov_st rfl rfl rfl rfl rfl rfl sz29 hp320 hw321 ho322 ha323) ?_
    refine aops_nil ?_
    refine ago_seqE E17_31 ?_
    refine ago_seqE E17_32 ?_
    refine ago_regE E17_33 (l := [0]) rfl ?_
    refine lk (dt := some 12) R17_12_N rfl rfl rfl (opv_assign rfl rfl rfl) ?_
    refine aops_nil ?_
    refine ago_blockE E17_34 ?_
    refine ago_loopE E17_35 ?_
    obtain ⟨n, H⟩ := H
    exact S17_2_ok Q E  n _ m_0 t_10 p313 true aw317 h0 h10 rfl rfl H
theorem S17_0_ok (Q : (Int × Int × ByteArray × ByteArray × Value × Int) → AW → Prop) (E : List PanicEntry → AW → Prop)  (ρ : Env) (m_0 : Value) (fun_1 : Int) (fuel_2 : Int) (moves_3 : Int) (room_4 : Int) (aw : AW) (h0 : ρ 0 = m_0) (h1 : ρ 1 = .int .i64 fun_1) (h2 : ρ 2 = .int .i64 fuel_2) (h3 : ρ 3 = .int .i64 moves_3) (h4 : ρ 4 = .int .i64 room_4) (H : S17_0 Q E  m_0 fun_1 fuel_2 moves_3 room_4 aw) :
    AGo prog 134 [.code C17_0] ρ [] aw (RR prog f17 134 sh17 Q E) := by
  unfold S17_0 at H
  refine ago_seqE E17_0 ?_
  refine ago_regE E17_1 (l := [0]) rfl ?_
  obtain ⟨p324, aw325, hp326, ha327, H⟩ := H
  refine lk (dt := some 10) R17_0_N rfl rfl rfl (ov_alloc rfl z29 rfl rfl hp326 ha327) ?_
  refine aops_nil ?_
  refine ago_seqE E17_2 ?_
  refine ago_blockE E17_3 ?_
  refine ago_seqE E17_4 ?_
  refine ago_regE E17_5 (l := [0, 1, 2]) rfl ?_
  refine lk (dt := some 14) R17_1_N rfl rfl rfl (opv_move rfl rfl h0) ?_
  obtain ⟨q328, hf329, hq330, H⟩ := H
  refine lk (dt := some 15) R17_1_N rfl rfl rfl (ov_eqNil rfl rfl underlying30 rfl hf329 hq330) ?_
  refine lk (dt := some 13) R17_1_N rfl rfl rfl (opv_assign rfl rfl rfl) ?_
  refine aops_nil ?_
  refine ago_condE  E17_6 rfl rfl (fun hb331 => ?_) (fun hb331 => ?_)
  · replace H := cnd_t H hb331
    refine ago_seqE E17_7 ?_
    refine ago_regE E17_8 (l := [0, 1]) rfl ?_
    refine lk (dt := some 16) R17_2_N rfl rfl rfl (ov_bld (r := [.int .i64 6, .int .u64 0, .string (⟨#[]⟩ : ByteArray), .string (⟨#[]⟩ : ByteArray), (.slice none 0 0), .int .i64 0]) rfl rfl bo29 (mp_cons rfl rfl) (fillP rfl rfl rfl rfl (fillN rfl))) ?_
    obtain ⟨b333, i334, aw332, hp335, hw336, ho337, ha338, H⟩ := H
    refine lk (dt := none) R17_2_N rfl rfl rfl (ov_st rfl rfl rfl rfl rfl rfl sz29 hp335 hw336 ho337 ha338) ?_
    refine aops_nil ?_
    obtain ⟨b339, i340, hp341, c342, hg348, c343, hg349, c344, hg350, c345, hg351, c346, hg352, c347, hg353, H⟩ := H
    exact ago_retE E17_9 (r := (c342, c343, c344, c345, c346, c347)) (ares_1 rfl (oneN rfl hp341 underlying29 rfl sz29 (getN_cons hg348 (getN_cons hg349 (getN_cons hg350 (getN_cons hg351 (getN_cons hg352 (getN_cons hg353 getN_nil)))))))) rfl H
  · replace H := cnd_f H hb331
    refine ago_seqE E17_10 ?_
    refine ago_regE E17_11 (l := [0, 1, 2, 3, 4, 5, 6, 7, 8, 9, 10, 11, 12, 13, 14, 15, 16, 17, 18, 19, 20, 21, 22, 23, 24, 25, 26, 27, 28, 29, 30, 31, 32, 33, 34, 35, 36, 37, 38]) rfl ?_
    refine lk (dt := some 18) R17_3_N rfl rfl rfl (opv_move rfl rfl h1) ?_
    refine lk (dt := some 19) R17_3_N rfl rfl rfl (opv_lt rfl rfl rfl rfl rfl) ?_
    refine lk (dt := some 20) R17_3_N rfl rfl rfl (opv_move rfl rfl rfl) ?_
    rcases Bool.eq_false_or_eq_true (decide (fun_1 < 0)) with hb354 | hb354
    · replace H := cnd_t H hb354
      refine lk_skip (dt := some 21) R17_3_N rfl rfl ⟨_, rfl, .inl ⟨_, rfl, gq hb354 rfl⟩⟩ ?_
      refine lk_skip (dt := some 22) R17_3_N rfl rfl ⟨_, rfl, .inl ⟨_, rfl, gq hb354 rfl⟩⟩ ?_
      refine lk_skip (dt := some 23) R17_3_N rfl rfl ⟨_, rfl, .inl ⟨_, rfl, gq hb354 rfl⟩⟩ ?_
      refine lk_skip (dt := some 24) R17_3_N rfl rfl ⟨_, rfl, .inl ⟨_, rfl, gq hb354 rfl⟩⟩ ?_
      refine lk_skip (dt := some 25) R17_3_N rfl rfl ⟨_, rfl, .inl ⟨_, rfl, gq hb354 rfl⟩⟩ ?_
      refine lk_skip (dt := some 26) R17_3_N rfl rfl ⟨_, rfl, .inl ⟨_, rfl, gq hb354 rfl⟩⟩ ?_
      refine lk_skip (dt := some 27) R17_3_N rfl rfl ⟨_, rfl, .inl ⟨_, rfl, gq hb354 rfl⟩⟩ ?_
      refine lk (dt := some 28) R17_3_N rfl rfl rfl (ov_pickT rfl rfl rfl rfl rfl hb354 rfl) ?_
      refine lk (dt := some 29) R17_3_N rfl rfl rfl (opv_move rfl rfl rfl) ?_
      refine lk_skip (dt := some 30) R17_3_N rfl rfl ⟨_, rfl, .inl ⟨_, rfl, gq rfl rfl⟩⟩ ?_
      refine lk_skip (dt := some 31) R17_3_N rfl rfl ⟨_, rfl, .inl ⟨_, rfl, gq rfl rfl⟩⟩ ?_
      refine lk_skip (dt := some 32) R17_3_N rfl rfl ⟨_, rfl, .inl ⟨_, rfl, gq rfl rfl⟩⟩ ?_
      refine lk_skip (dt := some 33) R17_3_N rfl rfl ⟨_, rfl, .inl ⟨_, rfl, gq rfl rfl⟩⟩ ?_
      refine lk_skip (dt := some 34) R17_3_N rfl rfl ⟨_, rfl, .inl ⟨_, rfl, gq rfl rfl⟩⟩ ?_
      refine lk_skip (dt := some 35) R17_3_N rfl rfl ⟨_, rfl, .inl ⟨_, rfl, gq rfl rfl⟩⟩ ?_
      refine lk_skip (dt := some 36) R17_3_N rfl rfl ⟨_, rfl, .inl ⟨_, rfl, gq rfl rfl⟩⟩ ?_
      refine lk_skip (dt := some 37) R17_3_N rfl rfl ⟨_, rfl, .inl ⟨_, rfl, gq rfl rfl⟩⟩ ?_
      refine lk_skip (dt := some 38) R17_3_N rfl rfl ⟨_, rfl, .inl ⟨_, rfl, gq rfl rfl⟩⟩ ?_
      refine lk (dt := some 39) R17_3_N rfl rfl rfl (ov_pickT rfl rfl rfl rfl rfl rfl rfl) ?_
      refine lk (dt := some 40) R17_3_N rfl rfl rfl (opv_move rfl rfl rfl) ?_
      refine lk_skip (dt := some 41) R17_3_N rfl rfl ⟨_, rfl, .inl ⟨_, rfl, gq rfl rfl⟩⟩ ?_
      refine lk_skip (dt := some 42) R17_3_N rfl rfl ⟨_, rfl, .inl ⟨_, rfl, gq rfl rfl⟩⟩ ?_
      refine lk (dt := some 43) R17_3_N rfl rfl rfl (ov_pickT rfl rfl rfl rfl rfl rfl rfl) ?_
      refine lk (dt := some 44) R17_3_N rfl rfl rfl (opv_move rfl rfl rfl) ?_
      refine lk_skip (dt := some 45) R17_3_N rfl rfl ⟨_, rfl, .inl ⟨_, rfl, gq rfl rfl⟩⟩ ?_
      refine lk_skip (dt := some 46) R17_3_N rfl rfl ⟨_, rfl, .inl ⟨_, rfl, gq rfl rfl⟩⟩ ?_
      refine lk (dt := some 47) R17_3_N rfl rfl rfl (ov_pickT rfl rfl rfl rfl rfl rfl rfl) ?_
      refine lk (dt := some 48) R17_3_N rfl rfl rfl (opv_move rfl rfl rfl) ?_
      refine lk_skip (dt := some 49) R17_3_N rfl rfl ⟨_, rfl, .inl ⟨_, rfl, gq rfl rfl⟩⟩ ?_
      refine lk_skip (dt := some 50) R17_3_N rfl rfl ⟨_, rfl, .inl ⟨_, rfl, gq rfl rfl⟩⟩ ?_
      refine lk (dt := some 51) R17_3_N rfl rfl rfl (ov_pickT rfl rfl rfl rfl rfl rfl rfl) ?_
      refine lk (dt := some 52) R17_3_N rfl rfl rfl (opv_move rfl rfl rfl) ?_
      refine lk_skip (dt := some 53) R17_3_N rfl rfl ⟨_, rfl, .inl ⟨_, rfl, gq rfl rfl⟩⟩ ?_
      refine lk_skip (dt := some 54) R17_3_N rfl rfl ⟨_, rfl, .inl ⟨_, rfl, gq rfl rfl⟩⟩ ?_
      refine lk (dt := some 55) R17_3_N rfl rfl rfl (ov_pickT rfl rfl rfl rfl rfl rfl rfl) ?_
      refine lk (dt := some 17) R17_3_N rfl rfl rfl (opv_assign rfl rfl rfl) ?_
      refine aops_nil ?_
      exact S17_1_ok Q E  _ m_0 fun_1 fuel_2 moves_3 room_4 p324 true aw325 h0 h1 h2 h3 h4 rfl rfl H
    · replace H := cnd_f H hb354
      refine lk (dt := some 21) R17_3_N rfl rfl ⟨_, rfl, .inl ⟨_, rfl, gq hb354 rfl⟩⟩ (opv_move rfl rfl h1) ?_
      refine lk (dt := some 22) R17_3_N rfl rfl ⟨_, rfl, .inl ⟨_, rfl, gq hb354 rfl⟩⟩ (opv_move rfl rfl h0) ?_
      obtain ⟨hp355, H⟩ := H
      refine lk (dt := some 23) R17_3_N rfl rfl ⟨_, rfl, .inl ⟨_, rfl, gq hb354 rfl⟩⟩ (ov_nck rfl rfl rfl hp355) ?_
      obtain ⟨b357, i358, p356, hp359, hv360, H⟩ := H
      refine lk (dt := some 24) R17_3_N rfl rfl ⟨_, rfl, .inl ⟨_, rfl, gq hb354 rfl⟩⟩ (ov_fldA rfl rfl underlying77 rfl sz44 (by decide) rfl hp359 rfl hv360) ?_
      obtain ⟨b361, i362, x364, hp363, hg365, H⟩ := H
      refine lk (dt := some 25) R17_3_N rfl rfl ⟨_, rfl, .inl ⟨_, rfl, gq hb354 rfl⟩⟩ (ov_ldV rfl underlying44 rfl rfl rfl hp363 hg365) ?_
      obtain ⟨q367, l368, c369, n366, hv370, hn371, H⟩ := H
      refine lk (dt := some 26) R17_3_N rfl rfl ⟨_, rfl, .inl ⟨_, rfl, gq hb354 rfl⟩⟩ (ov_len rfl rfl rfl underlying44 rfl hv370 hn371) ?_
      refine lk (dt := some 27) R17_3_N rfl rfl ⟨_, rfl, .inl ⟨_, rfl, gq hb354 rfl⟩⟩ (opv_ge rfl rfl rfl rfl rfl) ?_
      refine lk (dt := some 28) R17_3_N rfl rfl rfl (ov_pickF rfl rfl rfl rfl rfl hb354 rfl) ?_
      refine lk (dt := some 29) R17_3_N rfl rfl rfl (opv_move rfl rfl rfl) ?_
      rcases Bool.eq_false_or_eq_true (decide (n366 ≤ fun_1)) with hb372 | hb372
      · replace H := cnd_t H hb372
        refine lk_skip (dt := some 30) R17_3_N rfl rfl ⟨_, rfl, .inl ⟨_, rfl, gq hb372 rfl⟩⟩ ?_
        refine lk_skip (dt := some 31) R17_3_N rfl rfl ⟨_, rfl, .inl ⟨_, rfl, gq hb372 rfl⟩⟩ ?_
        refine lk_skip (dt := some 32) R17_3_N rfl rfl ⟨_, rfl, .inl ⟨_, rfl, gq hb372 rfl⟩⟩ ?_
        refine lk_skip (dt := some 33) R17_3_N rfl rfl ⟨_, rfl, .inl ⟨_, rfl, gq hb372 rfl⟩⟩ ?_
        refine lk_skip (dt := some 34) R17_3_N rfl rfl ⟨_, rfl, .inl ⟨_, rfl, gq hb372 rfl⟩⟩ ?_
        refine lk_skip (dt := some 35) R17_3_N rfl rfl ⟨_, rfl, .inl ⟨_, rfl, gq hb372 rfl⟩⟩ ?_
        refine lk_skip (dt := some 36) R17_3_N rfl rfl ⟨_, rfl, .inl ⟨_, rfl, gq hb372 rfl⟩⟩ ?_
        refine lk_skip (dt := some 37) R17_3_N rfl rfl ⟨_, rfl, .inl ⟨_, rfl, gq hb372 rfl⟩⟩ ?_
        refine lk_skip (dt := some 38) R17_3_N rfl rfl ⟨_, rfl, .inl ⟨_, rfl, gq hb372 rfl⟩⟩ ?_
        refine lk (dt := some 39) R17_3_N rfl rfl rfl (ov_pickT rfl rfl rfl rfl rfl hb372 rfl) ?_
        refine lk (dt := some 40) R17_3_N rfl rfl rfl (opv_move rfl rfl rfl) ?_
        refine lk_skip (dt := some 41) R17_3_N rfl rfl ⟨_, rfl, .inl ⟨_, rfl, gq rfl rfl⟩⟩ ?_
        refine lk_skip (dt := some 42) R17_3_N rfl rfl ⟨_, rfl, .inl ⟨_, rfl, gq rfl rfl⟩⟩ ?_
        refine lk (dt := some 43) R17_3_N rfl rfl rfl (ov_pickT rfl rfl rfl rfl rfl rfl rfl) ?_
        refine lk (dt := some 44) R17_3_N rfl rfl rfl (opv_move rfl rfl rfl) ?_
        refine lk_skip (dt := some 45) R17_3_N rfl rfl ⟨_, rfl, .inl ⟨_, rfl, gq rfl rfl⟩⟩ ?_
        refine lk_skip (dt := some 46) R17_3_N rfl rfl ⟨_, rfl, .inl ⟨_, rfl, gq rfl rfl⟩⟩ ?_
        refine lk (dt := some 47) R17_3_N rfl rfl rfl (ov_pickT rfl rfl rfl rfl rfl rfl rfl) ?_
        refine lk (dt := some 48) R17_3_N rfl rfl rfl (opv_move rfl rfl rfl) ?_
        refine lk_skip (dt := some 49) R17_3_N rfl rfl ⟨_, rfl, .inl ⟨_, rfl, gq rfl rfl⟩⟩ ?_
        refine lk_skip (dt := some 50) R17_3_N rfl rfl ⟨_, rfl, .inl ⟨_, rfl, gq rfl rfl⟩⟩ ?_
        refine lk (dt := some 51) R17_3_N rfl rfl rfl (ov_pickT rfl rfl rfl rfl rfl rfl rfl) ?_
        refine lk (dt := some 52) R17_3_N rfl rfl rfl (opv_move rfl rfl rfl) ?_
        refine lk_skip (dt := some 53) R17_3_N rfl rfl ⟨_, rfl, .inl ⟨_, rfl, gq rfl rfl⟩⟩ ?_
        refine lk_skip (dt := some 54) R17_3_N rfl rfl ⟨_, rfl, .inl ⟨_, rfl, gq rfl rfl⟩⟩ ?_
        refine lk (dt := some 55) R17_3_N rfl rfl rfl (ov_pickT rfl rfl rfl rfl rfl rfl rfl) ?_
        refine lk (dt := some 17) R17_3_N rfl rfl rfl (opv_assign rfl rfl rfl) ?_
        refine aops_nil ?_
        exact S17_1_ok Q E  _ m_0 fun_1 fuel_2 moves_3 room_4 p324 true aw325 h0 h1 h2 h3 h4 rfl rfl H
      · replace H := cnd_f H hb372
        refine lk (dt := some 30) R17_3_N rfl rfl ⟨_, rfl, .inl ⟨_, rfl, gq hb372 rfl⟩⟩ (opv_move rfl rfl h0) ?_
        obtain ⟨hp373, H⟩ := H
        refine lk (dt := some 31) R17_3_N rfl rfl ⟨_, rfl, .inl ⟨_, rfl, gq hb372 rfl⟩⟩ (ov_nck rfl rfl rfl hp373) ?_
        obtain ⟨b375, i376, p374, hp377, hv378, H⟩ := H
        refine lk (dt := some 32) R17_3_N rfl rfl ⟨_, rfl, .inl ⟨_, rfl, gq hb372 rfl⟩⟩ (ov_fldA rfl rfl underlying77 rfl sz44 (by decide) rfl hp377 rfl hv378) ?_
        obtain ⟨b379, i380, x382, hp381, hg383, H⟩ := H
        refine lk (dt := some 33) R17_3_N rfl rfl ⟨_, rfl, .inl ⟨_, rfl, gq hb372 rfl⟩⟩ (ov_ldV rfl underlying44 rfl rfl rfl hp381 hg383) ?_
        refine lk (dt := some 34) R17_3_N rfl rfl ⟨_, rfl, .inl ⟨_, rfl, gq hb372 rfl⟩⟩ (opv_move rfl rfl h1) ?_
        obtain ⟨b385, i386, l387, c388, p384, hp389, h0390, hj391, hv392, H⟩ := H
        refine lk (dt := some 35) R17_3_N rfl rfl ⟨_, rfl, .inl ⟨_, rfl, gq hb372 rfl⟩⟩ (ov_ixS rfl rfl rfl underlying44 sz43 rfl rfl hp389 h0390 hj391 hv392) ?_
        obtain ⟨b394, i395, p393, hp396, hv397, H⟩ := H
        refine lk (dt := some 36) R17_3_N rfl rfl ⟨_, rfl, .inl ⟨_, rfl, gq hb372 rfl⟩⟩ (ov_fldA rfl rfl underlying43 rfl sz3 (by decide) rfl hp396 rfl hv397) ?_
        obtain ⟨b398, i399, x401, hp400, hg402, H⟩ := H
        refine lk (dt := some 37) R17_3_N rfl rfl ⟨_, rfl, .inl ⟨_, rfl, gq hb372 rfl⟩⟩ (ov_ldI rfl underlying3 rfl rfl hp400 hg402) ?_
        refine lk (dt := some 38) R17_3_N rfl rfl ⟨_, rfl, .inl ⟨_, rfl, gq hb372 rfl⟩⟩ (opv_gt rfl rfl rfl rfl rfl) ?_
        refine lk (dt := some 39) R17_3_N rfl rfl rfl (ov_pickF rfl rfl rfl rfl rfl hb372 rfl) ?_
        refine lk (dt := some 40) R17_3_N rfl rfl rfl (opv_move rfl rfl rfl) ?_
        rcases Bool.eq_false_or_eq_true (decide (0 < x401)) with hb403 | hb403
        · replace H := cnd_t H hb403
          refine lk_skip (dt := some 41) R17_3_N rfl rfl ⟨_, rfl, .inl ⟨_, rfl, gq hb403 rfl⟩⟩ ?_
          refine lk_skip (dt := some 42) R17_3_N rfl rfl ⟨_, rfl, .inl ⟨_, rfl, gq hb403 rfl⟩⟩ ?_
          refine lk (dt := some 43) R17_3_N rfl rfl rfl (ov_pickT rfl rfl rfl rfl rfl hb403 rfl) ?_
          refine lk (dt := some 44) R17_3_N rfl rfl rfl (opv_move rfl rfl rfl) ?_
          refine lk_skip (dt := some 45) R17_3_N rfl rfl ⟨_, rfl, .inl ⟨_, rfl, gq rfl rfl⟩⟩ ?_
          refine lk_skip (dt := some 46) R17_3_N rfl rfl ⟨_, rfl, .inl ⟨_, rfl, gq rfl rfl⟩⟩ ?_
          refine lk (dt := some 47) R17_3_N rfl rfl rfl (ov_pickT rfl rfl rfl rfl rfl rfl rfl) ?_
          refine lk (dt := some 48) R17_3_N rfl rfl rfl (opv_move rfl rfl rfl) ?_
          refine lk_skip (dt := some 49) R17_3_N rfl rfl ⟨_, rfl, .inl ⟨_, rfl, gq rfl rfl⟩⟩ ?_
          refine lk_skip (dt := some 50) R17_3_N rfl rfl ⟨_, rfl, .inl ⟨_, rfl, gq rfl rfl⟩⟩ ?_
          refine lk (dt := some 51) R17_3_N rfl rfl rfl (ov_pickT rfl rfl rfl rfl rfl rfl rfl) ?_
          refine lk (dt := some 52) R17_3_N rfl rfl rfl (opv_move rfl rfl rfl) ?_
          refine lk_skip (dt := some 53) R17_3_N rfl rfl ⟨_, rfl, .inl ⟨_, rfl, gq rfl rfl⟩⟩ ?_
          refine lk_skip (dt := some 54) R17_3_N rfl rfl ⟨_, rfl, .inl ⟨_, rfl, gq rfl rfl⟩⟩ ?_
          refine lk (dt := some 55) R17_3_N rfl rfl rfl (ov_pickT rfl rfl rfl rfl rfl rfl rfl) ?_
          refine lk (dt := some 17) R17_3_N rfl rfl rfl (opv_assign rfl rfl rfl) ?_
          refine aops_nil ?_
          exact S17_1_ok Q E  _ m_0 fun_1 fuel_2 moves_3 room_4 p324 true aw325 h0 h1 h2 h3 h4 rfl rfl H
        · replace H := cnd_f H hb403
          refine lk (dt := some 41) R17_3_N rfl rfl ⟨_, rfl, .inl ⟨_, rfl, gq hb403 rfl⟩⟩ (opv_move rfl rfl h2) ?_
          refine lk (dt := some 42) R17_3_N rfl rfl ⟨_, rfl, .inl ⟨_, rfl, gq hb403 rfl⟩⟩ (opv_lt rfl rfl rfl rfl rfl) ?_
          refine lk (dt := some 43) R17_3_N rfl rfl rfl (ov_pickF rfl rfl rfl rfl rfl hb403 rfl) ?_
          refine lk (dt := some 44) R17_3_N rfl rfl rfl (opv_move rfl rfl rfl) ?_
          rcases Bool.eq_false_or_eq_true (decide (fuel_2 < 0)) with hb404 | hb404
          · replace H := cnd_t H hb404
            refine lk_skip (dt := some 45) R17_3_N rfl rfl ⟨_, rfl, .inl ⟨_, rfl, gq hb404 rfl⟩⟩ ?_
            refine lk_skip (dt := some 46) R17_3_N rfl rfl ⟨_, rfl, .inl ⟨_, rfl, gq hb404 rfl⟩⟩ ?_
            refine lk (dt := some 47) R17_3_N rfl rfl rfl (ov_pickT rfl rfl rfl rfl rfl hb404 rfl) ?_
            refine lk (dt := some 48) R17_3_N rfl rfl rfl (opv_move rfl rfl rfl) ?_
            refine lk_skip (dt := some 49) R17_3_N rfl rfl ⟨_, rfl, .inl ⟨_, rfl, gq rfl rfl⟩⟩ ?_
            refine lk_skip (dt := some 50) R17_3_N rfl rfl ⟨_, rfl, .inl ⟨_, rfl, gq rfl rfl⟩⟩ ?_
            refine lk (dt := some 51) R17_3_N rfl rfl rfl (ov_pickT rfl rfl rfl rfl rfl rfl rfl) ?_
            refine lk (dt := some 52) R17_3_N rfl rfl rfl (opv_move rfl rfl rfl) ?_
            refine lk_skip (dt := some 53) R17_3_N rfl rfl ⟨_, rfl, .inl ⟨_, rfl, gq rfl rfl⟩⟩ ?_
            refine lk_skip (dt := some 54) R17_3_N rfl rfl ⟨_, rfl, .inl ⟨_, rfl, gq rfl rfl⟩⟩ ?_
            refine lk (dt := some 55) R17_3_N rfl rfl rfl (ov_pickT rfl rfl rfl rfl rfl rfl rfl) ?_
            refine lk (dt := some 17) R17_3_N rfl rfl rfl (opv_assign rfl rfl rfl) ?_
            refine aops_nil ?_
            exact S17_1_ok Q E  _ m_0 fun_1 fuel_2 moves_3 room_4 p324 true aw325 h0 h1 h2 h3 h4 rfl rfl H
          · replace H := cnd_f H hb404
            refine lk (dt := some 45) R17_3_N rfl rfl ⟨_, rfl, .inl ⟨_, rfl, gq hb404 rfl⟩⟩ (opv_move rfl rfl h2) ?_
            refine lk (dt := some 46) R17_3_N rfl rfl ⟨_, rfl, .inl ⟨_, rfl, gq hb404 rfl⟩⟩ (opv_gt rfl rfl rfl rfl rfl) ?_
            refine lk (dt := some 47) R17_3_N rfl rfl rfl (ov_pickF rfl rfl rfl rfl rfl hb404 rfl) ?_
            refine lk (dt := some 48) R17_3_N rfl rfl rfl (opv_move rfl rfl rfl) ?_
            rcases Bool.eq_false_or_eq_true (decide (20000 < fuel_2)) with hb405 | hb405
            · replace H := cnd_t H hb405
              refine lk_skip (dt := some 49) R17_3_N rfl rfl ⟨_, rfl, .inl ⟨_, rfl, gq hb405 rfl⟩⟩ ?_
              refine lk_skip (dt := some 50) R17_3_N rfl rfl ⟨_, rfl, .inl ⟨_, rfl, gq hb405 rfl⟩⟩ ?_
              refine lk (dt := some 51) R17_3_N rfl rfl rfl (ov_pickT rfl rfl rfl rfl rfl hb405 rfl) ?_
              refine lk (dt := some 52) R17_3_N rfl rfl rfl (opv_move rfl rfl rfl) ?_
              refine lk_skip (dt := some 53) R17_3_N rfl rfl ⟨_, rfl, .inl ⟨_, rfl, gq rfl rfl⟩⟩ ?_
              refine lk_skip (dt := some 54) R17_3_N rfl rfl ⟨_, rfl, .inl ⟨_, rfl, gq rfl rfl⟩⟩ ?_
              refine lk (dt := some 55) R17_3_N rfl rfl rfl (ov_pickT rfl rfl rfl rfl rfl rfl rfl) ?_
              refine lk (dt := some 17) R17_3_N rfl rfl rfl (opv_assign rfl rfl rfl) ?_
              refine aops_nil ?_
              exact S17_1_ok Q E  _ m_0 fun_1 fuel_2 moves_3 room_4 p324 true aw325 h0 h1 h2 h3 h4 rfl rfl H
            · replace H := cnd_f H hb405
              refine lk (dt := some 49) R17_3_N rfl rfl ⟨_, rfl, .inl ⟨_, rfl, gq hb405 rfl⟩⟩ (opv_move rfl rfl h3) ?_
              refine lk (dt := some 50) R17_3_N rfl rfl ⟨_, rfl, .inl ⟨_, rfl, gq hb405 rfl⟩⟩ (opv_lt rfl rfl rfl rfl rfl) ?_
              refine lk (dt := some 51) R17_3_N rfl rfl rfl (ov_pickF rfl rfl rfl rfl rfl hb405 rfl) ?_
              refine lk (dt := some 52) R17_3_N rfl rfl rfl (opv_move rfl rfl rfl) ?_
              rcases Bool.eq_false_or_eq_true (decide (moves_3 < 0)) with hb406 | hb406
              · replace H := cnd_t H hb406
                refine lk_skip (dt := some 53) R17_3_N rfl rfl ⟨_, rfl, .inl ⟨_, rfl, gq hb406 rfl⟩⟩ ?_
                refine lk_skip (dt := some 54) R17_3_N rfl rfl ⟨_, rfl, .inl ⟨_, rfl, gq hb406 rfl⟩⟩ ?_
                refine lk (dt := some 55) R17_3_N rfl rfl rfl (ov_pickT rfl rfl rfl rfl rfl hb406 rfl) ?_
                refine lk (dt := some 17) R17_3_N rfl rfl rfl (opv_assign rfl rfl rfl) ?_
                refine aops_nil ?_
                exact S17_1_ok Q E  _ m_0 fun_1 fuel_2 moves_3 room_4 p324 true aw325 h0 h1 h2 h3 h4 rfl rfl H
              · replace H := cnd_f H hb406
                refine lk (dt := some 53) R17_3_N rfl rfl ⟨_, rfl, .inl ⟨_, rfl, gq hb406 rfl⟩⟩ (opv_move rfl rfl h4) ?_
                refine lk (dt := some 54) R17_3_N rfl rfl ⟨_, rfl, .inl ⟨_, rfl, gq hb406 rfl⟩⟩ (opv_lt rfl rfl rfl rfl rfl) ?_
                refine lk (dt := some 55) R17_3_N rfl rfl rfl (ov_pickF rfl rfl rfl rfl rfl hb406 rfl) ?_
                refine lk (dt := some 17) R17_3_N rfl rfl rfl (opv_assign rfl rfl rfl) ?_
                refine aops_nil ?_
                exact S17_1_ok Q E  _ m_0 fun_1 fuel_2 moves_3 room_4 p324 (decide (room_4 < 0)) aw325 h0 h1 h2 h3 h4 rfl rfl H
theorem F17_ok {Q : (Int × Int × ByteArray × ByteArray × Value × Int) → AW → Prop} {E : List PanicEntry → AW → Prop} (m_0 : Value) (fun_1 : Int) (fuel_2 : Int) (moves_3 : Int) (room_4 : Int) (aw : AW) (H : S17_0 Q E m_0 fun_1 fuel_2 moves_3 room_4 aw) : CallP prog 17 [m_0, .int .i64 fun_1, .int .i64 fuel_2, .int .i64 moves_3, .int .i64 room_4] aw sh17 Q E :=
  callP_of func17 C17_is rfl (Nat.le_of_ble_eq_true rfl) (S17_0_ok Q E _ m_0 fun_1 fuel_2 moves_3 room_4 aw rfl rfl rfl rfl rfl H)
def C31_0 : Code := bodyOf f31
theorem C31_is : f31.body = some C31_0 := by kernel_rfl
def C31_1 : Code := cl C31_0
def R31_0 : Array Oper := regOps C31_1
def C31_2 : Code := cr C31_0
def C31_3 : Code := cl C31_2
def R31_1 : Array Oper := regOps C31_3
def C31_4 : Code := cr C31_2
def C31_5 : Code := cl C31_4
def C31_6 : Code := cl C31_5
def R31_2 : Array Oper := regOps C31_6
def C31_7 : Code := cr C31_5
def C31_8 : Code := cl C31_7
def C31_9 : Code := cl C31_8
def C31_10 : Code := cl C31_9
def R31_3 : Array Oper := regOps C31_10
def C31_11 : Code := cr C31_9
def C31_12 : Code := cl C31_11
def C31_13 : Code := cl C31_12
def C31_14 : Code := cr C31_12
def C31_15 : Code := cr C31_11
def C31_16 : Code := cl C31_15
def C31_17 : Code := cl C31_16
def C31_18 : Code := cl C31_17
def R31_4 : Array Oper := regOps C31_18
def C31_19 : Code := cr C31_17
def R31_5 : Array Oper := regOps C31_19
def C31_20 : Code := cr C31_15
def R31_6 : Array Oper := regOps C31_20
def C31_21 : Code := cr C31_4
def C31_22 : Code := cl C31_21
def C31_23 : Code := cl C31_22
def R31_7 : Array Oper := regOps C31_23
def C31_24 : Code := cr C31_22
def C31_25 : Code := cl C31_24
def C31_26 : Code := cl C31_25
def C31_27 : Code := cl C31_26
def R31_8 : Array Oper := regOps C31_27
def C31_28 : Code := cr C31_26
def C31_29 : Code := cl C31_28
def C31_30 : Code := cl C31_29
def C31_31 : Code := cr C31_29
def C31_32 : Code := cr C31_28
def C31_33 : Code := cl C31_32
def C31_34 : Code := cl C31_33
def C31_35 : Code := cl C31_34
def R31_9 : Array Oper := regOps C31_35
def C31_36 : Code := cr C31_34
def R31_10 : Array Oper := regOps C31_36
def C31_37 : Code := cr C31_32
def R31_11 : Array Oper := regOps C31_37
def C31_38 : Code := cr C31_21
def C31_39 : Code := cl C31_38
def R31_12 : Array Oper := regOps C31_39
def C31_40 : Code := cr C31_38
theorem R31_0_N : dstsOk 43 R31_0 = true := by decide +kernel
theorem E31_1 : C31_1 = .region 0 R31_0 false := rfl
theorem R31_1_N : dstsOk 43 R31_1 = true := by decide +kernel
theorem E31_3 : C31_3 = .region 1 R31_1 false := rfl
theorem R31_2_N : dstsOk 43 R31_2 = true := by decide +kernel
theorem E31_6 : C31_6 = .region 2 R31_2 false := rfl
theorem R31_3_N : dstsOk 43 R31_3 = true := by decide +kernel
theorem E31_10 : C31_10 = .region 3 R31_3 false := rfl
theorem E31_13 : C31_13 = .skip := rfl
theorem E31_14 : C31_14 = .exit 0 := rfl
theorem E31_12 : C31_12 = .cond (.tmp 12) C31_13 C31_14 := rfl
theorem R31_4_N : dstsOk 43 R31_4 = true := by decide +kernel
theorem E31_18 : C31_18 = .region 4 R31_4 false := rfl
theorem R31_5_N : dstsOk 43 R31_5 = true := by decide +kernel
theorem E31_19 : C31_19 = .region 5 R31_5 false := rfl
theorem E31_17 : C31_17 = .seq C31_18 C31_19 := rfl
theorem E31_16 : C31_16 = .block 1 C31_17 := rfl
theorem R31_6_N : dstsOk 43 R31_6 = true := by decide +kernel
theorem E31_20 : C31_20 = .region 6 R31_6 false := rfl
theorem E31_15 : C31_15 = .seq C31_16 C31_20 := rfl
theorem E31_11 : C31_11 = .seq C31_12 C31_15 := rfl
theorem E31_9 : C31_9 = .seq C31_10 C31_11 := rfl
theorem E31_8 : C31_8 = .loop C31_9 := rfl
theorem E31_7 : C31_7 = .block 0 C31_8 := rfl
theorem E31_5 : C31_5 = .seq C31_6 C31_7 := rfl
theorem R31_7_N : dstsOk 43 R31_7 = true := by decide +kernel
theorem E31_23 : C31_23 = .region 7 R31_7 false := rfl
theorem R31_8_N : dstsOk 43 R31_8 = true := by decide +kernel
theorem E31_27 : C31_27 = .region 8 R31_8 false := rfl
theorem E31_30 : C31_30 = .skip := rfl
theorem E31_31 : C31_31 = .exit 2 := rfl
theorem E31_29 : C31_29 = .cond (.tmp 30) C31_30 C31_31 := rfl
theorem R31_9_N : dstsOk 43 R31_9 = true := by decide +kernel
theorem E31_35 : C31_35 = .region 9 R31_9 false := rfl
theorem R31_10_N : dstsOk 43 R31_10 = true := by decide +kernel
theorem E31_36 : C31_36 = .region 10 R31_10 false := rfl
theorem E31_34 : C31_34 = .seq C31_35 C31_36 := rfl
theorem E31_33 : C31_33 = .block 3 C31_34 := rfl
theorem R31_11_N : dstsOk 43 R31_11 = true := by decide +kernel
theorem E31_37 : C31_37 = .region 11 R31_11 false := rfl
theorem E31_32 : C31_32 = .seq C31_33 C31_37 := rfl
theorem E31_28 : C31_28 = .seq C31_29 C31_32 := rfl
theorem E31_26 : C31_26 = .seq C31_27 C31_28 := rfl
theorem E31_25 : C31_25 = .loop C31_26 := rfl
theorem E31_24 : C31_24 = .block 2 C31_25 := rfl
theorem E31_22 : C31_22 = .seq C31_23 C31_24 := rfl
theorem R31_12_N : dstsOk 43 R31_12 = true := by decide +kernel
theorem E31_39 : C31_39 = .region 12 R31_12 false := rfl
theorem E31_40 : C31_40 = .ret := rfl
theorem E31_38 : C31_38 = .seq C31_39 C31_40 := rfl
theorem E31_21 : C31_21 = .seq C31_22 C31_38 := rfl
theorem E31_4 : C31_4 = .seq C31_5 C31_21 := rfl
theorem E31_2 : C31_2 = .seq C31_3 C31_4 := rfl
theorem E31_0 : C31_0 = .seq C31_1 C31_2 := rfl
def S31_2s (Q : Value → AW → Prop) (E : List PanicEntry → AW → Prop)  (nx2 : Value → Value → Int → Int → AW → Prop) (m_0 : Value) (l_3 : Value) (t_28 : Int) (t_29 : Int) (aw : AW) : Prop :=
  cnd (decide (t_29 < t_28)) (nck m_0 (fldA m_0 3 fun p3 =>
  ldV aw p3 fun x11 =>
  ixS x11 t_29 1 fun p13 =>
  one p13 = true ∧ alcS aw [p13] 107 1 1 fun p22 aw23 =>
  app aw23 107 1 8 l_3 p22 fun v27 aw28 =>
  nx2 m_0 v27 t_28 (IntKind.i64.wrap (t_29 + 1)) aw28)) (Q l_3 aw)
def S31_2 (Q : Value → AW → Prop) (E : List PanicEntry → AW → Prop)  : Nat → Value → Value → Int → Int → AW → Prop
  | 0 => fun _ _ _ _ _ => False
  | n + 1 => S31_2s Q E  (S31_2 Q E  n)
def S31_1s (Q : Value → AW → Prop) (E : List PanicEntry → AW → Prop)  (nx1 : Value → Value → Int → Int → AW → Prop) (m_0 : Value) (l_3 : Value) (t_10 : Int) (t_11 : Int) (aw : AW) : Prop :=
  cnd (decide (t_11 < t_10)) (nck m_0 (fldA m_0 2 fun p32 =>
  ldV aw p32 fun x40 =>
  ixS x40 t_11 1 fun p42 =>
  one p42 = true ∧ alcS aw [p42] 107 1 1 fun p51 aw52 =>
  app aw52 107 1 8 l_3 p51 fun v56 aw57 =>
  nx1 m_0 v56 t_10 (IntKind.i64.wrap (t_11 + 1)) aw57)) (nck m_0 (fldA m_0 3 fun p60 =>
  ldV aw p60 fun x68 =>
  slen x68 fun n70 =>
  ∃ n, S31_2 Q E  n m_0 l_3 n70 0 aw))
def S31_1 (Q : Value → AW → Prop) (E : List PanicEntry → AW → Prop)  : Nat → Value → Value → Int → Int → AW → Prop
  | 0 => fun _ _ _ _ _ => False
  | n + 1 => S31_1s Q E  (S31_1 Q E  n)
def S31_0 (Q : Value → AW → Prop) (E : List PanicEntry → AW → Prop)  (m_0 : Value) (aw : AW) : Prop :=
  nck m_0 (fldA m_0 2 fun p77 =>
  ldV aw p77 fun x85 =>
  slen x85 fun n87 =>
  ∃ n, S31_1 Q E  n m_0 (.slice none 0 0) n87 0 aw)
theorem S31_2s_ok (Q : Value → AW → Prop) (E : List PanicEntry → AW → Prop)  (nx2 : Value → Value → Int → Int → AW → Prop) (L2 : ∀ (ρ : Env) (m_0 : Value) (l_3 : Value) (t_28 : Int) (t_29 : Int) (aw : AW) (h0 : ρ 0 = m_0) (h3 : ρ 3 = l_3) (h28 : ρ 28 = .int .i64 t_28) (h29 : ρ 29 = .int .i64 t_29), nx2 m_0 l_3 t_28 t_29 aw → AGo prog 43 [.code C31_26, .inLoop C31_26, .inBlock 2, .code C31_38] ρ [] aw (RR prog f31 43 sh31 Q E)) (ρ : Env) (m_0 : Value) (l_3 : Value) (t_28 : Int) (t_29 : Int) (aw : AW) (h0 : ρ 0 = m_0) (h3 : ρ 3 = l_3) (h28 : ρ 28 = .int .i64 t_28) (h29 : ρ 29 = .int .i64 t_29) (H : S31_2s Q E  nx2 m_0 l_3 t_28 t_29 aw) :
    AGo prog 43 [.code C31_26, .inLoop C31_26, .inBlock 2, .code C31_38] ρ [] aw (RR prog f31 43 sh31 Q E) := by
  unfold S31_2s at H
  refine ago_seqE E31_26 ?_
  refine ago_regE E31_27 (l := [0]) rfl ?_
  refine lk (dt := some 30) R31_8_N rfl rfl rfl (opv_lt rfl rfl rfl h29 h28) ?_
  refine aops_nil ?_
  refine ago_seqE E31_28 ?_
  refine ago_condE  E31_29 rfl rfl (fun hb1 => ?_) (fun hb1 => ?_)
  · replace H := cnd_t H hb1
    refine ago_skipE E31_30 ?_
    refine ago_seqE E31_32 ?_
    refine ago_blockE E31_33 ?_
    refine ago_seqE E31_34 ?_
    refine ago_regE E31_35 (l := [0, 1]) rfl ?_
    refine lk (dt := some 31) R31_9_N rfl rfl rfl (opv_move rfl rfl h29) ?_
    refine lk (dt := some 5) R31_9_N rfl rfl rfl (opv_assign rfl rfl rfl) ?_
    refine aops_nil ?_
    refine ago_regE E31_36 (l := [0, 1, 2, 3, 4, 5, 6, 7, 8, 9]) rfl ?_
    refine lk (dt := some 32) R31_10_N rfl rfl rfl (opv_move rfl rfl h3) ?_
    refine lk (dt := some 33) R31_10_N rfl rfl rfl (opv_move rfl rfl h0) ?_
    obtain ⟨hp2, H⟩ := H
    refine lk (dt := some 34) R31_10_N rfl rfl rfl (ov_nck rfl rfl rfl hp2) ?_
    obtain ⟨b4, i5, p3, hp6, hv7, H⟩ := H
    refine lk (dt := some 35) R31_10_N rfl rfl rfl (ov_fldA rfl rfl underlying77 rfl sz62 (by decide) rfl hp6 rfl hv7) ?_
    obtain ⟨b8, i9, x11, hp10, hg12, H⟩ := H
    refine lk (dt := some 36) R31_10_N rfl rfl rfl (ov_ldV rfl underlying62 rfl rfl rfl hp10 hg12) ?_
    refine lk (dt := some 37) R31_10_N rfl rfl rfl (opv_move rfl rfl rfl) ?_
    obtain ⟨b14, i15, l16, c17, p13, hp18, h019, hj20, hv21, H⟩ := H
    refine lk (dt := some 38) R31_10_N rfl rfl rfl (ov_ixS rfl rfl rfl underlying62 sz26 rfl rfl hp18 h019 hj20 hv21) ?_
    obtain ⟨h126, H⟩ := H
    obtain ⟨p22, aw23, hp24, ha25, H⟩ := H
    refine lk (dt := some 39) R31_10_N rfl rfl rfl (ov_bsA (r := [p13]) (vs := [p13]) rfl rfl underlying80 sz107 z107 rfl rfl rfl rfl rfl (mp_cons rfl rfl) (.one (cells_one h126) .nil) hp24 ha25) ?_
    obtain ⟨v27, aw28, hq29, H⟩ := H
    refine lk (dt := some 40) R31_10_N rfl rfl rfl (ov_app rfl rfl rfl rfl underlying80 sz107 by107 underlying80 rfl z107 rfl (by decide) (by decide) rfl rfl hq29) ?_
    refine lk (dt := some 3) R31_10_N rfl rfl rfl (opv_assign rfl rfl rfl) ?_
    refine aops_nil ?_
    refine ago_inBlock ?_
    refine ago_cut (fun ρ => ρ 0 = m_0 ∧ ρ 3 = v27 ∧ ρ 28 = .int .i64 t_28 ∧ ρ 29 = .int .i64 t_29 ∧ True) ⟨h0, rfl, h28, h29, trivial⟩ (fun ρ ⟨h0, h3, h28, h29, _⟩ => ?_)
    refine ago_regE E31_37 (l := [0, 1]) rfl ?_
    refine lk (dt := some 41) R31_11_N rfl rfl rfl (opv_add rfl rfl rfl h29 rfl) ?_
    refine lk (dt := some 29) R31_11_N rfl rfl rfl (opv_move rfl rfl rfl) ?_
    refine aops_nil ?_
    refine ago_inLoop ?_
    exact L2 _ m_0 v27 t_28 (IntKind.i64.wrap (t_29 + 1)) aw28 h0 h3 h28 rfl H
  · replace H := cnd_f H hb1
    refine ago_exitE E31_31 rfl ?_
    refine ago_seqE E31_38 ?_
    refine ago_regE E31_39 (l := [0, 1]) rfl ?_
    refine lk (dt := some 42) R31_12_N rfl rfl rfl (opv_move rfl rfl h3) ?_
    refine lk (dt := some 2) R31_12_N rfl rfl rfl (opv_assign rfl rfl rfl) ?_
    refine aops_nil ?_
    exact ago_retE E31_40 (r := l_3) (ares_1 rfl (oneT rfl)) rfl H
theorem S31_2_ok (Q : Value → AW → Prop) (E : List PanicEntry → AW → Prop)  : ∀ (n : Nat) (ρ : Env) (m_0 : Value) (l_3 : Value) (t_28 : Int) (t_29 : Int) (aw : AW) (h0 : ρ 0 = m_0) (h3 : ρ 3 = l_3) (h28 : ρ 28 = .int .i64 t_28) (h29 : ρ 29 = .int .i64 t_29), S31_2 Q E  n m_0 l_3 t_28 t_29 aw →
    AGo prog 43 [.code C31_26, .inLoop C31_26, .inBlock 2, .code C31_38] ρ [] aw (RR prog f31 43 sh31 Q E)
  | 0, _, _, _, _, _, _, _, _, _, _ => fun H => H.elim
  | n + 1, ρ, m_0, l_3, t_28, t_29, aw, h0, h3, h28, h29 => fun H => S31_2s_ok Q E  _ (S31_2_ok Q E  n) ρ m_0 l_3 t_28 t_29 aw h0 h3 h28 h29 H
theorem S31_1s_ok (Q : Value → AW → Prop) (E : List PanicEntry → AW → Prop)  (nx1 : Value → Value → Int → Int → AW → Prop) (L1 : ∀ (ρ : Env) (m_0 : Value) (l_3 : Value) (t_10 : Int) (t_11 : Int) (aw : AW) (h0 : ρ 0 = m_0) (h3 : ρ 3 = l_3) (h10 : ρ 10 = .int .i64 t_10) (h11 : ρ 11 = .int .i64 t_11), nx1 m_0 l_3 t_10 t_11 aw → AGo prog 43 [.code C31_9, .inLoop C31_9, .inBlock 0, .code C31_21] ρ [] aw (RR prog f31 43 sh31 Q E)) (ρ : Env) (m_0 : Value) (l_3 : Value) (t_10 : Int) (t_11 : Int) (aw : AW) (h0 : ρ 0 = m_0) (h3 : ρ 3 = l_3) (h10 : ρ 10 = .int .i64 t_10) (h11 : ρ 11 = .int .i64 t_11) (H : S31_1s Q E  nx1 m_0 l_3 t_10 t_11 aw) :
    AGo prog 43 [.code C31_9, .inLoop C31_9, .inBlock 0, .code C31_21] ρ [] aw (RR prog f31 43 sh31 Q E) := by
  unfold S31_1s at H
  refine ago_seqE E31_9 ?_
  refine ago_regE E31_10 (l := [0]) rfl ?_
  refine lk (dt := some 12) R31_3_N rfl rfl rfl (opv_lt rfl rfl rfl h11 h10) ?_
  refine aops_nil ?_
  refine ago_seqE E31_11 ?_
  refine ago_condE  E31_12 rfl rfl (fun hb30 => ?_) (fun hb30 => ?_)
  · replace H := cnd_t H hb30
    refine ago_skipE E31_13 ?_
    refine ago_seqE E31_15 ?_
    refine ago_blockE E31_16 ?_
    refine ago_seqE E31_17 ?_
    refine ago_regE E31_18 (l := [0, 1]) rfl ?_
    refine lk (dt := some 13) R31_4_N rfl rfl rfl (opv_move rfl rfl h11) ?_
    refine lk (dt := some 4) R31_4_N rfl rfl rfl (opv_assign rfl rfl rfl) ?_
    refine aops_nil ?_
    refine ago_regE E31_19 (l := [0, 1, 2, 3, 4, 5, 6, 7, 8, 9]) rfl ?_
    refine lk (dt := some 14) R31_5_N rfl rfl rfl (opv_move rfl rfl h3) ?_
    refine lk (dt := some 15) R31_5_N rfl rfl rfl (opv_move rfl rfl h0) ?_
    obtain ⟨hp31, H⟩ := H
    refine lk (dt := some 16) R31_5_N rfl rfl rfl (ov_nck rfl rfl rfl hp31) ?_
    obtain ⟨b33, i34, p32, hp35, hv36, H⟩ := H
    refine lk (dt := some 17) R31_5_N rfl rfl rfl (ov_fldA rfl rfl underlying77 rfl sz62 (by decide) rfl hp35 rfl hv36) ?_
    obtain ⟨b37, i38, x40, hp39, hg41, H⟩ := H
    refine lk (dt := some 18) R31_5_N rfl rfl rfl (ov_ldV rfl underlying62 rfl rfl rfl hp39 hg41) ?_
    refine lk (dt := some 19) R31_5_N rfl rfl rfl (opv_move rfl rfl rfl) ?_
    obtain ⟨b43, i44, l45, c46, p42, hp47, h048, hj49, hv50, H⟩ := H
    refine lk (dt := some 20) R31_5_N rfl rfl rfl (ov_ixS rfl rfl rfl underlying62 sz26 rfl rfl hp47 h048 hj49 hv50) ?_
    obtain ⟨h155, H⟩ := H
    obtain ⟨p51, aw52, hp53, ha54, H⟩ := H
    refine lk (dt := some 21) R31_5_N rfl rfl rfl (ov_bsA (r := [p42]) (vs := [p42]) rfl rfl underlying80 sz107 z107 rfl rfl rfl rfl rfl (mp_cons rfl rfl) (.one (cells_one h155) .nil) hp53 ha54) ?_
    obtain ⟨v56, aw57, hq58, H⟩ := H
    refine lk (dt := some 22) R31_5_N rfl rfl rfl (ov_app rfl rfl rfl rfl underlying80 sz107 by107 underlying80 rfl z107 rfl (by decide) (by decide) rfl rfl hq58) ?_
    refine lk (dt := some 3) R31_5_N rfl rfl rfl (opv_assign rfl rfl rfl) ?_
    refine aops_nil ?_
    refine ago_inBlock ?_
    refine ago_cut (fun ρ => ρ 0 = m_0 ∧ ρ 3 = v56 ∧ ρ 10 = .int .i64 t_10 ∧ ρ 11 = .int .i64 t_11 ∧ True) ⟨h0, rfl, h10, h11, trivial⟩ (fun ρ ⟨h0, h3, h10, h11, _⟩ => ?_)
    refine ago_regE E31_20 (l := [0, 1]) rfl ?_
    refine lk (dt := some 23) R31_6_N rfl rfl rfl (opv_add rfl rfl rfl h11 rfl) ?_
    refine lk (dt := some 11) R31_6_N rfl rfl rfl (opv_move rfl rfl rfl) ?_
    refine aops_nil ?_
    refine ago_inLoop ?_
    exact L1 _ m_0 v56 t_10 (IntKind.i64.wrap (t_11 + 1)) aw57 h0 h3 h10 rfl H
  · replace H := cnd_f H hb30
    refine ago_exitE E31_14 rfl ?_
    refine ago_seqE E31_21 ?_
    refine ago_seqE E31_22 ?_
    refine ago_regE E31_23 (l := [0, 1, 2, 3, 4, 5]) rfl ?_
    refine lk (dt := some 24) R31_7_N rfl rfl rfl (opv_move rfl rfl h0) ?_
    obtain ⟨hp59, H⟩ := H
    refine lk (dt := some 25) R31_7_N rfl rfl rfl (ov_nck rfl rfl rfl hp59) ?_
    obtain ⟨b61, i62, p60, hp63, hv64, H⟩ := H
    refine lk (dt := some 26) R31_7_N rfl rfl rfl (ov_fldA rfl rfl underlying77 rfl sz62 (by decide) rfl hp63 rfl hv64) ?_
    obtain ⟨b65, i66, x68, hp67, hg69, H⟩ := H
    refine lk (dt := some 27) R31_7_N rfl rfl rfl (ov_ldV rfl underlying62 rfl rfl rfl hp67 hg69) ?_
    obtain ⟨q71, l72, c73, n70, hv74, hn75, H⟩ := H
    refine lk (dt := some 28) R31_7_N rfl rfl rfl (ov_len rfl rfl rfl underlying62 rfl hv74 hn75) ?_
    refine lk (dt := some 29) R31_7_N rfl rfl rfl (opv_move rfl rfl rfl) ?_
    refine aops_nil ?_
    refine ago_blockE E31_24 ?_
    refine ago_loopE E31_25 ?_
    obtain ⟨n, H⟩ := H
    exact S31_2_ok Q E  n _ m_0 l_3 n70 0 aw h0 h3 rfl rfl H
theorem S31_1_ok (Q : Value → AW → Prop) (E : List PanicEntry → AW → Prop)  : ∀ (n : Nat) (ρ : Env) (m_0 : Value) (l_3 : Value) (t_10 : Int) (t_11 : Int) (aw : AW) (h0 : ρ 0 = m_0) (h3 : ρ 3 = l_3) (h10 : ρ 10 = .int .i64 t_10) (h11 : ρ 11 = .int .i64 t_11), S31_1 Q E  n m_0 l_3 t_10 t_11 aw →
    AGo prog 43 [.code C31_9, .inLoop C31_9, .inBlock 0, .code C31_21] ρ [] aw (RR prog f31 43 sh31 Q E)
  | 0, _, _, _, _, _, _, _, _, _, _ => fun H => H.elim
  | n + 1, ρ, m_0, l_3, t_10, t_11, aw, h0, h3, h10, h11 => fun H => S31_1s_ok Q E  _ (S31_1_ok Q E  n) ρ m_0 l_3 t_10 t_11 aw h0 h3 h10 h11 H
theorem S31_0_ok (Q : Value → AW → Prop) (E : List PanicEntry → AW → Prop)  (ρ : Env) (m_0 : Value) (aw : AW) (h0 : ρ 0 = m_0) (H : S31_0 Q E  m_0 aw) :
    AGo prog 43 [.code C31_0] ρ [] aw (RR prog f31 43 sh31 Q E) := by
  unfold S31_0 at H
  refine ago_seqE E31_0 ?_
  refine ago_regE E31_1 (l := [0]) rfl ?_
  refine lk (dt := some 2) R31_0_N rfl rfl rfl (opv_assign rfl rfl rfl) ?_
  refine aops_nil ?_
  refine ago_seqE E31_2 ?_
  refine ago_regE E31_3 (l := [0]) rfl ?_
  refine lk (dt := some 3) R31_1_N rfl rfl rfl (opv_assign rfl rfl rfl) ?_
  refine aops_nil ?_
  refine ago_seqE E31_4 ?_
  refine ago_seqE E31_5 ?_
  refine ago_regE E31_6 (l := [0, 1, 2, 3, 4, 5]) rfl ?_
  refine lk (dt := some 6) R31_2_N rfl rfl rfl (opv_move rfl rfl h0) ?_
  obtain ⟨hp76, H⟩ := H
  refine lk (dt := some 7) R31_2_N rfl rfl rfl (ov_nck rfl rfl rfl hp76) ?_
  obtain ⟨b78, i79, p77, hp80, hv81, H⟩ := H
  refine lk (dt := some 8) R31_2_N rfl rfl rfl (ov_fldA rfl rfl underlying77 rfl sz62 (by decide) rfl hp80 rfl hv81) ?_
  obtain ⟨b82, i83, x85, hp84, hg86, H⟩ := H
  refine lk (dt := some 9) R31_2_N rfl rfl rfl (ov_ldV rfl underlying62 rfl rfl rfl hp84 hg86) ?_
  obtain ⟨q88, l89, c90, n87, hv91, hn92, H⟩ := H
  refine lk (dt := some 10) R31_2_N rfl rfl rfl (ov_len rfl rfl rfl underlying62 rfl hv91 hn92) ?_
  refine lk (dt := some 11) R31_2_N rfl rfl rfl (opv_move rfl rfl rfl) ?_
  refine aops_nil ?_
  refine ago_blockE E31_7 ?_
  refine ago_loopE E31_8 ?_
  obtain ⟨n, H⟩ := H
  exact S31_1_ok Q E  n _ m_0 (.slice none 0 0) n87 0 aw h0 rfl rfl rfl H
theorem F31_ok {Q : Value → AW → Prop} {E : List PanicEntry → AW → Prop} (m_0 : Value) (aw : AW) (H : S31_0 Q E m_0 aw) : CallP prog 31 [m_0] aw sh31 Q E :=
  callP_of func31 C31_is rfl (Nat.le_of_ble_eq_true rfl) (S31_0_ok Q E _ m_0 aw rfl H)
def C34_0 : Code := bodyOf f34
theorem C34_is : f34.body = some C34_0 := by kernel_rfl
def R34_0 : Array Oper := regOps C34_0
theorem R34_0_N : dstsOk 14 R34_0 = true := by decide +kernel
theorem E34_0 : C34_0 = .region 0 R34_0 false := rfl
def S34_0 (Q : Unit → AW → Prop) (E : List PanicEntry → AW → Prop)  (m_0 : Value) (w_1 : Int) (aw : AW) : Prop :=
  nck m_0 (fldA m_0 3 fun p2 =>
  ldV aw p2 fun x10 =>
  alcS aw [.int .u64 w_1] 26 1 1 fun p12 aw13 =>
  app aw13 26 1 8 x10 p12 fun v16 aw17 =>
  nck m_0 (fldA m_0 3 fun p20 =>
  st aw17 p20 [v16] fun aw25 =>
  Q () aw25))
theorem S34_0_ok (Q : Unit → AW → Prop) (E : List PanicEntry → AW → Prop)  (ρ : Env) (m_0 : Value) (w_1 : Int) (aw : AW) (h0 : ρ 0 = m_0) (h1 : ρ 1 = .int .u64 w_1) (H : S34_0 Q E  m_0 w_1 aw) :
    AGo prog 14 [.code C34_0] ρ [] aw (RR prog f34 14 sh34 Q E) := by
  unfold S34_0 at H
  refine ago_regE E34_0 (l := [0, 1, 2, 3, 4, 5, 6, 7, 8, 9, 10]) rfl ?_
  refine lk (dt := some 4) R34_0_N rfl rfl rfl (opv_move rfl rfl h0) ?_
  refine lk (dt := some 5) R34_0_N rfl rfl rfl (opv_move rfl rfl h0) ?_
  obtain ⟨hp1, H⟩ := H
  refine lk (dt := some 6) R34_0_N rfl rfl rfl (ov_nck rfl rfl rfl hp1) ?_
  obtain ⟨b3, i4, p2, hp5, hv6, H⟩ := H
  refine lk (dt := some 7) R34_0_N rfl rfl rfl (ov_fldA rfl rfl underlying77 rfl sz62 (by decide) rfl hp5 rfl hv6) ?_
  obtain ⟨b7, i8, x10, hp9, hg11, H⟩ := H
  refine lk (dt := some 8) R34_0_N rfl rfl rfl (ov_ldV rfl underlying62 rfl rfl rfl hp9 hg11) ?_
  refine lk (dt := some 9) R34_0_N rfl rfl rfl (opv_move rfl rfl h1) ?_
  obtain ⟨p12, aw13, hp14, ha15, H⟩ := H
  refine lk (dt := some 10) R34_0_N rfl rfl rfl (ov_bsA (r := [.int .u64 w_1]) (vs := [.int .u64 w_1]) rfl rfl underlying62 sz26 z26 rfl rfl rfl rfl rfl (mp_cons rfl rfl) (.one rfl .nil) hp14 ha15) ?_
  obtain ⟨v16, aw17, hq18, H⟩ := H
  refine lk (dt := some 11) R34_0_N rfl rfl rfl (ov_app rfl rfl rfl rfl underlying62 sz26 by26 underlying62 rfl z26 rfl (by decide) (by decide) rfl rfl hq18) ?_
  obtain ⟨hp19, H⟩ := H
  refine lk (dt := some 12) R34_0_N rfl rfl rfl (ov_nck rfl rfl rfl hp19) ?_
  obtain ⟨b21, i22, p20, hp23, hv24, H⟩ := H
  refine lk (dt := some 13) R34_0_N rfl rfl rfl (ov_fldA rfl rfl underlying77 rfl sz62 (by decide) rfl hp23 rfl hv24) ?_
  obtain ⟨b26, i27, aw25, hp28, hw29, ho30, ha31, H⟩ := H
  refine lk (dt := none) R34_0_N rfl rfl rfl (ov_st rfl rfl rfl rfl rfl (cells_all ho30) sz62 hp28 hw29 ho30 ha31) ?_
  refine aops_nil ?_
  exact ago_nilR (r := ()) (ares_0 rfl ) rfl H
theorem F34_ok {Q : Unit → AW → Prop} {E : List PanicEntry → AW → Prop} (m_0 : Value) (w_1 : Int) (aw : AW) (H : S34_0 Q E m_0 w_1 aw) : CallP prog 34 [m_0, .int .u64 w_1] aw sh34 Q E :=
  callP_of func34 C34_is rfl (Nat.le_of_ble_eq_true rfl) (S34_0_ok Q E _ m_0 w_1 aw rfl rfl H)
def C37_0 : Code := bodyOf f37
theorem C37_is : f37.body = some C37_0 := by kernel_rfl
def C37_1 : Code := cl C37_0
def R37_0 : Array Oper := regOps C37_1
def C37_2 : Code := cr C37_0
def C37_3 : Code := cl C37_2
def R37_1 : Array Oper := regOps C37_3
def C37_4 : Code := cr C37_2
def C37_5 : Code := cl C37_4
def R37_2 : Array Oper := regOps C37_5
def C37_6 : Code := cr C37_4
def C37_7 : Code := cl C37_6
def R37_3 : Array Oper := regOps C37_7
def C37_8 : Code := cr C37_6
theorem R37_0_N : dstsOk 31 R37_0 = true := by decide +kernel
theorem E37_1 : C37_1 = .region 0 R37_0 false := rfl
theorem R37_1_N : dstsOk 31 R37_1 = true := by decide +kernel
theorem R37_1_O : linOk R37_1 [0, 1, 2, 3, 4, 5, 6, 7, 8, 9, 10, 11, 12] [] = true := by decide +kernel
theorem E37_3 : C37_3 = .region 1 R37_1 true := rfl
theorem R37_2_N : dstsOk 31 R37_2 = true := by decide +kernel
theorem R37_2_O : linOk R37_2 [0, 1, 2, 3, 4, 5, 6, 7, 8, 9, 10, 11, 12, 13] [(14, [], [])] = true := by decide +kernel
theorem E37_5 : C37_5 = .region 2 R37_2 true := rfl
theorem R37_3_N : dstsOk 31 R37_3 = true := by decide +kernel
theorem E37_7 : C37_7 = .region 3 R37_3 false := rfl
theorem E37_8 : C37_8 = .ret := rfl
theorem E37_6 : C37_6 = .seq C37_7 C37_8 := rfl
theorem E37_4 : C37_4 = .seq C37_5 C37_6 := rfl
theorem E37_2 : C37_2 = .seq C37_3 C37_4 := rfl
theorem E37_0 : C37_0 = .seq C37_1 C37_2 := rfl
def S37_0 (Q : Int → AW → Prop) (E : List PanicEntry → AW → Prop)  (m_0 : Value) (aw : AW) : Prop :=
  nck m_0 (fldA m_0 3 fun p2 =>
  ldV aw p2 fun x10 =>
  nck m_0 (fldA m_0 3 fun p13 =>
  ldV aw p13 fun x21 =>
  slen x21 fun n23 =>
  ixS x10 (IntKind.i64.wrap (n23 - 1)) 1 fun p29 =>
  ldI .u64 aw p29 fun x41 =>
  nck m_0 (fldA m_0 3 fun p44 =>
  ldV aw p44 fun x52 =>
  nck m_0 (fldA m_0 3 fun p55 =>
  ldV aw p55 fun x63 =>
  slen x63 fun n65 =>
  cutV aw 1 x52 0 (IntKind.i64.wrap (n65 - 1)) fun v71 =>
  nck m_0 (fldA m_0 3 fun p74 =>
  st aw p74 [v71] fun aw79 =>
  Q x41 aw79)))))
theorem S37_0_ok (Q : Int → AW → Prop) (E : List PanicEntry → AW → Prop)  (ρ : Env) (m_0 : Value) (aw : AW) (h0 : ρ 0 = m_0) (H : S37_0 Q E  m_0 aw) :
    AGo prog 31 [.code C37_0] ρ [] aw (RR prog f37 31 sh37 Q E) := by
  unfold S37_0 at H
  refine ago_seqE E37_0 ?_
  refine ago_regE E37_1 (l := [0]) rfl ?_
  refine lk (dt := some 2) R37_0_N rfl rfl rfl (opv_assign rfl rfl rfl) ?_
  refine aops_nil ?_
  refine ago_seqE E37_2 ?_
  obtain ⟨hp1, H⟩ := H
  obtain ⟨b3, i4, p2, hp5, hv6, H⟩ := H
  obtain ⟨b7, i8, x10, hp9, hg11, H⟩ := H
  obtain ⟨hp12, H⟩ := H
  obtain ⟨b14, i15, p13, hp16, hv17, H⟩ := H
  obtain ⟨b18, i19, x21, hp20, hg22, H⟩ := H
  obtain ⟨q24, l25, c26, n23, hv27, hn28, H⟩ := H
  obtain ⟨b30, i31, l32, c33, p29, hp34, h035, hj36, hv37, H⟩ := H
  obtain ⟨b38, i39, x41, hp40, hg42, H⟩ := H
  refine ago_drawH (p := [0, 1, 2, 3, 4, 5, 6, 7, 8, 9, 10, 11, 12]) (tl := []) (hv := [(0, m_0), (1, m_0), (2, p2), (3, x10), (4, m_0), (5, m_0), (6, p13), (7, x21), (8, Value.int .i64 n23), (9, Value.int .i64 (IntKind.i64.wrap (n23 - 1))), (10, p29), (11, Value.int .u64 x41), (12, Value.int .u64 x41)]) E37_3 mixed R37_1_N R37_1_O rfl (pv_cons rfl (pv_cons rfl (pv_cons rfl (pv_cons rfl (pv_cons rfl (pv_cons rfl (pv_cons rfl (pv_cons rfl (pv_cons rfl (pv_cons rfl (pv_cons rfl (pv_cons rfl (pv_cons rfl (pv_nil _))))))))))))))
    (ffc (d := 4) (v := m_0) (hd_v rfl fun ρ hρ => ⟨rfl, opv_move rfl rfl ((hρ 0 (lmem rfl)).trans h0)⟩) rfl rfl
    (ffc (d := 5) (v := m_0) (hd_v rfl fun ρ hρ => ⟨rfl, ov_nck rfl rfl ((hρ 4 (lmem rfl)).trans rfl) hp1⟩) rfl rfl
    (ffc (d := 6) (v := p2) (hd_v rfl fun ρ hρ => ⟨rfl, ov_fldA rfl rfl underlying77 rfl sz62 (by decide) ((hρ 5 (lmem rfl)).trans rfl) hp5 rfl hv6⟩) rfl rfl
    (ffc (d := 7) (v := x10) (hd_v rfl fun ρ hρ => ⟨rfl, ov_ldV rfl underlying62 rfl rfl ((hρ 6 (lmem rfl)).trans rfl) hp9 hg11⟩) rfl rfl
    (ffc (d := 8) (v := m_0) (hd_v rfl fun ρ hρ => ⟨rfl, opv_move rfl rfl ((hρ 0 (lmem rfl)).trans h0)⟩) rfl rfl
    (ffc (d := 9) (v := m_0) (hd_v rfl fun ρ hρ => ⟨rfl, ov_nck rfl rfl ((hρ 8 (lmem rfl)).trans rfl) hp12⟩) rfl rfl
    (ffc (d := 10) (v := p13) (hd_v rfl fun ρ hρ => ⟨rfl, ov_fldA rfl rfl underlying77 rfl sz62 (by decide) ((hρ 9 (lmem rfl)).trans rfl) hp16 rfl hv17⟩) rfl rfl
    (ffc (d := 11) (v := x21) (hd_v rfl fun ρ hρ => ⟨rfl, ov_ldV rfl underlying62 rfl rfl ((hρ 10 (lmem rfl)).trans rfl) hp20 hg22⟩) rfl rfl
    (ffc (d := 12) (v := .int .i64 n23) (hd_v rfl fun ρ hρ => ⟨rfl, ov_len rfl rfl rfl underlying62 ((hρ 11 (lmem rfl)).trans rfl) hv27 hn28⟩) rfl rfl
    (ffc (d := 13) (v := .int .i64 (IntKind.i64.wrap (n23 - 1))) (hd_v rfl fun ρ hρ => ⟨rfl, opv_sub rfl rfl rfl ((hρ 12 (lmem rfl)).trans rfl) rfl⟩) rfl rfl
    (ffc (d := 14) (v := p29) (hd_v rfl fun ρ hρ => ⟨rfl, ov_ixS rfl rfl rfl underlying62 sz26 ((hρ 7 (lmem rfl)).trans rfl) ((hρ 13 (lmem rfl)).trans rfl) hp34 h035 hj36 hv37⟩) rfl rfl
    (ffc (d := 15) (v := .int .u64 x41) (hd_v rfl fun ρ hρ => ⟨rfl, ov_ldI rfl underlying26 rfl ((hρ 14 (lmem rfl)).trans rfl) hp40 hg42⟩) rfl rfl
    (ffc (d := 3) (v := .int .u64 x41) (hd_v rfl fun ρ hρ => ⟨rfl, opv_assign rfl rfl ((hρ 15 (lmem rfl)).trans rfl)⟩) rfl rfl
    ffn))))))))))))) ?_
  refine lt_end ?_
  refine ago_seqE E37_4 ?_
  refine ago_cut (fun ρ => ρ 0 = m_0 ∧ ρ 3 = .int .u64 x41 ∧ True) ⟨h0, rfl, trivial⟩ (fun ρ ⟨h0, h3, _⟩ => ?_)
  obtain ⟨hp43, H⟩ := H
  obtain ⟨b45, i46, p44, hp47, hv48, H⟩ := H
  obtain ⟨b49, i50, x52, hp51, hg53, H⟩ := H
  obtain ⟨hp54, H⟩ := H
  obtain ⟨b56, i57, p55, hp58, hv59, H⟩ := H
  obtain ⟨b60, i61, x63, hp62, hg64, H⟩ := H
  obtain ⟨q66, l67, c68, n65, hv69, hn70, H⟩ := H
  obtain ⟨v71, hq72, H⟩ := H
  obtain ⟨hp73, H⟩ := H
  obtain ⟨b75, i76, p74, hp77, hv78, H⟩ := H
  refine ago_drawH (p := [0, 1, 2, 3, 4, 5, 6, 7, 8, 9, 10, 11, 12, 13]) (tl := [(14, [], [])]) (hv := [(0, m_0), (1, m_0), (2, m_0), (3, p44), (4, x52), (5, m_0), (6, m_0), (7, p55), (8, x63), (9, Value.int .i64 n65), (10, Value.int .i64 (IntKind.i64.wrap (n65 - 1))), (11, v71), (12, m_0), (13, p74)]) E37_5 mixed R37_2_N R37_2_O rfl (pv_cons rfl (pv_cons rfl (pv_cons rfl (pv_cons rfl (pv_cons rfl (pv_cons rfl (pv_cons rfl (pv_cons rfl (pv_cons rfl (pv_cons rfl (pv_cons rfl (pv_cons rfl (pv_cons rfl (pv_cons rfl (pv_nil _)))))))))))))))
    (ffc (d := 16) (v := m_0) (hd_v rfl fun ρ hρ => ⟨rfl, opv_move rfl rfl ((hρ 0 (lmem rfl)).trans h0)⟩) rfl rfl
    (ffc (d := 17) (v := m_0) (hd_v rfl fun ρ hρ => ⟨rfl, opv_move rfl rfl ((hρ 0 (lmem rfl)).trans h0)⟩) rfl rfl
    (ffc (d := 18) (v := m_0) (hd_v rfl fun ρ hρ => ⟨rfl, ov_nck rfl rfl ((hρ 17 (lmem rfl)).trans rfl) hp43⟩) rfl rfl
    (ffc (d := 19) (v := p44) (hd_v rfl fun ρ hρ => ⟨rfl, ov_fldA rfl rfl underlying77 rfl sz62 (by decide) ((hρ 18 (lmem rfl)).trans rfl) hp47 rfl hv48⟩) rfl rfl
    (ffc (d := 20) (v := x52) (hd_v rfl fun ρ hρ => ⟨rfl, ov_ldV rfl underlying62 rfl rfl ((hρ 19 (lmem rfl)).trans rfl) hp51 hg53⟩) rfl rfl
    (ffc (d := 21) (v := m_0) (hd_v rfl fun ρ hρ => ⟨rfl, opv_move rfl rfl ((hρ 0 (lmem rfl)).trans h0)⟩) rfl rfl
    (ffc (d := 22) (v := m_0) (hd_v rfl fun ρ hρ => ⟨rfl, ov_nck rfl rfl ((hρ 21 (lmem rfl)).trans rfl) hp54⟩) rfl rfl
    (ffc (d := 23) (v := p55) (hd_v rfl fun ρ hρ => ⟨rfl, ov_fldA rfl rfl underlying77 rfl sz62 (by decide) ((hρ 22 (lmem rfl)).trans rfl) hp58 rfl hv59⟩) rfl rfl
    (ffc (d := 24) (v := x63) (hd_v rfl fun ρ hρ => ⟨rfl, ov_ldV rfl underlying62 rfl rfl ((hρ 23 (lmem rfl)).trans rfl) hp62 hg64⟩) rfl rfl
    (ffc (d := 25) (v := .int .i64 n65) (hd_v rfl fun ρ hρ => ⟨rfl, ov_len rfl rfl rfl underlying62 ((hρ 24 (lmem rfl)).trans rfl) hv69 hn70⟩) rfl rfl
    (ffc (d := 26) (v := .int .i64 (IntKind.i64.wrap (n65 - 1))) (hd_v rfl fun ρ hρ => ⟨rfl, opv_sub rfl rfl rfl ((hρ 25 (lmem rfl)).trans rfl) rfl⟩) rfl rfl
    (ffc (d := 27) (v := v71) (hd_v rfl fun ρ hρ => ⟨rfl, ov_cutV rfl rfl underlying62 sz26 ((hρ 20 (lmem rfl)).trans rfl) (bndN _ _ _) (bndS ((hρ 26 (lmem rfl)).trans rfl)) hq72⟩) rfl rfl
    (ffc (d := 28) (v := m_0) (hd_v rfl fun ρ hρ => ⟨rfl, ov_nck rfl rfl ((hρ 16 (lmem rfl)).trans rfl) hp73⟩) rfl rfl
    (ffc (d := 29) (v := p74) (hd_v rfl fun ρ hρ => ⟨rfl, ov_fldA rfl rfl underlying77 rfl sz62 (by decide) ((hρ 28 (lmem rfl)).trans rfl) hp77 rfl hv78⟩) rfl rfl
    ffn)))))))))))))) ?_
  obtain ⟨b80, i81, aw79, hp82, hw83, ho84, ha85, H⟩ := H
  refine lt_val (dt := none) (v := undef) rfl rfl (fun ρ hρ => ⟨rfl, ov_st rfl rfl rfl ((hρ 29 (lmem rfl)).trans rfl) ((hρ 27 (lmem rfl)).trans rfl) (cells_all ho84) sz62 hp82 hw83 ho84 ha85⟩) ?_
  refine lt_next (l := []) (hv := []) rfl rfl (pv_nil _)
    ffn ?_
  refine lt_end ?_
  refine ago_seqE E37_6 ?_
  refine ago_cut (fun ρ => ρ 3 = .int .u64 x41 ∧ True) ⟨h3, trivial⟩ (fun ρ ⟨h3, _⟩ => ?_)
  refine ago_regE E37_7 (l := [0, 1]) rfl ?_
  refine lk (dt := some 30) R37_3_N rfl rfl rfl (opv_move rfl rfl h3) ?_
  refine lk (dt := some 2) R37_3_N rfl rfl rfl (opv_assign rfl rfl rfl) ?_
  refine aops_nil ?_
  exact ago_retE E37_8 (r := x41) (ares_1 rfl (oneT rfl)) rfl H
theorem F37_ok {Q : Int → AW → Prop} {E : List PanicEntry → AW → Prop} (m_0 : Value) (aw : AW) (H : S37_0 Q E m_0 aw) : CallP prog 37 [m_0] aw sh37 Q E :=
  callP_of func37 C37_is rfl (Nat.le_of_ble_eq_true rfl) (S37_0_ok Q E _ m_0 aw rfl H)
end
end Go.Proofs.Tryd
