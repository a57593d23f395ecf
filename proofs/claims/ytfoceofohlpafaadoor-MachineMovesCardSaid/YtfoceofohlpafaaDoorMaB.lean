/- Printed by a program of the prover: what the Go functions of this seat do, in steps. -/
import Derived.Test.YtfoceofohlpafaaDoorMaF
set_option linter.unusedSectionVars false
set_option linter.unusedSimpArgs false
set_option linter.unusedVariables false
namespace Go.Proofs.Tryd
open Go Go.Am Go.RowKit
set_option maxHeartbeats 4000000
set_option maxRecDepth 100000
noncomputable section
variable [SymE]
def C14_0 := bodyOf f14
theorem C14_is : f14.body = some C14_0 := by kernel_rfl
def C14_1 := cl C14_0
def R14_0 := regOps C14_1
def C14_2 := cr C14_0
def C14_3 := cl C14_2
def R14_1 := regOps C14_3
def C14_4 := cr C14_2
theorem R14_0_N : dstsOk 7 R14_0 = true := by decide +kernel
theorem R14_1_N : dstsOk 7 R14_1 = true := by decide +kernel
def S14_0 (Q : Int → AW → Prop) (E : List PanicEntry → AW → Prop)  (n_0 : Int) (aw : AW) : Prop :=
  Q (bitsOf .or .u64 (IntKind.u64.wrap ((IntKind.u64.wrap n_0) * 2 ^ (min (1 : Int).toNat IntKind.u64.bits))) 1) aw
theorem S14_0_ok (Q : Int → AW → Prop) (E : List PanicEntry → AW → Prop)  (ρ : Env) (n_0 : Int) (aw : AW) (h0 : ρ 0 = .int .i64 n_0) (H : S14_0 Q E  n_0 aw) :
    AGo prog 7 [.code C14_0] ρ [] aw (RR prog f14 7 sh14 Q E) := by
  unfold S14_0 at H
  refine ago_seqE (rfl : C14_0 = .seq C14_1 C14_2) ?_
  refine ago_regE (rfl : C14_1 = .region 0 R14_0 false) (l := [0]) rfl ?_
  refine lj 2 R14_0_N rfl rfl rfl (opv_assign rfl rfl rfl) ?_
  refine aops_nil ?_
  refine ago_seqE (rfl : C14_2 = .seq C14_3 C14_4) ?_
  refine ago_regE (rfl : C14_3 = .region 1 R14_1 false) (l := [0, 1, 2, 3, 4]) rfl ?_
  refine lj 3 R14_1_N rfl rfl rfl (opv_move rfl rfl h0) ?_
  refine lj 4 R14_1_N rfl rfl rfl (opv_conv rfl rfl underlying2 underlying26 rfl) ?_
  refine lj 5 R14_1_N rfl rfl rfl (opv_shl rfl rfl rfl rfl rfl (by decide)) ?_
  refine lj 6 R14_1_N rfl rfl rfl (opv_or rfl rfl rfl rfl rfl) ?_
  refine lj 2 R14_1_N rfl rfl rfl (opv_assign rfl rfl rfl) ?_
  refine aops_nil ?_
  exact ago_retE (rfl : C14_4 = .ret) (r := (bitsOf .or .u64 (IntKind.u64.wrap ((IntKind.u64.wrap n_0) * 2 ^ (min (1 : Int).toNat IntKind.u64.bits))) 1)) (ares_1 rfl (oneT rfl)) rfl H
theorem F14_ok {Q : Int → AW → Prop} {E : List PanicEntry → AW → Prop} (n_0 : Int) (aw : AW) (H : S14_0 Q E n_0 aw) : CallP prog 14 [.int .i64 n_0] aw sh14 Q E :=
  callP_of func14 C14_is rfl (Nat.le_of_ble_eq_true rfl) (S14_0_ok Q E _ n_0 aw rfl H)
def C15_0 := bodyOf f15
theorem C15_is : f15.body = some C15_0 := by kernel_rfl
def C15_1 := cl C15_0
def R15_0 := regOps C15_1
def C15_2 := cr C15_0
def C15_3 := cl C15_2
def R15_1 := regOps C15_3
def C15_4 := cr C15_2
def C15_5 := cl C15_4
def C15_6 := cl C15_5
def R15_2 := regOps C15_6
def C15_7 := cr C15_5
def C15_8 := cl C15_7
def C15_9 := cl C15_8
def R15_3 := regOps C15_9
def C15_10 := cr C15_8
def C15_11 := cr C15_7
def C15_12 := cr C15_4
def C15_13 := cl C15_12
def R15_4 := regOps C15_13
def C15_14 := cr C15_12
def C15_15 := cl C15_14
def C15_16 := cl C15_15
def R15_5 := regOps C15_16
def C15_17 := cr C15_15
def C15_18 := cl C15_17
def C15_19 := cl C15_18
def C15_20 := cl C15_19
def R15_6 := regOps C15_20
def C15_21 := cr C15_19
def C15_22 := cl C15_21
def C15_23 := cl C15_22
def C15_24 := cr C15_22
def C15_25 := cr C15_21
def C15_26 := cl C15_25
def C15_27 := cl C15_26
def C15_28 := cl C15_27
def R15_7 := regOps C15_28
def C15_29 := cr C15_27
def C15_30 := cl C15_29
def R15_8 := regOps C15_30
def C15_31 := cr C15_29
def C15_32 := cl C15_31
def C15_33 := cl C15_32
def R15_9 := regOps C15_33
def C15_34 := cr C15_32
def C15_35 := cl C15_34
def C15_36 := cl C15_35
def R15_10 := regOps C15_36
def C15_37 := cr C15_35
def C15_38 := cr C15_34
def C15_39 := cr C15_31
def R15_11 := regOps C15_39
def C15_40 := cr C15_25
def R15_12 := regOps C15_40
def C15_41 := cr C15_14
def C15_42 := cl C15_41
def R15_13 := regOps C15_42
def C15_43 := cr C15_41
theorem R15_0_N : dstsOk 52 R15_0 = true := by decide +kernel
theorem R15_1_N : dstsOk 52 R15_1 = true := by decide +kernel
theorem R15_2_N : dstsOk 52 R15_2 = true := by decide +kernel
theorem R15_3_N : dstsOk 52 R15_3 = true := by decide +kernel
theorem R15_4_N : dstsOk 52 R15_4 = true := by decide +kernel
theorem R15_5_N : dstsOk 52 R15_5 = true := by decide +kernel
theorem R15_6_N : dstsOk 52 R15_6 = true := by decide +kernel
theorem R15_7_N : dstsOk 52 R15_7 = true := by decide +kernel
theorem R15_8_N : dstsOk 52 R15_8 = true := by decide +kernel
theorem R15_9_N : dstsOk 52 R15_9 = true := by decide +kernel
theorem R15_10_N : dstsOk 52 R15_10 = true := by decide +kernel
theorem R15_11_N : dstsOk 52 R15_11 = true := by decide +kernel
theorem R15_12_N : dstsOk 52 R15_12 = true := by decide +kernel
theorem R15_13_N : dstsOk 52 R15_13 = true := by decide +kernel
def S15_1s (Q : (Value × Int) → AW → Prop) (E : List PanicEntry → AW → Prop)  (nx1 : Value → Value → Int → Int → AW → Prop) (h_6 : Value) (m_8 : Value) (t_23 : Int) (t_24 : Int) (aw : AW) : Prop :=
  cnd (decide (t_24 < t_23)) (CallP prog 14 [.int .i64 t_24] aw sh14 (fun r2 aw3 =>
  alcS aw3 [.int .u64 r2] 26 1 1 fun p4 aw5 =>
  CallP prog 31 [m_8] aw5 sh31 (fun r8 aw9 =>
  CallP prog 30 [h_6, .int .u8 6, p4, r8] aw9 sh30 (fun r10 aw11 =>
  cnd (!decide (r10.2 = 0)) (Q ((.pointer none), r10.2) aw11) (nck m_8 (fldA m_8 2 fun p14 =>
  ldV aw11 p14 fun x22 =>
  alcS aw11 [.int .u64 r10.1] 26 1 1 fun p24 aw25 =>
  app aw25 26 1 8 x22 p24 fun v28 aw29 =>
  nck m_8 (fldA m_8 2 fun p32 =>
  st aw29 p32 [v28] fun aw37 =>
  nx1 h_6 m_8 t_23 (IntKind.i64.wrap (t_24 + 1)) aw37)))) E) E) E) (Q (m_8, 0) aw)
def S15_1 (Q : (Value × Int) → AW → Prop) (E : List PanicEntry → AW → Prop)  : Nat → Value → Value → Int → Int → AW → Prop
  | 0 => fun _ _ _ _ _ => False
  | n + 1 => S15_1s Q E  (S15_1 Q E  n)
def S15_0 (Q : (Value × Int) → AW → Prop) (E : List PanicEntry → AW → Prop)  (quota_0 : Int) (prims_1 : Int) (aw : AW) : Prop :=
  CallP prog 28 [.int .i64 quota_0] aw sh28 (fun r44 aw45 =>
  cnd (!decide (r44.2 = 0)) (Q ((.pointer none), r44.2) aw45) (one r44.1 = true ∧ alc aw45 [r44.1, (.slice none 0 0), (.slice none 0 0), (.slice none 0 0), (.slice none 0 0), (.slice none 0 0), .int .i64 0, .int .i64 0, .int .i64 0, (.pointer none), (.slice none 0 0), (.slice none 0 0)] 77 0 fun p48 aw49 =>
  ∃ n, S15_1 Q E  n r44.1 p48 prims_1 0 aw49)) E
theorem S15_1s_ok (Q : (Value × Int) → AW → Prop) (E : List PanicEntry → AW → Prop)  (nx1 : Value → Value → Int → Int → AW → Prop) (L1 : ∀ (ρ : Env) (h_6 : Value) (m_8 : Value) (t_23 : Int) (t_24 : Int) (aw : AW) (h6 : ρ 6 = h_6) (h8 : ρ 8 = m_8) (h23 : ρ 23 = .int .i64 t_23) (h24 : ρ 24 = .int .i64 t_24), nx1 h_6 m_8 t_23 t_24 aw → AGo prog 52 [.code C15_19, .inLoop C15_19, .inBlock 0, .code C15_41] ρ [] aw (RR prog f15 52 sh15 Q E)) (ρ : Env) (h_6 : Value) (m_8 : Value) (t_23 : Int) (t_24 : Int) (aw : AW) (h6 : ρ 6 = h_6) (h8 : ρ 8 = m_8) (h23 : ρ 23 = .int .i64 t_23) (h24 : ρ 24 = .int .i64 t_24) (H : S15_1s Q E  nx1 h_6 m_8 t_23 t_24 aw) :
    AGo prog 52 [.code C15_19, .inLoop C15_19, .inBlock 0, .code C15_41] ρ [] aw (RR prog f15 52 sh15 Q E) := by
  unfold S15_1s at H
  refine ago_seqE (rfl : C15_19 = .seq C15_20 C15_21) ?_
  refine ago_regE (rfl : C15_20 = .region 6 R15_6 false) (l := [0]) rfl ?_
  refine lj 25 R15_6_N rfl rfl rfl (opv_lt rfl rfl rfl h24 h23) ?_
  refine aops_nil ?_
  refine ago_seqE (rfl : C15_21 = .seq C15_22 C15_25) ?_
  refine ago_condE  (rfl : C15_22 = .cond (.tmp 25) C15_23 C15_24) rfl rfl (fun hb1 => ?_) (fun hb1 => ?_)
  · replace H := cnd_t H hb1
    refine ago_skipE (rfl : C15_23 = .skip) ?_
    refine ago_seqE (rfl : C15_25 = .seq C15_26 C15_40) ?_
    refine ago_blockE (rfl : C15_26 = .block 1 C15_27) ?_
    refine ago_seqE (rfl : C15_27 = .seq C15_28 C15_29) ?_
    refine ago_regE (rfl : C15_28 = .region 7 R15_7 false) (l := [0, 1]) rfl ?_
    refine lj 26 R15_7_N rfl rfl rfl (opv_move rfl rfl h24) ?_
    refine lj 9 R15_7_N rfl rfl rfl (opv_assign rfl rfl rfl) ?_
    refine aops_nil ?_
    refine ago_seqE (rfl : C15_29 = .seq C15_30 C15_31) ?_
    refine ago_regE (rfl : C15_30 = .region 8 R15_8 false) (l := [0, 1, 2, 3, 4, 5, 6, 7, 8, 9, 10, 11]) rfl ?_
    refine lj 28 R15_8_N rfl rfl rfl (opv_move rfl rfl h6) ?_
    refine lj 29 R15_8_N rfl rfl rfl (opv_move rfl rfl rfl) ?_
    refine lc 30 R15_8_N rfl rfl rfl (opc_of rfl rfl is14 (ma_cons rfl rfl)) H (fun _ _ h => ⟨rfl, h⟩) fun r2 aw3 H => ?_
    obtain ⟨p4, aw5, hp6, ha7, H⟩ := H
    refine lj 31 R15_8_N rfl rfl rfl (ov_bsA (r := [.int .u64 r2]) (vs := [.int .u64 r2]) rfl rfl underlying62 sz26 z26 rfl rfl rfl rfl rfl (mp_cons rfl rfl) (.one rfl .nil) hp6 ha7) ?_
    refine lj 32 R15_8_N rfl rfl rfl (opv_move rfl rfl h8) ?_
    refine lc 33 R15_8_N rfl rfl rfl (opc_of rfl rfl is31 (ma_cons rfl rfl)) H (fun _ _ h => ⟨rfl, h⟩) fun r8 aw9 H => ?_
    refine lc 34 R15_8_N rfl rfl rfl (opc_of rfl rfl is30 (ma_cons rfl (ma_cons rfl (ma_cons rfl (ma_cons rfl rfl))))) H (fun _ _ h => ⟨rfl, h⟩) fun r10 aw11 H => ?_
    refine lj 27 R15_8_N rfl rfl rfl (opv_move rfl rfl rfl) ?_
    refine lj 35 R15_8_N rfl rfl rfl (opv_extract rfl rfl rfl rfl) ?_
    refine lj 36 R15_8_N rfl rfl rfl (opv_extract rfl rfl rfl rfl) ?_
    refine lj 10 R15_8_N rfl rfl rfl (opv_assign rfl rfl rfl) ?_
    refine lj 11 R15_8_N rfl rfl rfl (opv_assign rfl rfl rfl) ?_
    refine aops_nil ?_
    refine ago_seqE (rfl : C15_31 = .seq C15_32 C15_39) ?_
    refine ago_seqE (rfl : C15_32 = .seq C15_33 C15_34) ?_
    refine ago_cut (fun ρ => ρ 6 = h_6 ∧ ρ 8 = m_8 ∧ ρ 10 = .int .u64 r10.1 ∧ ρ 11 = .int .i64 r10.2 ∧ ρ 23 = .int .i64 t_23 ∧ ρ 24 = .int .i64 t_24 ∧ True) ⟨h6, h8, rfl, rfl, h23, h24, trivial⟩ (fun ρ ⟨h6, h8, h10, h11, h23, h24, _⟩ => ?_)
    refine ago_regE (rfl : C15_33 = .region 9 R15_9 false) (l := [0, 1]) rfl ?_
    refine lj 37 R15_9_N rfl rfl rfl (opv_move rfl rfl h11) ?_
    refine lj 38 R15_9_N rfl rfl rfl (opv_neI rfl rfl rfl rfl rfl) ?_
    refine aops_nil ?_
    refine ago_condE  (rfl : C15_34 = .cond (.tmp 38) C15_35 C15_38) rfl rfl (fun hb12 => ?_) (fun hb12 => ?_)
    · replace H := cnd_t H hb12
      refine ago_seqE (rfl : C15_35 = .seq C15_36 C15_37) ?_
      refine ago_regE (rfl : C15_36 = .region 10 R15_10 false) (l := [0, 1, 2]) rfl ?_
      refine lj 39 R15_10_N rfl rfl rfl (opv_move rfl rfl h11) ?_
      refine lj 4 R15_10_N rfl rfl rfl (opv_assign rfl rfl rfl) ?_
      refine lj 5 R15_10_N rfl rfl rfl (opv_assign rfl rfl rfl) ?_
      refine aops_nil ?_
      exact ago_retE (rfl : C15_37 = .ret) (r := ((.pointer none), r10.2)) (ares_2 rfl (oneT rfl) (oneT rfl)) rfl H
    replace H := cnd_f H hb12
    refine ago_skipE (rfl : C15_38 = .skip) ?_
    refine ago_regE (rfl : C15_39 = .region 11 R15_11 false) (l := [0, 1, 2, 3, 4, 5, 6, 7, 8, 9, 10]) rfl ?_
    refine lj 40 R15_11_N rfl rfl rfl (opv_move rfl rfl h8) ?_
    refine lj 41 R15_11_N rfl rfl rfl (opv_move rfl rfl h8) ?_
    obtain ⟨hp13, H⟩ := H
    refine lj 42 R15_11_N rfl rfl rfl (ov_nck rfl rfl rfl hp13) ?_
    obtain ⟨b15, i16, p14, hp17, hv18, H⟩ := H
    refine lj 43 R15_11_N rfl rfl rfl (ov_fldA rfl rfl underlying77 rfl sz62 (by decide) rfl hp17 rfl hv18) ?_
    obtain ⟨b19, i20, x22, hp21, hg23, H⟩ := H
    refine lj 44 R15_11_N rfl rfl rfl (ov_ldV rfl underlying62 rfl rfl rfl hp21 hg23) ?_
    refine lj 45 R15_11_N rfl rfl rfl (opv_move rfl rfl h10) ?_
    obtain ⟨p24, aw25, hp26, ha27, H⟩ := H
    refine lj 46 R15_11_N rfl rfl rfl (ov_bsA (r := [.int .u64 r10.1]) (vs := [.int .u64 r10.1]) rfl rfl underlying62 sz26 z26 rfl rfl rfl rfl rfl (mp_cons rfl rfl) (.one rfl .nil) hp26 ha27) ?_
    obtain ⟨v28, aw29, hq30, H⟩ := H
    refine lj 47 R15_11_N rfl rfl rfl (ov_app rfl rfl rfl rfl underlying62 sz26 by26 underlying62 rfl z26 rfl (by decide) (by decide) rfl rfl hq30) ?_
    obtain ⟨hp31, H⟩ := H
    refine lj 48 R15_11_N rfl rfl rfl (ov_nck rfl rfl rfl hp31) ?_
    obtain ⟨b33, i34, p32, hp35, hv36, H⟩ := H
    refine lj 49 R15_11_N rfl rfl rfl (ov_fldA rfl rfl underlying77 rfl sz62 (by decide) rfl hp35 rfl hv36) ?_
    obtain ⟨b38, i39, aw37, hp40, hw41, ho42, ha43, H⟩ := H
    refine lk (dt := none) R15_11_N rfl rfl rfl (ov_st rfl rfl rfl rfl rfl (cells_all ho42) sz62 hp40 hw41 ho42 ha43) ?_
    refine aops_nil ?_
    refine ago_inBlock ?_
    refine ago_cut (fun ρ => ρ 6 = h_6 ∧ ρ 8 = m_8 ∧ ρ 23 = .int .i64 t_23 ∧ ρ 24 = .int .i64 t_24 ∧ True) ⟨h6, h8, h23, h24, trivial⟩ (fun ρ ⟨h6, h8, h23, h24, _⟩ => ?_)
    refine ago_regE (rfl : C15_40 = .region 12 R15_12 false) (l := [0, 1]) rfl ?_
    refine lj 50 R15_12_N rfl rfl rfl (opv_add rfl rfl rfl h24 rfl) ?_
    refine lj 24 R15_12_N rfl rfl rfl (opv_move rfl rfl rfl) ?_
    refine aops_nil ?_
    refine ago_inLoop ?_
    exact L1 _ h_6 m_8 t_23 (IntKind.i64.wrap (t_24 + 1)) aw37 h6 h8 h23 rfl H
  replace H := cnd_f H hb1
  refine ago_exitE (rfl : C15_24 = .exit 0) rfl ?_
  refine ago_seqE (rfl : C15_41 = .seq C15_42 C15_43) ?_
  refine ago_regE (rfl : C15_42 = .region 13 R15_13 false) (l := [0, 1, 2]) rfl ?_
  refine lj 51 R15_13_N rfl rfl rfl (opv_move rfl rfl h8) ?_
  refine lj 4 R15_13_N rfl rfl rfl (opv_assign rfl rfl rfl) ?_
  refine lj 5 R15_13_N rfl rfl rfl (opv_assign rfl rfl rfl) ?_
  refine aops_nil ?_
  exact ago_retE (rfl : C15_43 = .ret) (r := (m_8, 0)) (ares_2 rfl (oneT rfl) (oneT rfl)) rfl H
theorem S15_1_ok (Q : (Value × Int) → AW → Prop) (E : List PanicEntry → AW → Prop)  : ∀ (n : Nat) (ρ : Env) (h_6 : Value) (m_8 : Value) (t_23 : Int) (t_24 : Int) (aw : AW) (h6 : ρ 6 = h_6) (h8 : ρ 8 = m_8) (h23 : ρ 23 = .int .i64 t_23) (h24 : ρ 24 = .int .i64 t_24), S15_1 Q E  n h_6 m_8 t_23 t_24 aw →
    AGo prog 52 [.code C15_19, .inLoop C15_19, .inBlock 0, .code C15_41] ρ [] aw (RR prog f15 52 sh15 Q E)
  | 0, _, _, _, _, _, _, _, _, _, _ => fun H => H.elim
  | n + 1, ρ, h_6, m_8, t_23, t_24, aw, h6, h8, h23, h24 => fun H => S15_1s_ok Q E  _ (S15_1_ok Q E  n) ρ h_6 m_8 t_23 t_24 aw h6 h8 h23 h24 H
theorem S15_0_ok (Q : (Value × Int) → AW → Prop) (E : List PanicEntry → AW → Prop)  (ρ : Env) (quota_0 : Int) (prims_1 : Int) (aw : AW) (h0 : ρ 0 = .int .i64 quota_0) (h1 : ρ 1 = .int .i64 prims_1) (H : S15_0 Q E  quota_0 prims_1 aw) :
    AGo prog 52 [.code C15_0] ρ [] aw (RR prog f15 52 sh15 Q E) := by
  unfold S15_0 at H
  refine ago_seqE (rfl : C15_0 = .seq C15_1 C15_2) ?_
  refine ago_regE (rfl : C15_1 = .region 0 R15_0 false) (l := [0, 1]) rfl ?_
  refine lj 4 R15_0_N rfl rfl rfl (opv_assign rfl rfl rfl) ?_
  refine lj 5 R15_0_N rfl rfl rfl (opv_assign rfl rfl rfl) ?_
  refine aops_nil ?_
  refine ago_seqE (rfl : C15_2 = .seq C15_3 C15_4) ?_
  refine ago_regE (rfl : C15_3 = .region 1 R15_1 false) (l := [0, 1, 2, 3, 4, 5, 6]) rfl ?_
  refine lj 13 R15_1_N rfl rfl rfl (opv_move rfl rfl h0) ?_
  refine lc 14 R15_1_N rfl rfl rfl (opc_of rfl rfl is28 (ma_cons rfl rfl)) H (fun _ _ h => ⟨rfl, h⟩) fun r44 aw45 H => ?_
  refine lj 12 R15_1_N rfl rfl rfl (opv_move rfl rfl rfl) ?_
  refine lj 15 R15_1_N rfl rfl rfl (opv_extract rfl rfl rfl rfl) ?_
  refine lj 16 R15_1_N rfl rfl rfl (opv_extract rfl rfl rfl rfl) ?_
  refine lj 6 R15_1_N rfl rfl rfl (opv_assign rfl rfl rfl) ?_
  refine lj 7 R15_1_N rfl rfl rfl (opv_assign rfl rfl rfl) ?_
  refine aops_nil ?_
  refine ago_seqE (rfl : C15_4 = .seq C15_5 C15_12) ?_
  refine ago_seqE (rfl : C15_5 = .seq C15_6 C15_7) ?_
  refine ago_regE (rfl : C15_6 = .region 2 R15_2 false) (l := [0, 1]) rfl ?_
  refine lj 17 R15_2_N rfl rfl rfl (opv_move rfl rfl rfl) ?_
  refine lj 18 R15_2_N rfl rfl rfl (opv_neI rfl rfl rfl rfl rfl) ?_
  refine aops_nil ?_
  refine ago_condE  (rfl : C15_7 = .cond (.tmp 18) C15_8 C15_11) rfl rfl (fun hb46 => ?_) (fun hb46 => ?_)
  · replace H := cnd_t H hb46
    refine ago_seqE (rfl : C15_8 = .seq C15_9 C15_10) ?_
    refine ago_regE (rfl : C15_9 = .region 3 R15_3 false) (l := [0, 1, 2]) rfl ?_
    refine lj 19 R15_3_N rfl rfl rfl (opv_move rfl rfl rfl) ?_
    refine lj 4 R15_3_N rfl rfl rfl (opv_assign rfl rfl rfl) ?_
    refine lj 5 R15_3_N rfl rfl rfl (opv_assign rfl rfl rfl) ?_
    refine aops_nil ?_
    exact ago_retE (rfl : C15_10 = .ret) (r := ((.pointer none), r44.2)) (ares_2 rfl (oneT rfl) (oneT rfl)) rfl H
  replace H := cnd_f H hb46
  refine ago_skipE (rfl : C15_11 = .skip) ?_
  refine ago_seqE (rfl : C15_12 = .seq C15_13 C15_14) ?_
  refine ago_regE (rfl : C15_13 = .region 4 R15_4 false) (l := [0, 1, 2, 3]) rfl ?_
  refine lj 20 R15_4_N rfl rfl rfl (opv_move rfl rfl rfl) ?_
  obtain ⟨h147, H⟩ := H
  refine lj 21 R15_4_N rfl rfl rfl (ov_bld (r := [r44.1, (.slice none 0 0), (.slice none 0 0), (.slice none 0 0), (.slice none 0 0), (.slice none 0 0), .int .i64 0, .int .i64 0, .int .i64 0, (.pointer none), (.slice none 0 0), (.slice none 0 0)]) rfl rfl bo77 (mp_cons rfl rfl) (fillP (cells_one h147) rfl rfl rfl (fillN rfl))) ?_
  obtain ⟨p48, aw49, hp50, ha51, H⟩ := H
  refine lj 22 R15_4_N rfl rfl rfl (ov_box rfl rfl rfl rfl hp50 ha51) ?_
  refine lj 8 R15_4_N rfl rfl rfl (opv_assign rfl rfl rfl) ?_
  refine aops_nil ?_
  refine ago_seqE (rfl : C15_14 = .seq C15_15 C15_41) ?_
  refine ago_seqE (rfl : C15_15 = .seq C15_16 C15_17) ?_
  refine ago_cut (fun ρ => ρ 1 = .int .i64 prims_1 ∧ ρ 6 = r44.1 ∧ ρ 8 = p48 ∧ True) ⟨h1, rfl, rfl, trivial⟩ (fun ρ ⟨h1, h6, h8, _⟩ => ?_)
  refine ago_regE (rfl : C15_16 = .region 5 R15_5 false) (l := [0, 1]) rfl ?_
  refine lj 23 R15_5_N rfl rfl rfl (opv_move rfl rfl h1) ?_
  refine lj 24 R15_5_N rfl rfl rfl (opv_move rfl rfl rfl) ?_
  refine aops_nil ?_
  refine ago_blockE (rfl : C15_17 = .block 0 C15_18) ?_
  refine ago_loopE (rfl : C15_18 = .loop C15_19) ?_
  obtain ⟨n, H⟩ := H
  exact S15_1_ok Q E  n _ r44.1 p48 prims_1 0 aw49 h6 h8 rfl rfl H
theorem F15_ok {Q : (Value × Int) → AW → Prop} {E : List PanicEntry → AW → Prop} (quota_0 : Int) (prims_1 : Int) (aw : AW) (H : S15_0 Q E quota_0 prims_1 aw) : CallP prog 15 [.int .i64 quota_0, .int .i64 prims_1] aw sh15 Q E :=
  callP_of func15 C15_is rfl (Nat.le_of_ble_eq_true rfl) (S15_0_ok Q E _ quota_0 prims_1 aw rfl rfl H)
def C16_0 := bodyOf f16
theorem C16_is : f16.body = some C16_0 := by kernel_rfl
def C16_1 := cl C16_0
def R16_0 := regOps C16_1
def C16_2 := cr C16_0
def C16_3 := cl C16_2
def C16_4 := cl C16_3
def C16_5 := cl C16_4
def R16_1 := regOps C16_5
def C16_6 := cr C16_4
def C16_7 := cl C16_6
def C16_10 := cr C16_6
def C16_11 := cl C16_10
def R16_3 := regOps C16_11
def C16_12 := cr C16_10
def C16_13 := cl C16_12
def C16_16 := cr C16_12
def C16_17 := cl C16_16
def R16_5 := regOps C16_17
def C16_18 := cr C16_16
def C16_19 := cl C16_18
def C16_22 := cr C16_18
def C16_23 := cr C16_2
def C16_24 := cl C16_23
def R16_7 := regOps C16_24
def C16_25 := cr C16_23
def C16_26 := cl C16_25
def R16_8 := regOps C16_26
def C16_27 := cr C16_25
theorem R16_0_N : dstsOk 42 R16_0 = true := by decide +kernel
theorem R16_1_N : dstsOk 42 R16_1 = true := by decide +kernel
theorem R16_3_N : dstsOk 42 R16_3 = true := by decide +kernel
theorem R16_5_N : dstsOk 42 R16_5 = true := by decide +kernel
theorem R16_5_O : linOk R16_5 [0, 1, 2, 3, 4, 7, 8, 9, 10, 11] [(5, [7, 8, 9, 10, 11], []), (6, [7, 8, 9, 10, 11], []), (12, [], [13, 14])] = true := by decide +kernel
theorem R16_7_N : dstsOk 42 R16_7 = true := by decide +kernel
theorem R16_8_N : dstsOk 42 R16_8 = true := by decide +kernel
def S16_0 (Q : Int → AW → Prop) (E : List PanicEntry → AW → Prop)  (m_0 : Value) (l_1 : Value) (aw : AW) : Prop :=
  nilB (.pointer 77) m_0 (.pointer none) fun q1 =>
  cnd q1 (False) (nck m_0 (fldA m_0 1 fun p6 =>
  ldV aw p6 fun x14 =>
  slen x14 fun n16 =>
  slen l_1 fun n22 =>
  cnd (decide (4000 < (IntKind.i64.wrap (n16 + n22)))) (False) (nck m_0 (fldA m_0 1 fun p30 =>
  ldV aw p30 fun x38 =>
  nck m_0 (fldA m_0 2 fun p41 =>
  ldV aw p41 fun x49 =>
  slen x49 fun n51 =>
  one x38 = true ∧ one l_1 = true ∧ alcS aw [x38, l_1] 44 1 2 fun p57 aw58 =>
  again1 aw58 p41 (x49) ∧ CallP prog 32 [p57] aw58 sh32 (fun r63 aw64 =>
  again1 aw64 p41 (x49) ∧ CallP prog 21 [r63, .int .i64 n51] aw64 sh21 (fun r65 aw66 =>
  cnd (!r65) (False) (nck m_0 (fldA m_0 1 fun p69 =>
  ldV aw66 p69 fun x77 =>
  app aw66 43 2 32 x77 l_1 fun v79 aw80 =>
  nck m_0 (fldA m_0 1 fun p83 =>
  st aw80 p83 [v79] fun aw88 =>
  Q 0 aw88)))) E) E)))))
theorem S16_0_ok (Q : Int → AW → Prop) (E : List PanicEntry → AW → Prop)  (ρ : Env) (m_0 : Value) (l_1 : Value) (aw : AW) (h0 : ρ 0 = m_0) (h1 : ρ 1 = l_1) (H : S16_0 Q E  m_0 l_1 aw) :
    AGo prog 42 [.code C16_0] ρ [] aw (RR prog f16 42 sh16 Q E) := by
  unfold S16_0 at H
  refine ago_seqE (rfl : C16_0 = .seq C16_1 C16_2) ?_
  refine ago_regE (rfl : C16_1 = .region 0 R16_0 false) (l := [0]) rfl ?_
  refine lj 4 R16_0_N rfl rfl rfl (opv_assign rfl rfl rfl) ?_
  refine aops_nil ?_
  refine ago_seqE (rfl : C16_2 = .seq C16_3 C16_23) ?_
  refine ago_blockE (rfl : C16_3 = .block 0 C16_4) ?_
  refine ago_seqE (rfl : C16_4 = .seq C16_5 C16_6) ?_
  refine ago_regE (rfl : C16_5 = .region 1 R16_1 false) (l := [0, 1, 2]) rfl ?_
  refine lj 6 R16_1_N rfl rfl rfl (opv_move rfl rfl h0) ?_
  obtain ⟨q1, hf2, hq3, H⟩ := H
  refine lj 7 R16_1_N rfl rfl rfl (ov_eqNil rfl rfl underlying30 rfl hf2 hq3) ?_
  refine lj 5 R16_1_N rfl rfl rfl (opv_assign rfl rfl rfl) ?_
  refine aops_nil ?_
  refine ago_condE  (rfl : C16_6 = .cond (.tmp 5) C16_7 C16_10) rfl rfl (fun hb4 => ?_) (fun hb4 => ?_)
  · exact (cnd_t H hb4).elim
  replace H := cnd_f H hb4
  refine ago_seqE (rfl : C16_10 = .seq C16_11 C16_12) ?_
  refine ago_regE (rfl : C16_11 = .region 3 R16_3 false) (l := [0, 1, 2, 3, 4, 5, 6, 7, 8, 9]) rfl ?_
  refine lj 9 R16_3_N rfl rfl rfl (opv_move rfl rfl h0) ?_
  obtain ⟨hp5, H⟩ := H
  refine lj 10 R16_3_N rfl rfl rfl (ov_nck rfl rfl rfl hp5) ?_
  obtain ⟨b7, i8, p6, hp9, hv10, H⟩ := H
  refine lj 11 R16_3_N rfl rfl rfl (ov_fldA rfl rfl underlying77 rfl sz44 (by decide) rfl hp9 rfl hv10) ?_
  obtain ⟨b11, i12, x14, hp13, hg15, H⟩ := H
  refine lj 12 R16_3_N rfl rfl rfl (ov_ldV rfl underlying44 rfl rfl rfl hp13 hg15) ?_
  obtain ⟨q17, l18, c19, n16, hv20, hn21, H⟩ := H
  refine lj 13 R16_3_N rfl rfl rfl (ov_len rfl rfl rfl underlying44 rfl hv20 hn21) ?_
  refine lj 14 R16_3_N rfl rfl rfl (opv_move rfl rfl h1) ?_
  obtain ⟨q23, l24, c25, n22, hv26, hn27, H⟩ := H
  refine lj 15 R16_3_N rfl rfl rfl (ov_len rfl rfl rfl underlying44 rfl hv26 hn27) ?_
  refine lj 16 R16_3_N rfl rfl rfl (opv_add rfl rfl rfl rfl rfl) ?_
  refine lj 17 R16_3_N rfl rfl rfl (opv_gt rfl rfl rfl rfl rfl) ?_
  refine lj 8 R16_3_N rfl rfl rfl (opv_assign rfl rfl rfl) ?_
  refine aops_nil ?_
  refine ago_condE  (rfl : C16_12 = .cond (.tmp 8) C16_13 C16_16) rfl rfl (fun hb28 => ?_) (fun hb28 => ?_)
  · exact (cnd_t H hb28).elim
  replace H := cnd_f H hb28
  refine ago_seqE (rfl : C16_16 = .seq C16_17 C16_18) ?_
  refine ago_cut (fun ρ => ρ 0 = m_0 ∧ ρ 1 = l_1 ∧ True) ⟨h0, h1, trivial⟩ (fun ρ ⟨h0, h1, _⟩ => ?_)
  obtain ⟨hp29, H⟩ := H
  obtain ⟨b31, i32, p30, hp33, hv34, H⟩ := H
  obtain ⟨b35, i36, x38, hp37, hg39, H⟩ := H
  obtain ⟨hp40, H⟩ := H
  obtain ⟨b42, i43, p41, hp44, hv45, H⟩ := H
  obtain ⟨b46, i47, x49, hp48, hg50, H⟩ := H
  obtain ⟨q52, l53, c54, n51, hv55, hn56, H⟩ := H
  refine ago_drawH (p := [0, 1, 2, 3, 4, 7, 8, 9, 10, 11]) (tl := [(5, [7, 8, 9, 10, 11], []), (6, [7, 8, 9, 10, 11], []), (12, [], [13, 14])]) (hv := [(0, m_0), (1, m_0), (2, p30), (3, x38), (4, l_1), (7, m_0), (8, m_0), (9, p41), (10, x49), (11, Value.int .i64 n51)]) (rfl : C16_17 = .region 5 R16_5 true) mixed R16_5_N R16_5_O rfl (pv_cons rfl (pv_cons rfl (pv_cons rfl (pv_cons rfl (pv_cons rfl (pv_cons rfl (pv_cons rfl (pv_cons rfl (pv_cons rfl (pv_cons rfl (pv_nil _)))))))))))
    (fc 19 m_0 (hd_v rfl fun ρ hρ => ⟨rfl, opv_move rfl rfl ((hρ 0 (lmem rfl)).trans h0)⟩) rfl rfl
    (fc 20 m_0 (hd_v rfl fun ρ hρ => ⟨rfl, ov_nck rfl rfl ((hρ 19 (lmem rfl)).trans rfl) hp29⟩) rfl rfl
    (fc 21 p30 (hd_v rfl fun ρ hρ => ⟨rfl, ov_fldA rfl rfl underlying77 rfl sz44 (by decide) ((hρ 20 (lmem rfl)).trans rfl) hp33 rfl hv34⟩) rfl rfl
    (fc 22 x38 (hd_v rfl fun ρ hρ => ⟨rfl, ov_ldV rfl underlying44 rfl rfl ((hρ 21 (lmem rfl)).trans rfl) hp37 hg39⟩) rfl rfl
    (fc 23 l_1 (hd_v rfl fun ρ hρ => ⟨rfl, opv_move rfl rfl ((hρ 1 (lmem rfl)).trans h1)⟩) rfl rfl
    (fc 26 m_0 (hd_v rfl fun ρ hρ => ⟨rfl, opv_move rfl rfl ((hρ 0 (lmem rfl)).trans h0)⟩) rfl rfl
    (fc 27 m_0 (hd_v rfl fun ρ hρ => ⟨rfl, ov_nck rfl rfl ((hρ 26 (lmem rfl)).trans rfl) hp40⟩) rfl rfl
    (fc 28 p41 (hd_v rfl fun ρ hρ => ⟨rfl, ov_fldA rfl rfl underlying77 rfl sz62 (by decide) ((hρ 27 (lmem rfl)).trans rfl) hp44 rfl hv45⟩) rfl rfl
    (fc 29 x49 (hd_v rfl fun ρ hρ => ⟨rfl, ov_ldV rfl underlying62 rfl rfl ((hρ 28 (lmem rfl)).trans rfl) hp48 hg50⟩) rfl rfl
    (fc 30 (.int .i64 n51) (hd_v rfl fun ρ hρ => ⟨rfl, ov_len rfl rfl rfl underlying62 ((hρ 29 (lmem rfl)).trans rfl) hv55 hn56⟩) rfl rfl
    ffn)))))))))) ?_
  obtain ⟨h161, H⟩ := H
  obtain ⟨h162, H⟩ := H
  obtain ⟨p57, aw58, hp59, ha60, H⟩ := H
  refine lt_val (dt := some 24) (v := p57) rfl rfl (fun ρ hρ => ⟨rfl, ov_bsA (r := [x38, l_1]) (vs := [x38, l_1]) rfl rfl underlying111 sz44 z44 rfl rfl rfl rfl rfl (mp_cons ((hρ 22 (lmem rfl)).trans rfl) (mp_cons ((hρ 23 (lmem rfl)).trans rfl) rfl)) (.one (cells_one h161) (.one (cells_one h162) .nil)) hp59 ha60⟩) ?_
  obtain ⟨hg50, H⟩ := H
  replace hg50 := hg50 _ _ hp48
  refine lt_next (l := [7, 8, 9, 10, 11]) (hv := []) rfl rfl (pv_nil _)
    (fc 26 m_0 (hd_v rfl fun ρ hρ => ⟨rfl, opv_move rfl rfl ((hρ 0 (lmem rfl)).trans h0)⟩) rfl rfl
    (fc 27 m_0 (hd_v rfl fun ρ hρ => ⟨rfl, ov_nck rfl rfl ((hρ 26 (lmem rfl)).trans rfl) hp40⟩) rfl rfl
    (fc 28 p41 (hd_v rfl fun ρ hρ => ⟨rfl, ov_fldA rfl rfl underlying77 rfl sz62 (by decide) ((hρ 27 (lmem rfl)).trans rfl) hp44 rfl hv45⟩) rfl rfl
    (fc 29 x49 (hd_v rfl fun ρ hρ => ⟨rfl, ov_ldV rfl underlying62 rfl rfl ((hρ 28 (lmem rfl)).trans rfl) hp48 hg50⟩) rfl rfl
    (fc 30 (.int .i64 n51) (hd_v rfl fun ρ hρ => ⟨rfl, ov_len rfl rfl rfl underlying62 ((hρ 29 (lmem rfl)).trans rfl) hv55 hn56⟩) rfl rfl
    ffn))))) ?_
  refine lt_call (dt := some 25) rfl rfl (fun ρ hρ => ⟨rfl, opc_of rfl rfl is32 (ma_cons ((hρ 24 (lmem rfl)).trans rfl) rfl)⟩) H (fun _ _ h _ => ⟨rfl, h⟩) fun r63 aw64 H => ?_
  obtain ⟨hg50, H⟩ := H
  replace hg50 := hg50 _ _ hp48
  refine lt_next (l := [7, 8, 9, 10, 11]) (hv := []) rfl rfl (pv_nil _)
    (fc 26 m_0 (hd_v rfl fun ρ hρ => ⟨rfl, opv_move rfl rfl ((hρ 0 (lmem rfl)).trans h0)⟩) rfl rfl
    (fc 27 m_0 (hd_v rfl fun ρ hρ => ⟨rfl, ov_nck rfl rfl ((hρ 26 (lmem rfl)).trans rfl) hp40⟩) rfl rfl
    (fc 28 p41 (hd_v rfl fun ρ hρ => ⟨rfl, ov_fldA rfl rfl underlying77 rfl sz62 (by decide) ((hρ 27 (lmem rfl)).trans rfl) hp44 rfl hv45⟩) rfl rfl
    (fc 29 x49 (hd_v rfl fun ρ hρ => ⟨rfl, ov_ldV rfl underlying62 rfl rfl ((hρ 28 (lmem rfl)).trans rfl) hp48 hg50⟩) rfl rfl
    (fc 30 (.int .i64 n51) (hd_v rfl fun ρ hρ => ⟨rfl, ov_len rfl rfl rfl underlying62 ((hρ 29 (lmem rfl)).trans rfl) hv55 hn56⟩) rfl rfl
    ffn))))) ?_
  refine lt_call (dt := some 31) rfl rfl (fun ρ hρ => ⟨rfl, opc_of rfl rfl is21 (ma_cons ((hρ 25 (lmem rfl)).trans rfl) (ma_cons ((hρ 30 (lmem rfl)).trans rfl) rfl))⟩) H (fun _ _ h _ => ⟨rfl, h⟩) fun r65 aw66 H => ?_
  refine lt_next (l := [13, 14]) (hv := [(13, Value.bool (!r65)), (14, Value.bool (!r65))]) rfl rfl (pv_cons rfl (pv_cons rfl (pv_nil _)))
    (fc 32 (.bool (!r65)) (hd_v rfl fun ρ hρ => ⟨rfl, opv_not rfl rfl ((hρ 31 (lmem rfl)).trans rfl)⟩) rfl rfl
    (fc 18 (.bool (!r65)) (hd_v rfl fun ρ hρ => ⟨rfl, opv_assign rfl rfl ((hρ 32 (lmem rfl)).trans rfl)⟩) rfl rfl
    ffn)) ?_
  refine lt_end ?_
  refine ago_condE  (rfl : C16_18 = .cond (.tmp 18) C16_19 C16_22) rfl rfl (fun hb67 => ?_) (fun hb67 => ?_)
  · exact (cnd_t H hb67).elim
  replace H := cnd_f H hb67
  refine ago_skipE (rfl : C16_22 = .skip) ?_
  refine ago_inBlock ?_
  refine ago_seqE (rfl : C16_23 = .seq C16_24 C16_25) ?_
  refine ago_cut (fun ρ => ρ 0 = m_0 ∧ ρ 1 = l_1 ∧ True) ⟨h0, h1, trivial⟩ (fun ρ ⟨h0, h1, _⟩ => ?_)
  refine ago_regE (rfl : C16_24 = .region 7 R16_7 false) (l := [0, 1, 2, 3, 4, 5, 6, 7, 8, 9]) rfl ?_
  refine lj 33 R16_7_N rfl rfl rfl (opv_move rfl rfl h0) ?_
  refine lj 34 R16_7_N rfl rfl rfl (opv_move rfl rfl h0) ?_
  obtain ⟨hp68, H⟩ := H
  refine lj 35 R16_7_N rfl rfl rfl (ov_nck rfl rfl rfl hp68) ?_
  obtain ⟨b70, i71, p69, hp72, hv73, H⟩ := H
  refine lj 36 R16_7_N rfl rfl rfl (ov_fldA rfl rfl underlying77 rfl sz44 (by decide) rfl hp72 rfl hv73) ?_
  obtain ⟨b74, i75, x77, hp76, hg78, H⟩ := H
  refine lj 37 R16_7_N rfl rfl rfl (ov_ldV rfl underlying44 rfl rfl rfl hp76 hg78) ?_
  refine lj 38 R16_7_N rfl rfl rfl (opv_move rfl rfl h1) ?_
  obtain ⟨v79, aw80, hq81, H⟩ := H
  refine lj 39 R16_7_N rfl rfl rfl (ov_app rfl rfl rfl rfl underlying44 sz43 by43 underlying44 rfl z43 rfl (by decide) (by decide) rfl rfl hq81) ?_
  obtain ⟨hp82, H⟩ := H
  refine lj 40 R16_7_N rfl rfl rfl (ov_nck rfl rfl rfl hp82) ?_
  obtain ⟨b84, i85, p83, hp86, hv87, H⟩ := H
  refine lj 41 R16_7_N rfl rfl rfl (ov_fldA rfl rfl underlying77 rfl sz44 (by decide) rfl hp86 rfl hv87) ?_
  obtain ⟨b89, i90, aw88, hp91, hw92, ho93, ha94, H⟩ := H
  refine lk (dt := none) R16_7_N rfl rfl rfl (ov_st rfl rfl rfl rfl rfl (cells_all ho93) sz44 hp91 hw92 ho93 ha94) ?_
  refine aops_nil ?_
  refine ago_seqE (rfl : C16_25 = .seq C16_26 C16_27) ?_
  refine ago_regE (rfl : C16_26 = .region 8 R16_8 false) (l := [0]) rfl ?_
  refine lj 4 R16_8_N rfl rfl rfl (opv_assign rfl rfl rfl) ?_
  refine aops_nil ?_
  exact ago_retE (rfl : C16_27 = .ret) (r := 0) (ares_1 rfl (oneT rfl)) rfl H
theorem F16_ok {Q : Int → AW → Prop} {E : List PanicEntry → AW → Prop} (m_0 : Value) (l_1 : Value) (aw : AW) (H : S16_0 Q E m_0 l_1 aw) : CallP prog 16 [m_0, l_1] aw sh16 Q E :=
  callP_of func16 C16_is rfl (Nat.le_of_ble_eq_true rfl) (S16_0_ok Q E _ m_0 l_1 aw rfl rfl H)
def C17_0 := bodyOf f17
theorem C17_is : f17.body = some C17_0 := by kernel_rfl
def C17_1 := cl C17_0
def R17_0 := regOps C17_1
def C17_2 := cr C17_0
def C17_3 := cl C17_2
def C17_4 := cl C17_3
def C17_5 := cl C17_4
def R17_1 := regOps C17_5
def C17_6 := cr C17_4
def C17_7 := cl C17_6
def C17_10 := cr C17_6
def C17_11 := cl C17_10
def R17_3 := regOps C17_11
def C17_12 := cr C17_10
def C17_13 := cl C17_12
def C17_16 := cr C17_12
def C17_17 := cr C17_2
def C17_18 := cl C17_17
def R17_5 := regOps C17_18
def C17_19 := cr C17_17
def C17_20 := cl C17_19
def R17_6 := regOps C17_20
def C17_21 := cr C17_19
def C17_22 := cl C17_21
def R17_7 := regOps C17_22
def C17_23 := cr C17_21
def C17_24 := cl C17_23
def R17_8 := regOps C17_24
def C17_25 := cr C17_23
def C17_26 := cl C17_25
def R17_9 := regOps C17_26
def C17_27 := cr C17_25
def C17_28 := cl C17_27
def R17_10 := regOps C17_28
def C17_29 := cr C17_27
def C17_30 := cl C17_29
def R17_11 := regOps C17_30
def C17_31 := cr C17_29
def C17_32 := cl C17_31
def C17_33 := cl C17_32
def R17_12 := regOps C17_33
def C17_34 := cr C17_32
def C17_35 := cl C17_34
def C17_36 := cl C17_35
def C17_37 := cl C17_36
def C17_38 := cl C17_37
def R17_13 := regOps C17_38
def C17_39 := cr C17_37
def C17_40 := cl C17_39
def C17_41 := cr C17_39
def C17_42 := cr C17_36
def C17_43 := cl C17_42
def R17_14 := regOps C17_43
def C17_44 := cr C17_31
def C17_45 := cl C17_44
def R17_15 := regOps C17_45
def C17_46 := cr C17_44
def C17_47 := cl C17_46
def C17_48 := cl C17_47
def R17_16 := regOps C17_48
def C17_49 := cr C17_47
def C17_50 := cl C17_49
def R17_17 := regOps C17_50
def C17_51 := cr C17_49
def C17_52 := cr C17_46
def C17_53 := cl C17_52
def R17_18 := regOps C17_53
def C17_54 := cr C17_52
def C17_55 := cl C17_54
def R17_19 := regOps C17_55
def C17_56 := cr C17_54
theorem R17_0_N : dstsOk 134 R17_0 = true := by decide +kernel
theorem R17_1_N : dstsOk 134 R17_1 = true := by decide +kernel
theorem R17_3_N : dstsOk 134 R17_3 = true := by decide +kernel
theorem R17_5_N : dstsOk 134 R17_5 = true := by decide +kernel
theorem R17_6_N : dstsOk 134 R17_6 = true := by decide +kernel
theorem R17_7_N : dstsOk 134 R17_7 = true := by decide +kernel
theorem R17_8_N : dstsOk 134 R17_8 = true := by decide +kernel
theorem R17_9_N : dstsOk 134 R17_9 = true := by decide +kernel
theorem R17_10_N : dstsOk 134 R17_10 = true := by decide +kernel
theorem R17_11_N : dstsOk 134 R17_11 = true := by decide +kernel
theorem R17_12_N : dstsOk 134 R17_12 = true := by decide +kernel
theorem R17_13_N : dstsOk 134 R17_13 = true := by decide +kernel
theorem R17_14_N : dstsOk 134 R17_14 = true := by decide +kernel
theorem R17_15_N : dstsOk 134 R17_15 = true := by decide +kernel
theorem R17_15_O : linOk R17_15 [0, 1, 2, 4, 5, 6, 7, 8, 9, 10, 11] [(3, [4, 5, 6, 7, 8, 9, 10, 11], [12]), (13, [4, 5, 6, 7, 8, 9, 10, 11], [14]), (15, [8, 9, 10, 11], [16]), (17, [], [])] = true := by decide +kernel
theorem R17_16_N : dstsOk 134 R17_16 = true := by decide +kernel
theorem R17_17_N : dstsOk 134 R17_17 = true := by decide +kernel
theorem R17_18_N : dstsOk 134 R17_18 = true := by decide +kernel
theorem R17_19_N : dstsOk 134 R17_19 = true := by decide +kernel
def S17_3 (Q : (Int × Int × ByteArray × ByteArray × Value × Int) → AW → Prop) (E : List PanicEntry → AW → Prop)  (m_0 : Value) (t_10 : Value) (r_11 : Value) (aw : AW) : Prop :=
  nck m_0 (fldA m_0 3 fun p2 =>
  st aw p2 [(.slice none 0 0)] fun aw7 =>
  ptr r_11 fun b14 i15 =>
  gI .i64 aw7 b14 i15 fun c17 =>
  gI .u64 aw7 b14 (i15 + 1) fun c18 =>
  gS aw7 b14 (i15 + 2) fun c19 =>
  gS aw7 b14 (i15 + 3) fun c20 =>
  gV aw7 b14 (i15 + 4) fun c21 =>
  gI .i64 aw7 b14 (i15 + 5) fun c22 =>
  st aw7 t_10 [.int .i64 c17, .int .u64 c18, .string c19, .string c20, c21, .int .i64 c22] fun aw29 =>
  ptr t_10 fun b36 i37 => gI .i64 aw29 b36 i37 fun c39 => gI .u64 aw29 b36 (i37 + 1) fun c40 => gS aw29 b36 (i37 + 2) fun c41 => gS aw29 b36 (i37 + 3) fun c42 => gV aw29 b36 (i37 + 4) fun c43 => gI .i64 aw29 b36 (i37 + 5) fun c44 => Q (c39, c40, c41, c42, c43, c44) aw29)
def S17_2s (Q : (Int × Int × ByteArray × ByteArray × Value × Int) → AW → Prop) (E : List PanicEntry → AW → Prop)  (nx2 : Value → Value → Value → Bool → AW → Prop) (m_0 : Value) (t_10 : Value) (r_11 : Value) (again_12 : Bool) (aw : AW) : Prop :=
  cnd again_12 (CallP prog 35 [m_0] aw sh35 (fun r52 aw53 =>
  st aw53 r_11 [.int .i64 r52.2.1, .int .u64 r52.2.2.1, .string r52.2.2.2.1, .string r52.2.2.2.2.1, r52.2.2.2.2.2.1, .int .i64 r52.2.2.2.2.2.2] fun aw54 =>
  nx2 m_0 t_10 r_11 r52.1 aw54) E) (nck m_0 (fldA m_0 9 fun p62 =>
  nck m_0 (fldA m_0 11 fun p68 =>
  ldV aw p68 fun x76 =>
  nck m_0 (fldA m_0 6 fun p79 =>
  ldI .i64 aw p79 fun x87 =>
  CallP prog 36 [p62] aw sh36 (fun r89 aw90 =>
  again1 aw90 p68 (x76) ∧ again1 aw90 p79 (.int .i64 x87) ∧ fldA r_11 3 fun p91 =>
  st aw90 p91 [.string r89] fun aw96 =>
  again1 aw96 p68 (x76) ∧ again1 aw96 p79 (.int .i64 x87) ∧ fldA r_11 4 fun p103 =>
  st aw96 p103 [x76] fun aw108 =>
  again1 aw108 p79 (.int .i64 x87) ∧ fldA r_11 5 fun p115 =>
  st aw108 p115 [.int .i64 x87] fun aw120 =>
  fldA r_11 0 fun p127 =>
  ldI .i64 aw120 p127 fun x135 =>
  cnd (decide (x135 = 0)) (CallP prog 37 [m_0] aw120 sh37 (fun r138 aw139 =>
  fldA r_11 1 fun p140 =>
  st aw139 p140 [.int .u64 r138] fun aw145 =>
  S17_3 Q E  m_0 t_10 r_11 aw145) E) (S17_3 Q E  m_0 t_10 r_11 aw120)) E))))
def S17_2 (Q : (Int × Int × ByteArray × ByteArray × Value × Int) → AW → Prop) (E : List PanicEntry → AW → Prop)  : Nat → Value → Value → Value → Bool → AW → Prop
  | 0 => fun _ _ _ _ _ => False
  | n + 1 => S17_2s Q E  (S17_2 Q E  n)
def S17_1 (Q : (Int × Int × ByteArray × ByteArray × Value × Int) → AW → Prop) (E : List PanicEntry → AW → Prop)  (m_0 : Value) (fun_1 : Int) (fuel_2 : Int) (moves_3 : Int) (room_4 : Int) (t_10 : Value) (t_17 : Bool) (aw : AW) : Prop :=
  cnd t_17 (False) (nck m_0 (fldA m_0 3 fun p154 =>
  st aw p154 [(.slice none 0 0)] fun aw159 =>
  nck m_0 (fldA m_0 4 fun p167 =>
  st aw159 p167 [(.slice none 0 0)] fun aw172 =>
  nck m_0 (fldA m_0 5 fun p180 =>
  st aw172 p180 [(.slice none 0 0)] fun aw185 =>
  nck m_0 (fldA m_0 6 fun p193 =>
  st aw185 p193 [.int .i64 fuel_2] fun aw198 =>
  nck m_0 (fldA m_0 8 fun p206 =>
  st aw198 p206 [.int .i64 moves_3] fun aw211 =>
  nck m_0 (fldA m_0 7 fun p219 =>
  st aw211 p219 [.int .i64 room_4] fun aw224 =>
  nck m_0 (fldA m_0 11 fun p232 =>
  st aw224 p232 [(.slice none 0 0)] fun aw237 =>
  nck m_0 (fldA m_0 9 fun p245 =>
  CallP prog 33 [p245] aw237 sh33 (fun r250 aw251 =>
  CallP prog 14 [.int .i64 0] aw251 sh14 (fun r252 aw253 =>
  CallP prog 34 [m_0, .int .u64 r252] aw253 sh34 (fun r254 aw255 =>
  CallP prog 14 [.int .i64 0] aw255 sh14 (fun r256 aw257 =>
  CallP prog 34 [m_0, .int .u64 r256] aw257 sh34 (fun r258 aw259 =>
  nck m_0 (fldA m_0 4 fun p261 =>
  ldV aw259 p261 fun x269 =>
  alcS aw259 [.int .i64 fun_1, .int .i64 0, .int .i64 1] 85 3 1 fun p271 aw272 =>
  app aw272 85 3 24 x269 p271 fun v275 aw276 =>
  nck m_0 (fldA m_0 4 fun p279 =>
  st aw276 p279 [v275] fun aw284 =>
  alc aw284 [.int .i64 0, .int .u64 0, .string (⟨#[]⟩ : ByteArray), .string (⟨#[]⟩ : ByteArray), (.slice none 0 0), .int .i64 0] 29 0 fun p291 aw292 =>
  st aw292 p291 [.int .i64 0, .int .u64 0, .string (⟨#[]⟩ : ByteArray), .string (⟨#[]⟩ : ByteArray), (.slice none 0 0), .int .i64 0] fun aw295 =>
  ∃ n, S17_2 Q E  n m_0 t_10 p291 true aw295))) E) E) E) E) E)))))))))
def S17_0 (Q : (Int × Int × ByteArray × ByteArray × Value × Int) → AW → Prop) (E : List PanicEntry → AW → Prop)  (m_0 : Value) (fun_1 : Int) (fuel_2 : Int) (moves_3 : Int) (room_4 : Int) (aw : AW) : Prop :=
  alc aw [.int .i64 0, .int .u64 0, .string (⟨#[]⟩ : ByteArray), .string (⟨#[]⟩ : ByteArray), (.slice none 0 0), .int .i64 0] 29 0 fun p302 aw303 =>
  nilB (.pointer 77) m_0 (.pointer none) fun q306 =>
  cnd q306 (False) (cnd (decide (fun_1 < 0)) (S17_1 Q E  m_0 fun_1 fuel_2 moves_3 room_4 p302 true aw303) (nck m_0 (fldA m_0 1 fun p312 =>
  ldV aw303 p312 fun x320 =>
  slen x320 fun n322 =>
  cnd (decide (n322 ≤ fun_1)) (S17_1 Q E  m_0 fun_1 fuel_2 moves_3 room_4 p302 true aw303) (nck m_0 (fldA m_0 1 fun p330 =>
  ldV aw303 p330 fun x338 =>
  ixS x338 fun_1 2 fun p340 =>
  fldA p340 0 fun p349 =>
  ldI .i64 aw303 p349 fun x357 =>
  cnd (decide (0 < x357)) (S17_1 Q E  m_0 fun_1 fuel_2 moves_3 room_4 p302 true aw303) (cnd (decide (fuel_2 < 0)) (S17_1 Q E  m_0 fun_1 fuel_2 moves_3 room_4 p302 true aw303) (cnd (decide (20000 < fuel_2)) (S17_1 Q E  m_0 fun_1 fuel_2 moves_3 room_4 p302 true aw303) (cnd (decide (moves_3 < 0)) (S17_1 Q E  m_0 fun_1 fuel_2 moves_3 room_4 p302 true aw303) (S17_1 Q E  m_0 fun_1 fuel_2 moves_3 room_4 p302 (decide (room_4 < 0)) aw303)))))))))
theorem S17_3_ok (Q : (Int × Int × ByteArray × ByteArray × Value × Int) → AW → Prop) (E : List PanicEntry → AW → Prop)  (ρ : Env) (m_0 : Value) (t_10 : Value) (r_11 : Value) (aw : AW) (h0 : ρ 0 = m_0) (h10 : ρ 10 = t_10) (h11 : ρ 11 = r_11) (H : S17_3 Q E  m_0 t_10 r_11 aw) :
    AGo prog 134 [.code C17_52] ρ [] aw (RR prog f17 134 sh17 Q E) := by
  unfold S17_3 at H
  refine ago_seqE (rfl : C17_52 = .seq C17_53 C17_54) ?_
  refine ago_regE (rfl : C17_53 = .region 18 R17_18 false) (l := [0, 1, 2, 3]) rfl ?_
  refine lj 130 R17_18_N rfl rfl rfl (opv_move rfl rfl h0) ?_
  obtain ⟨hp1, H⟩ := H
  refine lj 131 R17_18_N rfl rfl rfl (ov_nck rfl rfl rfl hp1) ?_
  obtain ⟨b3, i4, p2, hp5, hv6, H⟩ := H
  refine lj 132 R17_18_N rfl rfl rfl (ov_fldA rfl rfl underlying77 rfl sz62 (by decide) rfl hp5 rfl hv6) ?_
  obtain ⟨b8, i9, aw7, hp10, hw11, ho12, ha13, H⟩ := H
  refine lk (dt := none) R17_18_N rfl rfl rfl (ov_st rfl rfl rfl rfl rfl (cells_all ho12) sz62 hp10 hw11 ho12 ha13) ?_
  refine aops_nil ?_
  refine ago_seqE (rfl : C17_54 = .seq C17_55 C17_56) ?_
  refine ago_regE (rfl : C17_55 = .region 19 R17_19 false) (l := [0, 1]) rfl ?_
  obtain ⟨b14, i15, hp16, c17, hg23, c18, hg24, c19, hg25, c20, hg26, c21, hg27, c22, hg28, H⟩ := H
  refine lj 133 R17_19_N rfl rfl rfl (ov_ldN rfl underlying29 rfl sz29 rfl h11 hp16 (getN_cons hg23 (getN_cons hg24 (getN_cons hg25 (getN_cons hg26 (getN_cons hg27 (getN_cons hg28 getN_nil))))))) ?_
  obtain ⟨b30, i31, aw29, hp32, hw33, ho34, ha35, H⟩ := H
  refine lk (dt := none) R17_19_N rfl rfl rfl (ov_st rfl rfl rfl h10 rfl rfl sz29 hp32 hw33 ho34 ha35) ?_
  refine aops_nil ?_
  obtain ⟨b36, i37, hp38, c39, hg45, c40, hg46, c41, hg47, c42, hg48, c43, hg49, c44, hg50, H⟩ := H
  exact ago_retE (rfl : C17_56 = .ret) (r := (c39, c40, c41, c42, c43, c44)) (ares_1 rfl (oneN h10 hp38 underlying29 rfl sz29 (getN_cons hg45 (getN_cons hg46 (getN_cons hg47 (getN_cons hg48 (getN_cons hg49 (getN_cons hg50 getN_nil)))))))) rfl H
theorem S17_2s_ok (Q : (Int × Int × ByteArray × ByteArray × Value × Int) → AW → Prop) (E : List PanicEntry → AW → Prop)  (nx2 : Value → Value → Value → Bool → AW → Prop) (L2 : ∀ (ρ : Env) (m_0 : Value) (t_10 : Value) (r_11 : Value) (again_12 : Bool) (aw : AW) (h0 : ρ 0 = m_0) (h10 : ρ 10 = t_10) (h11 : ρ 11 = r_11) (h12 : ρ 12 = .bool again_12), nx2 m_0 t_10 r_11 again_12 aw → AGo prog 134 [.code C17_36, .inLoop C17_36, .inBlock 1, .code C17_44] ρ [] aw (RR prog f17 134 sh17 Q E)) (ρ : Env) (m_0 : Value) (t_10 : Value) (r_11 : Value) (again_12 : Bool) (aw : AW) (h0 : ρ 0 = m_0) (h10 : ρ 10 = t_10) (h11 : ρ 11 = r_11) (h12 : ρ 12 = .bool again_12) (H : S17_2s Q E  nx2 m_0 t_10 r_11 again_12 aw) :
    AGo prog 134 [.code C17_36, .inLoop C17_36, .inBlock 1, .code C17_44] ρ [] aw (RR prog f17 134 sh17 Q E) := by
  unfold S17_2s at H
  refine ago_seqE (rfl : C17_36 = .seq C17_37 C17_42) ?_
  refine ago_seqE (rfl : C17_37 = .seq C17_38 C17_39) ?_
  refine ago_regE (rfl : C17_38 = .region 13 R17_13 false) (l := [0]) rfl ?_
  refine lj 103 R17_13_N rfl rfl rfl (opv_move rfl rfl h12) ?_
  refine aops_nil ?_
  refine ago_condE  (rfl : C17_39 = .cond (.tmp 103) C17_40 C17_41) rfl rfl (fun hb51 => ?_) (fun hb51 => ?_)
  · replace H := cnd_t H hb51
    refine ago_skipE (rfl : C17_40 = .skip) ?_
    refine ago_blockE (rfl : C17_42 = .block 2 C17_43) ?_
    refine ago_regE (rfl : C17_43 = .region 14 R17_14 false) (l := [0, 1, 2, 3, 4, 5, 6]) rfl ?_
    refine lj 105 R17_14_N rfl rfl rfl (opv_move rfl rfl h0) ?_
    refine lc 106 R17_14_N rfl rfl rfl (opc_of rfl rfl is35 (ma_cons rfl rfl)) H (fun _ _ h => ⟨rfl, h⟩) fun r52 aw53 H => ?_
    refine lj 104 R17_14_N rfl rfl rfl (opv_move rfl rfl rfl) ?_
    refine lj 107 R17_14_N rfl rfl rfl (opv_extract rfl rfl rfl rfl) ?_
    refine lj 108 R17_14_N rfl rfl rfl (opv_extract rfl rfl rfl rfl) ?_
    refine lj 12 R17_14_N rfl rfl rfl (opv_assign rfl rfl rfl) ?_
    obtain ⟨b55, i56, aw54, hp57, hw58, ho59, ha60, H⟩ := H
    refine lk (dt := none) R17_14_N rfl rfl rfl (ov_st rfl rfl rfl h11 rfl rfl sz29 hp57 hw58 ho59 ha60) ?_
    refine aops_nil ?_
    refine ago_inBlock ?_
    refine ago_inLoop ?_
    exact L2 _ m_0 t_10 r_11 r52.1 aw54 h0 h10 h11 rfl H
  replace H := cnd_f H hb51
  refine ago_exitE (rfl : C17_41 = .exit 1) rfl ?_
  refine ago_seqE (rfl : C17_44 = .seq C17_45 C17_46) ?_
  obtain ⟨hp61, H⟩ := H
  obtain ⟨b63, i64, p62, hp65, hv66, H⟩ := H
  obtain ⟨hp67, H⟩ := H
  obtain ⟨b69, i70, p68, hp71, hv72, H⟩ := H
  obtain ⟨b73, i74, x76, hp75, hg77, H⟩ := H
  obtain ⟨hp78, H⟩ := H
  obtain ⟨b80, i81, p79, hp82, hv83, H⟩ := H
  obtain ⟨b84, i85, x87, hp86, hg88, H⟩ := H
  refine ago_drawH (p := [0, 1, 2, 4, 5, 6, 7, 8, 9, 10, 11]) (tl := [(3, [4, 5, 6, 7, 8, 9, 10, 11], [12]), (13, [4, 5, 6, 7, 8, 9, 10, 11], [14]), (15, [8, 9, 10, 11], [16]), (17, [], [])]) (hv := [(0, m_0), (1, m_0), (2, p62), (4, m_0), (5, m_0), (6, p68), (7, x76), (8, m_0), (9, m_0), (10, p79), (11, Value.int .i64 x87)]) (rfl : C17_45 = .region 15 R17_15 true) mixed R17_15_N R17_15_O rfl (pv_cons rfl (pv_cons rfl (pv_cons rfl (pv_cons rfl (pv_cons rfl (pv_cons rfl (pv_cons rfl (pv_cons rfl (pv_cons rfl (pv_cons rfl (pv_cons rfl (pv_nil _))))))))))))
    (fc 109 m_0 (hd_v rfl fun ρ hρ => ⟨rfl, opv_move rfl rfl ((hρ 0 (lmem rfl)).trans h0)⟩) rfl rfl
    (fc 110 m_0 (hd_v rfl fun ρ hρ => ⟨rfl, ov_nck rfl rfl ((hρ 109 (lmem rfl)).trans rfl) hp61⟩) rfl rfl
    (fc 111 p62 (hd_v rfl fun ρ hρ => ⟨rfl, ov_fldA rfl rfl underlying77 rfl sz75 (by decide) ((hρ 110 (lmem rfl)).trans rfl) hp65 rfl hv66⟩) rfl rfl
    (fc 113 m_0 (hd_v rfl fun ρ hρ => ⟨rfl, opv_move rfl rfl ((hρ 0 (lmem rfl)).trans h0)⟩) rfl rfl
    (fc 114 m_0 (hd_v rfl fun ρ hρ => ⟨rfl, ov_nck rfl rfl ((hρ 113 (lmem rfl)).trans rfl) hp67⟩) rfl rfl
    (fc 115 p68 (hd_v rfl fun ρ hρ => ⟨rfl, ov_fldA rfl rfl underlying77 rfl sz27 (by decide) ((hρ 114 (lmem rfl)).trans rfl) hp71 rfl hv72⟩) rfl rfl
    (fc 116 x76 (hd_v rfl fun ρ hρ => ⟨rfl, ov_ldV rfl underlying27 rfl rfl ((hρ 115 (lmem rfl)).trans rfl) hp75 hg77⟩) rfl rfl
    (fc 117 m_0 (hd_v rfl fun ρ hρ => ⟨rfl, opv_move rfl rfl ((hρ 0 (lmem rfl)).trans h0)⟩) rfl rfl
    (fc 118 m_0 (hd_v rfl fun ρ hρ => ⟨rfl, ov_nck rfl rfl ((hρ 117 (lmem rfl)).trans rfl) hp78⟩) rfl rfl
    (fc 119 p79 (hd_v rfl fun ρ hρ => ⟨rfl, ov_fldA rfl rfl underlying77 rfl sz3 (by decide) ((hρ 118 (lmem rfl)).trans rfl) hp82 rfl hv83⟩) rfl rfl
    (fc 120 (.int .i64 x87) (hd_v rfl fun ρ hρ => ⟨rfl, ov_ldI rfl underlying3 rfl ((hρ 119 (lmem rfl)).trans rfl) hp86 hg88⟩) rfl rfl
    ffn))))))))))) ?_
  refine lt_call (dt := some 112) rfl rfl (fun ρ hρ => ⟨rfl, opc_of rfl rfl is36 (ma_cons ((hρ 111 (lmem rfl)).trans rfl) rfl)⟩) H (fun _ _ h _ => ⟨rfl, h⟩) fun r89 aw90 H => ?_
  obtain ⟨hg77, H⟩ := H
  replace hg77 := hg77 _ _ hp75
  obtain ⟨hg88, H⟩ := H
  replace hg88 := hg88 _ _ hp86
  obtain ⟨b92, i93, p91, hp94, hv95, H⟩ := H
  refine lt_next (l := [4, 5, 6, 7, 8, 9, 10, 11, 12]) (hv := [(12, p91)]) rfl rfl (pv_cons rfl (pv_nil _))
    (fc 113 m_0 (hd_v rfl fun ρ hρ => ⟨rfl, opv_move rfl rfl ((hρ 0 (lmem rfl)).trans h0)⟩) rfl rfl
    (fc 114 m_0 (hd_v rfl fun ρ hρ => ⟨rfl, ov_nck rfl rfl ((hρ 113 (lmem rfl)).trans rfl) hp67⟩) rfl rfl
    (fc 115 p68 (hd_v rfl fun ρ hρ => ⟨rfl, ov_fldA rfl rfl underlying77 rfl sz27 (by decide) ((hρ 114 (lmem rfl)).trans rfl) hp71 rfl hv72⟩) rfl rfl
    (fc 116 x76 (hd_v rfl fun ρ hρ => ⟨rfl, ov_ldV rfl underlying27 rfl rfl ((hρ 115 (lmem rfl)).trans rfl) hp75 hg77⟩) rfl rfl
    (fc 117 m_0 (hd_v rfl fun ρ hρ => ⟨rfl, opv_move rfl rfl ((hρ 0 (lmem rfl)).trans h0)⟩) rfl rfl
    (fc 118 m_0 (hd_v rfl fun ρ hρ => ⟨rfl, ov_nck rfl rfl ((hρ 117 (lmem rfl)).trans rfl) hp78⟩) rfl rfl
    (fc 119 p79 (hd_v rfl fun ρ hρ => ⟨rfl, ov_fldA rfl rfl underlying77 rfl sz3 (by decide) ((hρ 118 (lmem rfl)).trans rfl) hp82 rfl hv83⟩) rfl rfl
    (fc 120 (.int .i64 x87) (hd_v rfl fun ρ hρ => ⟨rfl, ov_ldI rfl underlying3 rfl ((hρ 119 (lmem rfl)).trans rfl) hp86 hg88⟩) rfl rfl
    (fc 121 p91 (hd_v rfl fun ρ hρ => ⟨rfl, ov_fldA rfl rfl underlying29 rfl sz9 (by decide) ((hρ 11 (lmem rfl)).trans h11) hp94 rfl hv95⟩) rfl rfl
    ffn))))))))) ?_
  obtain ⟨b97, i98, aw96, hp99, hw100, ho101, ha102, H⟩ := H
  refine lt_val (dt := none) (v := undef) rfl rfl (fun ρ hρ => ⟨rfl, ov_st rfl rfl rfl ((hρ 121 (lmem rfl)).trans rfl) ((hρ 112 (lmem rfl)).trans rfl) rfl sz9 hp99 hw100 ho101 ha102⟩) ?_
  obtain ⟨hg77, H⟩ := H
  replace hg77 := hg77 _ _ hp75
  obtain ⟨hg88, H⟩ := H
  replace hg88 := hg88 _ _ hp86
  obtain ⟨b104, i105, p103, hp106, hv107, H⟩ := H
  refine lt_next (l := [4, 5, 6, 7, 8, 9, 10, 11, 14]) (hv := [(14, p103)]) rfl rfl (pv_cons rfl (pv_nil _))
    (fc 113 m_0 (hd_v rfl fun ρ hρ => ⟨rfl, opv_move rfl rfl ((hρ 0 (lmem rfl)).trans h0)⟩) rfl rfl
    (fc 114 m_0 (hd_v rfl fun ρ hρ => ⟨rfl, ov_nck rfl rfl ((hρ 113 (lmem rfl)).trans rfl) hp67⟩) rfl rfl
    (fc 115 p68 (hd_v rfl fun ρ hρ => ⟨rfl, ov_fldA rfl rfl underlying77 rfl sz27 (by decide) ((hρ 114 (lmem rfl)).trans rfl) hp71 rfl hv72⟩) rfl rfl
    (fc 116 x76 (hd_v rfl fun ρ hρ => ⟨rfl, ov_ldV rfl underlying27 rfl rfl ((hρ 115 (lmem rfl)).trans rfl) hp75 hg77⟩) rfl rfl
    (fc 117 m_0 (hd_v rfl fun ρ hρ => ⟨rfl, opv_move rfl rfl ((hρ 0 (lmem rfl)).trans h0)⟩) rfl rfl
    (fc 118 m_0 (hd_v rfl fun ρ hρ => ⟨rfl, ov_nck rfl rfl ((hρ 117 (lmem rfl)).trans rfl) hp78⟩) rfl rfl
    (fc 119 p79 (hd_v rfl fun ρ hρ => ⟨rfl, ov_fldA rfl rfl underlying77 rfl sz3 (by decide) ((hρ 118 (lmem rfl)).trans rfl) hp82 rfl hv83⟩) rfl rfl
    (fc 120 (.int .i64 x87) (hd_v rfl fun ρ hρ => ⟨rfl, ov_ldI rfl underlying3 rfl ((hρ 119 (lmem rfl)).trans rfl) hp86 hg88⟩) rfl rfl
    (fc 122 p103 (hd_v rfl fun ρ hρ => ⟨rfl, ov_fldA rfl rfl underlying29 rfl sz27 (by decide) ((hρ 11 (lmem rfl)).trans h11) hp106 rfl hv107⟩) rfl rfl
    ffn))))))))) ?_
  obtain ⟨b109, i110, aw108, hp111, hw112, ho113, ha114, H⟩ := H
  refine lt_val (dt := none) (v := undef) rfl rfl (fun ρ hρ => ⟨rfl, ov_st rfl rfl rfl ((hρ 122 (lmem rfl)).trans rfl) ((hρ 116 (lmem rfl)).trans rfl) (cells_all ho113) sz27 hp111 hw112 ho113 ha114⟩) ?_
  obtain ⟨hg88, H⟩ := H
  replace hg88 := hg88 _ _ hp86
  obtain ⟨b116, i117, p115, hp118, hv119, H⟩ := H
  refine lt_next (l := [8, 9, 10, 11, 16]) (hv := [(16, p115)]) rfl rfl (pv_cons rfl (pv_nil _))
    (fc 117 m_0 (hd_v rfl fun ρ hρ => ⟨rfl, opv_move rfl rfl ((hρ 0 (lmem rfl)).trans h0)⟩) rfl rfl
    (fc 118 m_0 (hd_v rfl fun ρ hρ => ⟨rfl, ov_nck rfl rfl ((hρ 117 (lmem rfl)).trans rfl) hp78⟩) rfl rfl
    (fc 119 p79 (hd_v rfl fun ρ hρ => ⟨rfl, ov_fldA rfl rfl underlying77 rfl sz3 (by decide) ((hρ 118 (lmem rfl)).trans rfl) hp82 rfl hv83⟩) rfl rfl
    (fc 120 (.int .i64 x87) (hd_v rfl fun ρ hρ => ⟨rfl, ov_ldI rfl underlying3 rfl ((hρ 119 (lmem rfl)).trans rfl) hp86 hg88⟩) rfl rfl
    (fc 123 p115 (hd_v rfl fun ρ hρ => ⟨rfl, ov_fldA rfl rfl underlying29 rfl sz3 (by decide) ((hρ 11 (lmem rfl)).trans h11) hp118 rfl hv119⟩) rfl rfl
    ffn))))) ?_
  obtain ⟨b121, i122, aw120, hp123, hw124, ho125, ha126, H⟩ := H
  refine lt_val (dt := none) (v := undef) rfl rfl (fun ρ hρ => ⟨rfl, ov_st rfl rfl rfl ((hρ 123 (lmem rfl)).trans rfl) ((hρ 120 (lmem rfl)).trans rfl) rfl sz3 hp123 hw124 ho125 ha126⟩) ?_
  refine lt_next (l := []) (hv := []) rfl rfl (pv_nil _)
    ffn ?_
  refine lt_end ?_
  refine ago_seqE (rfl : C17_46 = .seq C17_47 C17_52) ?_
  refine ago_seqE (rfl : C17_47 = .seq C17_48 C17_49) ?_
  refine ago_cut (fun ρ => ρ 0 = m_0 ∧ ρ 10 = t_10 ∧ ρ 11 = r_11 ∧ True) ⟨h0, h10, h11, trivial⟩ (fun ρ ⟨h0, h10, h11, _⟩ => ?_)
  refine ago_regE (rfl : C17_48 = .region 16 R17_16 false) (l := [0, 1, 2]) rfl ?_
  obtain ⟨b128, i129, p127, hp130, hv131, H⟩ := H
  refine lj 124 R17_16_N rfl rfl rfl (ov_fldA rfl rfl underlying29 rfl sz24 (by decide) h11 hp130 rfl hv131) ?_
  obtain ⟨b132, i133, x135, hp134, hg136, H⟩ := H
  refine lj 125 R17_16_N rfl rfl rfl (ov_ldI rfl underlying24 rfl rfl hp134 hg136) ?_
  refine lj 126 R17_16_N rfl rfl rfl (opv_eqI rfl rfl rfl rfl rfl) ?_
  refine aops_nil ?_
  refine ago_condE  (rfl : C17_49 = .cond (.tmp 126) C17_50 C17_51) rfl rfl (fun hb137 => ?_) (fun hb137 => ?_)
  · replace H := cnd_t H hb137
    refine ago_regE (rfl : C17_50 = .region 17 R17_17 false) (l := [0, 1, 2, 3]) rfl ?_
    refine lj 127 R17_17_N rfl rfl rfl (opv_move rfl rfl h0) ?_
    refine lc 128 R17_17_N rfl rfl rfl (opc_of rfl rfl is37 (ma_cons rfl rfl)) H (fun _ _ h => ⟨rfl, h⟩) fun r138 aw139 H => ?_
    obtain ⟨b141, i142, p140, hp143, hv144, H⟩ := H
    refine lj 129 R17_17_N rfl rfl rfl (ov_fldA rfl rfl underlying29 rfl sz26 (by decide) h11 hp143 rfl hv144) ?_
    obtain ⟨b146, i147, aw145, hp148, hw149, ho150, ha151, H⟩ := H
    refine lk (dt := none) R17_17_N rfl rfl rfl (ov_st rfl rfl rfl rfl rfl rfl sz26 hp148 hw149 ho150 ha151) ?_
    refine aops_nil ?_
    exact S17_3_ok Q E  _ m_0 t_10 r_11 aw145 h0 h10 h11 H
  replace H := cnd_f H hb137
  refine ago_skipE (rfl : C17_51 = .skip) ?_
  exact S17_3_ok Q E  _ m_0 t_10 r_11 aw120 h0 h10 h11 H
theorem S17_2_ok (Q : (Int × Int × ByteArray × ByteArray × Value × Int) → AW → Prop) (E : List PanicEntry → AW → Prop)  : ∀ (n : Nat) (ρ : Env) (m_0 : Value) (t_10 : Value) (r_11 : Value) (again_12 : Bool) (aw : AW) (h0 : ρ 0 = m_0) (h10 : ρ 10 = t_10) (h11 : ρ 11 = r_11) (h12 : ρ 12 = .bool again_12), S17_2 Q E  n m_0 t_10 r_11 again_12 aw →
    AGo prog 134 [.code C17_36, .inLoop C17_36, .inBlock 1, .code C17_44] ρ [] aw (RR prog f17 134 sh17 Q E)
  | 0, _, _, _, _, _, _, _, _, _, _ => fun H => H.elim
  | n + 1, ρ, m_0, t_10, r_11, again_12, aw, h0, h10, h11, h12 => fun H => S17_2s_ok Q E  _ (S17_2_ok Q E  n) ρ m_0 t_10 r_11 again_12 aw h0 h10 h11 h12 H
theorem S17_1_ok (Q : (Int × Int × ByteArray × ByteArray × Value × Int) → AW → Prop) (E : List PanicEntry → AW → Prop)  (ρ : Env) (m_0 : Value) (fun_1 : Int) (fuel_2 : Int) (moves_3 : Int) (room_4 : Int) (t_10 : Value) (t_17 : Bool) (aw : AW) (h0 : ρ 0 = m_0) (h1 : ρ 1 = .int .i64 fun_1) (h2 : ρ 2 = .int .i64 fuel_2) (h3 : ρ 3 = .int .i64 moves_3) (h4 : ρ 4 = .int .i64 room_4) (h10 : ρ 10 = t_10) (h17 : ρ 17 = .bool t_17) (H : S17_1 Q E  m_0 fun_1 fuel_2 moves_3 room_4 t_10 t_17 aw) :
    AGo prog 134 [.code C17_12, .inBlock 0, .code C17_17] ρ [] aw (RR prog f17 134 sh17 Q E) := by
  unfold S17_1 at H
  refine ago_condE  (rfl : C17_12 = .cond (.tmp 17) C17_13 C17_16) rfl h17 (fun hb152 => ?_) (fun hb152 => ?_)
  · exact (cnd_t H hb152).elim
  replace H := cnd_f H hb152
  refine ago_skipE (rfl : C17_16 = .skip) ?_
  refine ago_inBlock ?_
  refine ago_seqE (rfl : C17_17 = .seq C17_18 C17_19) ?_
  refine ago_regE (rfl : C17_18 = .region 5 R17_5 false) (l := [0, 1, 2, 3, 4, 5, 6, 7, 8, 9, 10, 11]) rfl ?_
  refine lj 57 R17_5_N rfl rfl rfl (opv_move rfl rfl h0) ?_
  refine lj 58 R17_5_N rfl rfl rfl (opv_move rfl rfl h0) ?_
  refine lj 59 R17_5_N rfl rfl rfl (opv_move rfl rfl h0) ?_
  obtain ⟨hp153, H⟩ := H
  refine lj 60 R17_5_N rfl rfl rfl (ov_nck rfl rfl rfl hp153) ?_
  obtain ⟨b155, i156, p154, hp157, hv158, H⟩ := H
  refine lj 61 R17_5_N rfl rfl rfl (ov_fldA rfl rfl underlying77 rfl sz62 (by decide) rfl hp157 rfl hv158) ?_
  obtain ⟨b160, i161, aw159, hp162, hw163, ho164, ha165, H⟩ := H
  refine lk (dt := none) R17_5_N rfl rfl rfl (ov_st rfl rfl rfl rfl rfl (cells_all ho164) sz62 hp162 hw163 ho164 ha165) ?_
  obtain ⟨hp166, H⟩ := H
  refine lj 62 R17_5_N rfl rfl rfl (ov_nck rfl rfl rfl hp166) ?_
  obtain ⟨b168, i169, p167, hp170, hv171, H⟩ := H
  refine lj 63 R17_5_N rfl rfl rfl (ov_fldA rfl rfl underlying77 rfl sz70 (by decide) rfl hp170 rfl hv171) ?_
  obtain ⟨b173, i174, aw172, hp175, hw176, ho177, ha178, H⟩ := H
  refine lk (dt := none) R17_5_N rfl rfl rfl (ov_st rfl rfl rfl rfl rfl (cells_all ho177) sz70 hp175 hw176 ho177 ha178) ?_
  obtain ⟨hp179, H⟩ := H
  refine lj 64 R17_5_N rfl rfl rfl (ov_nck rfl rfl rfl hp179) ?_
  obtain ⟨b181, i182, p180, hp183, hv184, H⟩ := H
  refine lj 65 R17_5_N rfl rfl rfl (ov_fldA rfl rfl underlying77 rfl sz71 (by decide) rfl hp183 rfl hv184) ?_
  obtain ⟨b186, i187, aw185, hp188, hw189, ho190, ha191, H⟩ := H
  refine lk (dt := none) R17_5_N rfl rfl rfl (ov_st rfl rfl rfl rfl rfl (cells_all ho190) sz71 hp188 hw189 ho190 ha191) ?_
  refine aops_nil ?_
  refine ago_seqE (rfl : C17_19 = .seq C17_20 C17_21) ?_
  refine ago_cut (fun ρ => ρ 0 = m_0 ∧ ρ 1 = .int .i64 fun_1 ∧ ρ 2 = .int .i64 fuel_2 ∧ ρ 3 = .int .i64 moves_3 ∧ ρ 4 = .int .i64 room_4 ∧ ρ 10 = t_10 ∧ True) ⟨h0, h1, h2, h3, h4, h10, trivial⟩ (fun ρ ⟨h0, h1, h2, h3, h4, h10, _⟩ => ?_)
  refine ago_regE (rfl : C17_20 = .region 6 R17_6 false) (l := [0, 1, 2, 3, 4, 5, 6, 7, 8, 9, 10, 11, 12, 13, 14, 15, 16, 17, 18]) rfl ?_
  refine lj 66 R17_6_N rfl rfl rfl (opv_move rfl rfl h0) ?_
  refine lj 67 R17_6_N rfl rfl rfl (opv_move rfl rfl h0) ?_
  refine lj 68 R17_6_N rfl rfl rfl (opv_move rfl rfl h0) ?_
  refine lj 69 R17_6_N rfl rfl rfl (opv_move rfl rfl h0) ?_
  refine lj 70 R17_6_N rfl rfl rfl (opv_move rfl rfl h2) ?_
  refine lj 71 R17_6_N rfl rfl rfl (opv_move rfl rfl h3) ?_
  refine lj 72 R17_6_N rfl rfl rfl (opv_move rfl rfl h4) ?_
  obtain ⟨hp192, H⟩ := H
  refine lj 73 R17_6_N rfl rfl rfl (ov_nck rfl rfl rfl hp192) ?_
  obtain ⟨b194, i195, p193, hp196, hv197, H⟩ := H
  refine lj 74 R17_6_N rfl rfl rfl (ov_fldA rfl rfl underlying77 rfl sz3 (by decide) rfl hp196 rfl hv197) ?_
  obtain ⟨b199, i200, aw198, hp201, hw202, ho203, ha204, H⟩ := H
  refine lk (dt := none) R17_6_N rfl rfl rfl (ov_st rfl rfl rfl rfl rfl rfl sz3 hp201 hw202 ho203 ha204) ?_
  obtain ⟨hp205, H⟩ := H
  refine lj 75 R17_6_N rfl rfl rfl (ov_nck rfl rfl rfl hp205) ?_
  obtain ⟨b207, i208, p206, hp209, hv210, H⟩ := H
  refine lj 76 R17_6_N rfl rfl rfl (ov_fldA rfl rfl underlying77 rfl sz3 (by decide) rfl hp209 rfl hv210) ?_
  obtain ⟨b212, i213, aw211, hp214, hw215, ho216, ha217, H⟩ := H
  refine lk (dt := none) R17_6_N rfl rfl rfl (ov_st rfl rfl rfl rfl rfl rfl sz3 hp214 hw215 ho216 ha217) ?_
  obtain ⟨hp218, H⟩ := H
  refine lj 77 R17_6_N rfl rfl rfl (ov_nck rfl rfl rfl hp218) ?_
  obtain ⟨b220, i221, p219, hp222, hv223, H⟩ := H
  refine lj 78 R17_6_N rfl rfl rfl (ov_fldA rfl rfl underlying77 rfl sz3 (by decide) rfl hp222 rfl hv223) ?_
  obtain ⟨b225, i226, aw224, hp227, hw228, ho229, ha230, H⟩ := H
  refine lk (dt := none) R17_6_N rfl rfl rfl (ov_st rfl rfl rfl rfl rfl rfl sz3 hp227 hw228 ho229 ha230) ?_
  obtain ⟨hp231, H⟩ := H
  refine lj 79 R17_6_N rfl rfl rfl (ov_nck rfl rfl rfl hp231) ?_
  obtain ⟨b233, i234, p232, hp235, hv236, H⟩ := H
  refine lj 80 R17_6_N rfl rfl rfl (ov_fldA rfl rfl underlying77 rfl sz27 (by decide) rfl hp235 rfl hv236) ?_
  obtain ⟨b238, i239, aw237, hp240, hw241, ho242, ha243, H⟩ := H
  refine lk (dt := none) R17_6_N rfl rfl rfl (ov_st rfl rfl rfl rfl rfl (cells_all ho242) sz27 hp240 hw241 ho242 ha243) ?_
  refine aops_nil ?_
  refine ago_seqE (rfl : C17_21 = .seq C17_22 C17_23) ?_
  refine ago_cut (fun ρ => ρ 0 = m_0 ∧ ρ 1 = .int .i64 fun_1 ∧ ρ 10 = t_10 ∧ True) ⟨h0, h1, h10, trivial⟩ (fun ρ ⟨h0, h1, h10, _⟩ => ?_)
  refine ago_regE (rfl : C17_22 = .region 7 R17_7 false) (l := [0, 1, 2, 3]) rfl ?_
  refine lj 81 R17_7_N rfl rfl rfl (opv_move rfl rfl h0) ?_
  obtain ⟨hp244, H⟩ := H
  refine lj 82 R17_7_N rfl rfl rfl (ov_nck rfl rfl rfl hp244) ?_
  obtain ⟨b246, i247, p245, hp248, hv249, H⟩ := H
  refine lj 83 R17_7_N rfl rfl rfl (ov_fldA rfl rfl underlying77 rfl sz75 (by decide) rfl hp248 rfl hv249) ?_
  refine lc 84 R17_7_N rfl rfl rfl (opc_of rfl rfl is33 (ma_cons rfl rfl)) H (fun _ _ h => ⟨rfl, h⟩) fun r250 aw251 H => ?_
  refine aops_nil ?_
  refine ago_seqE (rfl : C17_23 = .seq C17_24 C17_25) ?_
  refine ago_regE (rfl : C17_24 = .region 8 R17_8 false) (l := [0, 1, 2]) rfl ?_
  refine lj 85 R17_8_N rfl rfl rfl (opv_move rfl rfl h0) ?_
  refine lc 86 R17_8_N rfl rfl rfl (opc_of rfl rfl is14 (ma_cons rfl rfl)) H (fun _ _ h => ⟨rfl, h⟩) fun r252 aw253 H => ?_
  refine lc 87 R17_8_N rfl rfl rfl (opc_of rfl rfl is34 (ma_cons rfl (ma_cons rfl rfl))) H (fun _ _ h => ⟨rfl, h⟩) fun r254 aw255 H => ?_
  refine aops_nil ?_
  refine ago_seqE (rfl : C17_25 = .seq C17_26 C17_27) ?_
  refine ago_regE (rfl : C17_26 = .region 9 R17_9 false) (l := [0, 1, 2]) rfl ?_
  refine lj 88 R17_9_N rfl rfl rfl (opv_move rfl rfl h0) ?_
  refine lc 89 R17_9_N rfl rfl rfl (opc_of rfl rfl is14 (ma_cons rfl rfl)) H (fun _ _ h => ⟨rfl, h⟩) fun r256 aw257 H => ?_
  refine lc 90 R17_9_N rfl rfl rfl (opc_of rfl rfl is34 (ma_cons rfl (ma_cons rfl rfl))) H (fun _ _ h => ⟨rfl, h⟩) fun r258 aw259 H => ?_
  refine aops_nil ?_
  refine ago_seqE (rfl : C17_27 = .seq C17_28 C17_29) ?_
  refine ago_regE (rfl : C17_28 = .region 10 R17_10 false) (l := [0, 1, 2, 3, 4, 5, 6, 7, 8, 9, 10, 11]) rfl ?_
  refine lj 91 R17_10_N rfl rfl rfl (opv_move rfl rfl h0) ?_
  refine lj 92 R17_10_N rfl rfl rfl (opv_move rfl rfl h0) ?_
  obtain ⟨hp260, H⟩ := H
  refine lj 93 R17_10_N rfl rfl rfl (ov_nck rfl rfl rfl hp260) ?_
  obtain ⟨b262, i263, p261, hp264, hv265, H⟩ := H
  refine lj 94 R17_10_N rfl rfl rfl (ov_fldA rfl rfl underlying77 rfl sz70 (by decide) rfl hp264 rfl hv265) ?_
  obtain ⟨b266, i267, x269, hp268, hg270, H⟩ := H
  refine lj 95 R17_10_N rfl rfl rfl (ov_ldV rfl underlying70 rfl rfl rfl hp268 hg270) ?_
  refine lj 96 R17_10_N rfl rfl rfl (opv_move rfl rfl h1) ?_
  refine lj 97 R17_10_N rfl rfl rfl (ov_bld (r := [.int .i64 fun_1, .int .i64 0, .int .i64 1]) rfl rfl bo85 (mp_cons rfl (mp_cons rfl rfl)) (fillP rfl rfl rfl rfl (fillP rfl rfl rfl rfl (fillN rfl)))) ?_
  obtain ⟨p271, aw272, hp273, ha274, H⟩ := H
  refine lj 98 R17_10_N rfl rfl rfl (ov_bsA (r := [.int .i64 fun_1, .int .i64 0, .int .i64 1]) (vs := [.agg #[.int .i64 fun_1, .int .i64 0, .int .i64 1]]) rfl rfl underlying70 sz85 z85 rfl rfl rfl rfl rfl (mp_cons rfl rfl) (.cons (v := .agg #[.int .i64 fun_1, .int .i64 0, .int .i64 1]) (xs := [.int .i64 fun_1, .int .i64 0, .int .i64 1]) (r := []) rfl rfl .nil) hp273 ha274) ?_
  obtain ⟨v275, aw276, hq277, H⟩ := H
  refine lj 99 R17_10_N rfl rfl rfl (ov_app rfl rfl rfl rfl underlying70 sz85 by85 underlying70 rfl z85 rfl (by decide) (by decide) rfl rfl hq277) ?_
  obtain ⟨hp278, H⟩ := H
  refine lj 100 R17_10_N rfl rfl rfl (ov_nck rfl rfl rfl hp278) ?_
  obtain ⟨b280, i281, p279, hp282, hv283, H⟩ := H
  refine lj 101 R17_10_N rfl rfl rfl (ov_fldA rfl rfl underlying77 rfl sz70 (by decide) rfl hp282 rfl hv283) ?_
  obtain ⟨b285, i286, aw284, hp287, hw288, ho289, ha290, H⟩ := H
  refine lk (dt := none) R17_10_N rfl rfl rfl (ov_st rfl rfl rfl rfl rfl (cells_all ho289) sz70 hp287 hw288 ho289 ha290) ?_
  refine aops_nil ?_
  refine ago_seqE (rfl : C17_29 = .seq C17_30 C17_31) ?_
  refine ago_cut (fun ρ => ρ 0 = m_0 ∧ ρ 10 = t_10 ∧ True) ⟨h0, h10, trivial⟩ (fun ρ ⟨h0, h10, _⟩ => ?_)
  refine ago_regE (rfl : C17_30 = .region 11 R17_11 false) (l := [0, 1, 2]) rfl ?_
  refine lj 102 R17_11_N rfl rfl rfl (ov_bld (r := [.int .i64 0, .int .u64 0, .string (⟨#[]⟩ : ByteArray), .string (⟨#[]⟩ : ByteArray), (.slice none 0 0), .int .i64 0]) rfl rfl bo29 rfl (fillN rfl)) ?_
  obtain ⟨p291, aw292, hp293, ha294, H⟩ := H
  refine lj 11 R17_11_N rfl rfl rfl (ov_alloc rfl z29 rfl rfl hp293 ha294) ?_
  obtain ⟨b296, i297, aw295, hp298, hw299, ho300, ha301, H⟩ := H
  refine lk (dt := none) R17_11_N rfl rfl rfl (ov_st rfl rfl rfl rfl rfl rfl sz29 hp298 hw299 ho300 ha301) ?_
  refine aops_nil ?_
  refine ago_seqE (rfl : C17_31 = .seq C17_32 C17_44) ?_
  refine ago_seqE (rfl : C17_32 = .seq C17_33 C17_34) ?_
  refine ago_regE (rfl : C17_33 = .region 12 R17_12 false) (l := [0]) rfl ?_
  refine lj 12 R17_12_N rfl rfl rfl (opv_assign rfl rfl rfl) ?_
  refine aops_nil ?_
  refine ago_blockE (rfl : C17_34 = .block 1 C17_35) ?_
  refine ago_loopE (rfl : C17_35 = .loop C17_36) ?_
  obtain ⟨n, H⟩ := H
  exact S17_2_ok Q E  n _ m_0 t_10 p291 true aw295 h0 h10 rfl rfl H
theorem S17_0_ok (Q : (Int × Int × ByteArray × ByteArray × Value × Int) → AW → Prop) (E : List PanicEntry → AW → Prop)  (ρ : Env) (m_0 : Value) (fun_1 : Int) (fuel_2 : Int) (moves_3 : Int) (room_4 : Int) (aw : AW) (h0 : ρ 0 = m_0) (h1 : ρ 1 = .int .i64 fun_1) (h2 : ρ 2 = .int .i64 fuel_2) (h3 : ρ 3 = .int .i64 moves_3) (h4 : ρ 4 = .int .i64 room_4) (H : S17_0 Q E  m_0 fun_1 fuel_2 moves_3 room_4 aw) :
    AGo prog 134 [.code C17_0] ρ [] aw (RR prog f17 134 sh17 Q E) := by
  unfold S17_0 at H
  refine ago_seqE (rfl : C17_0 = .seq C17_1 C17_2) ?_
  refine ago_regE (rfl : C17_1 = .region 0 R17_0 false) (l := [0]) rfl ?_
  obtain ⟨p302, aw303, hp304, ha305, H⟩ := H
  refine lj 10 R17_0_N rfl rfl rfl (ov_alloc rfl z29 rfl rfl hp304 ha305) ?_
  refine aops_nil ?_
  refine ago_seqE (rfl : C17_2 = .seq C17_3 C17_17) ?_
  refine ago_blockE (rfl : C17_3 = .block 0 C17_4) ?_
  refine ago_seqE (rfl : C17_4 = .seq C17_5 C17_6) ?_
  refine ago_regE (rfl : C17_5 = .region 1 R17_1 false) (l := [0, 1, 2]) rfl ?_
  refine lj 14 R17_1_N rfl rfl rfl (opv_move rfl rfl h0) ?_
  obtain ⟨q306, hf307, hq308, H⟩ := H
  refine lj 15 R17_1_N rfl rfl rfl (ov_eqNil rfl rfl underlying30 rfl hf307 hq308) ?_
  refine lj 13 R17_1_N rfl rfl rfl (opv_assign rfl rfl rfl) ?_
  refine aops_nil ?_
  refine ago_condE  (rfl : C17_6 = .cond (.tmp 13) C17_7 C17_10) rfl rfl (fun hb309 => ?_) (fun hb309 => ?_)
  · exact (cnd_t H hb309).elim
  replace H := cnd_f H hb309
  refine ago_seqE (rfl : C17_10 = .seq C17_11 C17_12) ?_
  refine ago_regE (rfl : C17_11 = .region 3 R17_3 false) (l := [0, 1, 2, 3, 4, 5, 6, 7, 8, 9, 10, 11, 12, 13, 14, 15, 16, 17, 18, 19, 20, 21, 22, 23, 24, 25, 26, 27, 28, 29, 30, 31, 32, 33, 34, 35, 36, 37, 38]) rfl ?_
  refine lj 18 R17_3_N rfl rfl rfl (opv_move rfl rfl h1) ?_
  refine lj 19 R17_3_N rfl rfl rfl (opv_lt rfl rfl rfl rfl rfl) ?_
  refine lj 20 R17_3_N rfl rfl rfl (opv_move rfl rfl rfl) ?_
  rcases Bool.eq_false_or_eq_true (decide (fun_1 < 0)) with hb310 | hb310
  · replace H := cnd_t H hb310
    refine ls 21 R17_3_N rfl rfl ⟨_, rfl, .inl ⟨_, rfl, gq hb310 rfl⟩⟩ ?_
    refine ls 22 R17_3_N rfl rfl ⟨_, rfl, .inl ⟨_, rfl, gq hb310 rfl⟩⟩ ?_
    refine ls 23 R17_3_N rfl rfl ⟨_, rfl, .inl ⟨_, rfl, gq hb310 rfl⟩⟩ ?_
    refine ls 24 R17_3_N rfl rfl ⟨_, rfl, .inl ⟨_, rfl, gq hb310 rfl⟩⟩ ?_
    refine ls 25 R17_3_N rfl rfl ⟨_, rfl, .inl ⟨_, rfl, gq hb310 rfl⟩⟩ ?_
    refine ls 26 R17_3_N rfl rfl ⟨_, rfl, .inl ⟨_, rfl, gq hb310 rfl⟩⟩ ?_
    refine ls 27 R17_3_N rfl rfl ⟨_, rfl, .inl ⟨_, rfl, gq hb310 rfl⟩⟩ ?_
    refine lj 28 R17_3_N rfl rfl rfl (ov_pickT rfl rfl rfl rfl rfl hb310 rfl) ?_
    refine lj 29 R17_3_N rfl rfl rfl (opv_move rfl rfl rfl) ?_
    refine ls 30 R17_3_N rfl rfl ⟨_, rfl, .inl ⟨_, rfl, gq rfl rfl⟩⟩ ?_
    refine ls 31 R17_3_N rfl rfl ⟨_, rfl, .inl ⟨_, rfl, gq rfl rfl⟩⟩ ?_
    refine ls 32 R17_3_N rfl rfl ⟨_, rfl, .inl ⟨_, rfl, gq rfl rfl⟩⟩ ?_
    refine ls 33 R17_3_N rfl rfl ⟨_, rfl, .inl ⟨_, rfl, gq rfl rfl⟩⟩ ?_
    refine ls 34 R17_3_N rfl rfl ⟨_, rfl, .inl ⟨_, rfl, gq rfl rfl⟩⟩ ?_
    refine ls 35 R17_3_N rfl rfl ⟨_, rfl, .inl ⟨_, rfl, gq rfl rfl⟩⟩ ?_
    refine ls 36 R17_3_N rfl rfl ⟨_, rfl, .inl ⟨_, rfl, gq rfl rfl⟩⟩ ?_
    refine ls 37 R17_3_N rfl rfl ⟨_, rfl, .inl ⟨_, rfl, gq rfl rfl⟩⟩ ?_
    refine ls 38 R17_3_N rfl rfl ⟨_, rfl, .inl ⟨_, rfl, gq rfl rfl⟩⟩ ?_
    refine lj 39 R17_3_N rfl rfl rfl (ov_pickT rfl rfl rfl rfl rfl rfl rfl) ?_
    refine lj 40 R17_3_N rfl rfl rfl (opv_move rfl rfl rfl) ?_
    refine ls 41 R17_3_N rfl rfl ⟨_, rfl, .inl ⟨_, rfl, gq rfl rfl⟩⟩ ?_
    refine ls 42 R17_3_N rfl rfl ⟨_, rfl, .inl ⟨_, rfl, gq rfl rfl⟩⟩ ?_
    refine lj 43 R17_3_N rfl rfl rfl (ov_pickT rfl rfl rfl rfl rfl rfl rfl) ?_
    refine lj 44 R17_3_N rfl rfl rfl (opv_move rfl rfl rfl) ?_
    refine ls 45 R17_3_N rfl rfl ⟨_, rfl, .inl ⟨_, rfl, gq rfl rfl⟩⟩ ?_
    refine ls 46 R17_3_N rfl rfl ⟨_, rfl, .inl ⟨_, rfl, gq rfl rfl⟩⟩ ?_
    refine lj 47 R17_3_N rfl rfl rfl (ov_pickT rfl rfl rfl rfl rfl rfl rfl) ?_
    refine lj 48 R17_3_N rfl rfl rfl (opv_move rfl rfl rfl) ?_
    refine ls 49 R17_3_N rfl rfl ⟨_, rfl, .inl ⟨_, rfl, gq rfl rfl⟩⟩ ?_
    refine ls 50 R17_3_N rfl rfl ⟨_, rfl, .inl ⟨_, rfl, gq rfl rfl⟩⟩ ?_
    refine lj 51 R17_3_N rfl rfl rfl (ov_pickT rfl rfl rfl rfl rfl rfl rfl) ?_
    refine lj 52 R17_3_N rfl rfl rfl (opv_move rfl rfl rfl) ?_
    refine ls 53 R17_3_N rfl rfl ⟨_, rfl, .inl ⟨_, rfl, gq rfl rfl⟩⟩ ?_
    refine ls 54 R17_3_N rfl rfl ⟨_, rfl, .inl ⟨_, rfl, gq rfl rfl⟩⟩ ?_
    refine lj 55 R17_3_N rfl rfl rfl (ov_pickT rfl rfl rfl rfl rfl rfl rfl) ?_
    refine lj 17 R17_3_N rfl rfl rfl (opv_assign rfl rfl rfl) ?_
    refine aops_nil ?_
    exact S17_1_ok Q E  _ m_0 fun_1 fuel_2 moves_3 room_4 p302 true aw303 h0 h1 h2 h3 h4 rfl rfl H
  · replace H := cnd_f H hb310
    refine lj 21 R17_3_N rfl rfl ⟨_, rfl, .inl ⟨_, rfl, gq hb310 rfl⟩⟩ (opv_move rfl rfl h1) ?_
    refine lj 22 R17_3_N rfl rfl ⟨_, rfl, .inl ⟨_, rfl, gq hb310 rfl⟩⟩ (opv_move rfl rfl h0) ?_
    obtain ⟨hp311, H⟩ := H
    refine lj 23 R17_3_N rfl rfl ⟨_, rfl, .inl ⟨_, rfl, gq hb310 rfl⟩⟩ (ov_nck rfl rfl rfl hp311) ?_
    obtain ⟨b313, i314, p312, hp315, hv316, H⟩ := H
    refine lj 24 R17_3_N rfl rfl ⟨_, rfl, .inl ⟨_, rfl, gq hb310 rfl⟩⟩ (ov_fldA rfl rfl underlying77 rfl sz44 (by decide) rfl hp315 rfl hv316) ?_
    obtain ⟨b317, i318, x320, hp319, hg321, H⟩ := H
    refine lj 25 R17_3_N rfl rfl ⟨_, rfl, .inl ⟨_, rfl, gq hb310 rfl⟩⟩ (ov_ldV rfl underlying44 rfl rfl rfl hp319 hg321) ?_
    obtain ⟨q323, l324, c325, n322, hv326, hn327, H⟩ := H
    refine lj 26 R17_3_N rfl rfl ⟨_, rfl, .inl ⟨_, rfl, gq hb310 rfl⟩⟩ (ov_len rfl rfl rfl underlying44 rfl hv326 hn327) ?_
    refine lj 27 R17_3_N rfl rfl ⟨_, rfl, .inl ⟨_, rfl, gq hb310 rfl⟩⟩ (opv_ge rfl rfl rfl rfl rfl) ?_
    refine lj 28 R17_3_N rfl rfl rfl (ov_pickF rfl rfl rfl rfl rfl hb310 rfl) ?_
    refine lj 29 R17_3_N rfl rfl rfl (opv_move rfl rfl rfl) ?_
    rcases Bool.eq_false_or_eq_true (decide (n322 ≤ fun_1)) with hb328 | hb328
    · replace H := cnd_t H hb328
      refine ls 30 R17_3_N rfl rfl ⟨_, rfl, .inl ⟨_, rfl, gq hb328 rfl⟩⟩ ?_
      refine ls 31 R17_3_N rfl rfl ⟨_, rfl, .inl ⟨_, rfl, gq hb328 rfl⟩⟩ ?_
      refine ls 32 R17_3_N rfl rfl ⟨_, rfl, .inl ⟨_, rfl, gq hb328 rfl⟩⟩ ?_
      refine ls 33 R17_3_N rfl rfl ⟨_, rfl, .inl ⟨_, rfl, gq hb328 rfl⟩⟩ ?_
      refine ls 34 R17_3_N rfl rfl ⟨_, rfl, .inl ⟨_, rfl, gq hb328 rfl⟩⟩ ?_
      refine ls 35 R17_3_N rfl rfl ⟨_, rfl, .inl ⟨_, rfl, gq hb328 rfl⟩⟩ ?_
      refine ls 36 R17_3_N rfl rfl ⟨_, rfl, .inl ⟨_, rfl, gq hb328 rfl⟩⟩ ?_
      refine ls 37 R17_3_N rfl rfl ⟨_, rfl, .inl ⟨_, rfl, gq hb328 rfl⟩⟩ ?_
      refine ls 38 R17_3_N rfl rfl ⟨_, rfl, .inl ⟨_, rfl, gq hb328 rfl⟩⟩ ?_
      refine lj 39 R17_3_N rfl rfl rfl (ov_pickT rfl rfl rfl rfl rfl hb328 rfl) ?_
      refine lj 40 R17_3_N rfl rfl rfl (opv_move rfl rfl rfl) ?_
      refine ls 41 R17_3_N rfl rfl ⟨_, rfl, .inl ⟨_, rfl, gq rfl rfl⟩⟩ ?_
      refine ls 42 R17_3_N rfl rfl ⟨_, rfl, .inl ⟨_, rfl, gq rfl rfl⟩⟩ ?_
      refine lj 43 R17_3_N rfl rfl rfl (ov_pickT rfl rfl rfl rfl rfl rfl rfl) ?_
      refine lj 44 R17_3_N rfl rfl rfl (opv_move rfl rfl rfl) ?_
      refine ls 45 R17_3_N rfl rfl ⟨_, rfl, .inl ⟨_, rfl, gq rfl rfl⟩⟩ ?_
      refine ls 46 R17_3_N rfl rfl ⟨_, rfl, .inl ⟨_, rfl, gq rfl rfl⟩⟩ ?_
      refine lj 47 R17_3_N rfl rfl rfl (ov_pickT rfl rfl rfl rfl rfl rfl rfl) ?_
      refine lj 48 R17_3_N rfl rfl rfl (opv_move rfl rfl rfl) ?_
      refine ls 49 R17_3_N rfl rfl ⟨_, rfl, .inl ⟨_, rfl, gq rfl rfl⟩⟩ ?_
      refine ls 50 R17_3_N rfl rfl ⟨_, rfl, .inl ⟨_, rfl, gq rfl rfl⟩⟩ ?_
      refine lj 51 R17_3_N rfl rfl rfl (ov_pickT rfl rfl rfl rfl rfl rfl rfl) ?_
      refine lj 52 R17_3_N rfl rfl rfl (opv_move rfl rfl rfl) ?_
      refine ls 53 R17_3_N rfl rfl ⟨_, rfl, .inl ⟨_, rfl, gq rfl rfl⟩⟩ ?_
      refine ls 54 R17_3_N rfl rfl ⟨_, rfl, .inl ⟨_, rfl, gq rfl rfl⟩⟩ ?_
      refine lj 55 R17_3_N rfl rfl rfl (ov_pickT rfl rfl rfl rfl rfl rfl rfl) ?_
      refine lj 17 R17_3_N rfl rfl rfl (opv_assign rfl rfl rfl) ?_
      refine aops_nil ?_
      exact S17_1_ok Q E  _ m_0 fun_1 fuel_2 moves_3 room_4 p302 true aw303 h0 h1 h2 h3 h4 rfl rfl H
    · replace H := cnd_f H hb328
      refine lj 30 R17_3_N rfl rfl ⟨_, rfl, .inl ⟨_, rfl, gq hb328 rfl⟩⟩ (opv_move rfl rfl h0) ?_
      obtain ⟨hp329, H⟩ := H
      refine lj 31 R17_3_N rfl rfl ⟨_, rfl, .inl ⟨_, rfl, gq hb328 rfl⟩⟩ (ov_nck rfl rfl rfl hp329) ?_
      obtain ⟨b331, i332, p330, hp333, hv334, H⟩ := H
      refine lj 32 R17_3_N rfl rfl ⟨_, rfl, .inl ⟨_, rfl, gq hb328 rfl⟩⟩ (ov_fldA rfl rfl underlying77 rfl sz44 (by decide) rfl hp333 rfl hv334) ?_
      obtain ⟨b335, i336, x338, hp337, hg339, H⟩ := H
      refine lj 33 R17_3_N rfl rfl ⟨_, rfl, .inl ⟨_, rfl, gq hb328 rfl⟩⟩ (ov_ldV rfl underlying44 rfl rfl rfl hp337 hg339) ?_
      refine lj 34 R17_3_N rfl rfl ⟨_, rfl, .inl ⟨_, rfl, gq hb328 rfl⟩⟩ (opv_move rfl rfl h1) ?_
      obtain ⟨b341, i342, l343, c344, p340, hp345, h0346, hj347, hv348, H⟩ := H
      refine lj 35 R17_3_N rfl rfl ⟨_, rfl, .inl ⟨_, rfl, gq hb328 rfl⟩⟩ (ov_ixS rfl rfl rfl underlying44 sz43 rfl rfl hp345 h0346 hj347 hv348) ?_
      obtain ⟨b350, i351, p349, hp352, hv353, H⟩ := H
      refine lj 36 R17_3_N rfl rfl ⟨_, rfl, .inl ⟨_, rfl, gq hb328 rfl⟩⟩ (ov_fldA rfl rfl underlying43 rfl sz3 (by decide) rfl hp352 rfl hv353) ?_
      obtain ⟨b354, i355, x357, hp356, hg358, H⟩ := H
      refine lj 37 R17_3_N rfl rfl ⟨_, rfl, .inl ⟨_, rfl, gq hb328 rfl⟩⟩ (ov_ldI rfl underlying3 rfl rfl hp356 hg358) ?_
      refine lj 38 R17_3_N rfl rfl ⟨_, rfl, .inl ⟨_, rfl, gq hb328 rfl⟩⟩ (opv_gt rfl rfl rfl rfl rfl) ?_
      refine lj 39 R17_3_N rfl rfl rfl (ov_pickF rfl rfl rfl rfl rfl hb328 rfl) ?_
      refine lj 40 R17_3_N rfl rfl rfl (opv_move rfl rfl rfl) ?_
      rcases Bool.eq_false_or_eq_true (decide (0 < x357)) with hb359 | hb359
      · replace H := cnd_t H hb359
        refine ls 41 R17_3_N rfl rfl ⟨_, rfl, .inl ⟨_, rfl, gq hb359 rfl⟩⟩ ?_
        refine ls 42 R17_3_N rfl rfl ⟨_, rfl, .inl ⟨_, rfl, gq hb359 rfl⟩⟩ ?_
        refine lj 43 R17_3_N rfl rfl rfl (ov_pickT rfl rfl rfl rfl rfl hb359 rfl) ?_
        refine lj 44 R17_3_N rfl rfl rfl (opv_move rfl rfl rfl) ?_
        refine ls 45 R17_3_N rfl rfl ⟨_, rfl, .inl ⟨_, rfl, gq rfl rfl⟩⟩ ?_
        refine ls 46 R17_3_N rfl rfl ⟨_, rfl, .inl ⟨_, rfl, gq rfl rfl⟩⟩ ?_
        refine lj 47 R17_3_N rfl rfl rfl (ov_pickT rfl rfl rfl rfl rfl rfl rfl) ?_
        refine lj 48 R17_3_N rfl rfl rfl (opv_move rfl rfl rfl) ?_
        refine ls 49 R17_3_N rfl rfl ⟨_, rfl, .inl ⟨_, rfl, gq rfl rfl⟩⟩ ?_
        refine ls 50 R17_3_N rfl rfl ⟨_, rfl, .inl ⟨_, rfl, gq rfl rfl⟩⟩ ?_
        refine lj 51 R17_3_N rfl rfl rfl (ov_pickT rfl rfl rfl rfl rfl rfl rfl) ?_
        refine lj 52 R17_3_N rfl rfl rfl (opv_move rfl rfl rfl) ?_
        refine ls 53 R17_3_N rfl rfl ⟨_, rfl, .inl ⟨_, rfl, gq rfl rfl⟩⟩ ?_
        refine ls 54 R17_3_N rfl rfl ⟨_, rfl, .inl ⟨_, rfl, gq rfl rfl⟩⟩ ?_
        refine lj 55 R17_3_N rfl rfl rfl (ov_pickT rfl rfl rfl rfl rfl rfl rfl) ?_
        refine lj 17 R17_3_N rfl rfl rfl (opv_assign rfl rfl rfl) ?_
        refine aops_nil ?_
        exact S17_1_ok Q E  _ m_0 fun_1 fuel_2 moves_3 room_4 p302 true aw303 h0 h1 h2 h3 h4 rfl rfl H
      · replace H := cnd_f H hb359
        refine lj 41 R17_3_N rfl rfl ⟨_, rfl, .inl ⟨_, rfl, gq hb359 rfl⟩⟩ (opv_move rfl rfl h2) ?_
        refine lj 42 R17_3_N rfl rfl ⟨_, rfl, .inl ⟨_, rfl, gq hb359 rfl⟩⟩ (opv_lt rfl rfl rfl rfl rfl) ?_
        refine lj 43 R17_3_N rfl rfl rfl (ov_pickF rfl rfl rfl rfl rfl hb359 rfl) ?_
        refine lj 44 R17_3_N rfl rfl rfl (opv_move rfl rfl rfl) ?_
        rcases Bool.eq_false_or_eq_true (decide (fuel_2 < 0)) with hb360 | hb360
        · replace H := cnd_t H hb360
          refine ls 45 R17_3_N rfl rfl ⟨_, rfl, .inl ⟨_, rfl, gq hb360 rfl⟩⟩ ?_
          refine ls 46 R17_3_N rfl rfl ⟨_, rfl, .inl ⟨_, rfl, gq hb360 rfl⟩⟩ ?_
          refine lj 47 R17_3_N rfl rfl rfl (ov_pickT rfl rfl rfl rfl rfl hb360 rfl) ?_
          refine lj 48 R17_3_N rfl rfl rfl (opv_move rfl rfl rfl) ?_
          refine ls 49 R17_3_N rfl rfl ⟨_, rfl, .inl ⟨_, rfl, gq rfl rfl⟩⟩ ?_
          refine ls 50 R17_3_N rfl rfl ⟨_, rfl, .inl ⟨_, rfl, gq rfl rfl⟩⟩ ?_
          refine lj 51 R17_3_N rfl rfl rfl (ov_pickT rfl rfl rfl rfl rfl rfl rfl) ?_
          refine lj 52 R17_3_N rfl rfl rfl (opv_move rfl rfl rfl) ?_
          refine ls 53 R17_3_N rfl rfl ⟨_, rfl, .inl ⟨_, rfl, gq rfl rfl⟩⟩ ?_
          refine ls 54 R17_3_N rfl rfl ⟨_, rfl, .inl ⟨_, rfl, gq rfl rfl⟩⟩ ?_
          refine lj 55 R17_3_N rfl rfl rfl (ov_pickT rfl rfl rfl rfl rfl rfl rfl) ?_
          refine lj 17 R17_3_N rfl rfl rfl (opv_assign rfl rfl rfl) ?_
          refine aops_nil ?_
          exact S17_1_ok Q E  _ m_0 fun_1 fuel_2 moves_3 room_4 p302 true aw303 h0 h1 h2 h3 h4 rfl rfl H
        · replace H := cnd_f H hb360
          refine lj 45 R17_3_N rfl rfl ⟨_, rfl, .inl ⟨_, rfl, gq hb360 rfl⟩⟩ (opv_move rfl rfl h2) ?_
          refine lj 46 R17_3_N rfl rfl ⟨_, rfl, .inl ⟨_, rfl, gq hb360 rfl⟩⟩ (opv_gt rfl rfl rfl rfl rfl) ?_
          refine lj 47 R17_3_N rfl rfl rfl (ov_pickF rfl rfl rfl rfl rfl hb360 rfl) ?_
          refine lj 48 R17_3_N rfl rfl rfl (opv_move rfl rfl rfl) ?_
          rcases Bool.eq_false_or_eq_true (decide (20000 < fuel_2)) with hb361 | hb361
          · replace H := cnd_t H hb361
            refine ls 49 R17_3_N rfl rfl ⟨_, rfl, .inl ⟨_, rfl, gq hb361 rfl⟩⟩ ?_
            refine ls 50 R17_3_N rfl rfl ⟨_, rfl, .inl ⟨_, rfl, gq hb361 rfl⟩⟩ ?_
            refine lj 51 R17_3_N rfl rfl rfl (ov_pickT rfl rfl rfl rfl rfl hb361 rfl) ?_
            refine lj 52 R17_3_N rfl rfl rfl (opv_move rfl rfl rfl) ?_
            refine ls 53 R17_3_N rfl rfl ⟨_, rfl, .inl ⟨_, rfl, gq rfl rfl⟩⟩ ?_
            refine ls 54 R17_3_N rfl rfl ⟨_, rfl, .inl ⟨_, rfl, gq rfl rfl⟩⟩ ?_
            refine lj 55 R17_3_N rfl rfl rfl (ov_pickT rfl rfl rfl rfl rfl rfl rfl) ?_
            refine lj 17 R17_3_N rfl rfl rfl (opv_assign rfl rfl rfl) ?_
            refine aops_nil ?_
            exact S17_1_ok Q E  _ m_0 fun_1 fuel_2 moves_3 room_4 p302 true aw303 h0 h1 h2 h3 h4 rfl rfl H
          · replace H := cnd_f H hb361
            refine lj 49 R17_3_N rfl rfl ⟨_, rfl, .inl ⟨_, rfl, gq hb361 rfl⟩⟩ (opv_move rfl rfl h3) ?_
            refine lj 50 R17_3_N rfl rfl ⟨_, rfl, .inl ⟨_, rfl, gq hb361 rfl⟩⟩ (opv_lt rfl rfl rfl rfl rfl) ?_
            refine lj 51 R17_3_N rfl rfl rfl (ov_pickF rfl rfl rfl rfl rfl hb361 rfl) ?_
            refine lj 52 R17_3_N rfl rfl rfl (opv_move rfl rfl rfl) ?_
            rcases Bool.eq_false_or_eq_true (decide (moves_3 < 0)) with hb362 | hb362
            · replace H := cnd_t H hb362
              refine ls 53 R17_3_N rfl rfl ⟨_, rfl, .inl ⟨_, rfl, gq hb362 rfl⟩⟩ ?_
              refine ls 54 R17_3_N rfl rfl ⟨_, rfl, .inl ⟨_, rfl, gq hb362 rfl⟩⟩ ?_
              refine lj 55 R17_3_N rfl rfl rfl (ov_pickT rfl rfl rfl rfl rfl hb362 rfl) ?_
              refine lj 17 R17_3_N rfl rfl rfl (opv_assign rfl rfl rfl) ?_
              refine aops_nil ?_
              exact S17_1_ok Q E  _ m_0 fun_1 fuel_2 moves_3 room_4 p302 true aw303 h0 h1 h2 h3 h4 rfl rfl H
            · replace H := cnd_f H hb362
              refine lj 53 R17_3_N rfl rfl ⟨_, rfl, .inl ⟨_, rfl, gq hb362 rfl⟩⟩ (opv_move rfl rfl h4) ?_
              refine lj 54 R17_3_N rfl rfl ⟨_, rfl, .inl ⟨_, rfl, gq hb362 rfl⟩⟩ (opv_lt rfl rfl rfl rfl rfl) ?_
              refine lj 55 R17_3_N rfl rfl rfl (ov_pickF rfl rfl rfl rfl rfl hb362 rfl) ?_
              refine lj 17 R17_3_N rfl rfl rfl (opv_assign rfl rfl rfl) ?_
              refine aops_nil ?_
              exact S17_1_ok Q E  _ m_0 fun_1 fuel_2 moves_3 room_4 p302 (decide (room_4 < 0)) aw303 h0 h1 h2 h3 h4 rfl rfl H
theorem F17_ok {Q : (Int × Int × ByteArray × ByteArray × Value × Int) → AW → Prop} {E : List PanicEntry → AW → Prop} (m_0 : Value) (fun_1 : Int) (fuel_2 : Int) (moves_3 : Int) (room_4 : Int) (aw : AW) (H : S17_0 Q E m_0 fun_1 fuel_2 moves_3 room_4 aw) : CallP prog 17 [m_0, .int .i64 fun_1, .int .i64 fuel_2, .int .i64 moves_3, .int .i64 room_4] aw sh17 Q E :=
  callP_of func17 C17_is rfl (Nat.le_of_ble_eq_true rfl) (S17_0_ok Q E _ m_0 fun_1 fuel_2 moves_3 room_4 aw rfl rfl rfl rfl rfl H)
def C31_0 := bodyOf f31
theorem C31_is : f31.body = some C31_0 := by kernel_rfl
def C31_1 := cl C31_0
def R31_0 := regOps C31_1
def C31_2 := cr C31_0
def C31_3 := cl C31_2
def R31_1 := regOps C31_3
def C31_4 := cr C31_2
def C31_5 := cl C31_4
def C31_6 := cl C31_5
def R31_2 := regOps C31_6
def C31_7 := cr C31_5
def C31_8 := cl C31_7
def C31_9 := cl C31_8
def C31_10 := cl C31_9
def R31_3 := regOps C31_10
def C31_11 := cr C31_9
def C31_12 := cl C31_11
def C31_13 := cl C31_12
def C31_14 := cr C31_12
def C31_15 := cr C31_11
def C31_16 := cl C31_15
def C31_17 := cl C31_16
def C31_18 := cl C31_17
def R31_4 := regOps C31_18
def C31_19 := cr C31_17
def R31_5 := regOps C31_19
def C31_20 := cr C31_15
def R31_6 := regOps C31_20
def C31_21 := cr C31_4
def C31_22 := cl C31_21
def C31_23 := cl C31_22
def R31_7 := regOps C31_23
def C31_24 := cr C31_22
def C31_25 := cl C31_24
def C31_26 := cl C31_25
def C31_27 := cl C31_26
def R31_8 := regOps C31_27
def C31_28 := cr C31_26
def C31_29 := cl C31_28
def C31_30 := cl C31_29
def C31_31 := cr C31_29
def C31_32 := cr C31_28
def C31_33 := cl C31_32
def C31_34 := cl C31_33
def C31_35 := cl C31_34
def R31_9 := regOps C31_35
def C31_36 := cr C31_34
def R31_10 := regOps C31_36
def C31_37 := cr C31_32
def R31_11 := regOps C31_37
def C31_38 := cr C31_21
def C31_39 := cl C31_38
def R31_12 := regOps C31_39
def C31_40 := cr C31_38
theorem R31_0_N : dstsOk 43 R31_0 = true := by decide +kernel
theorem R31_1_N : dstsOk 43 R31_1 = true := by decide +kernel
theorem R31_2_N : dstsOk 43 R31_2 = true := by decide +kernel
theorem R31_3_N : dstsOk 43 R31_3 = true := by decide +kernel
theorem R31_4_N : dstsOk 43 R31_4 = true := by decide +kernel
theorem R31_5_N : dstsOk 43 R31_5 = true := by decide +kernel
theorem R31_6_N : dstsOk 43 R31_6 = true := by decide +kernel
theorem R31_7_N : dstsOk 43 R31_7 = true := by decide +kernel
theorem R31_8_N : dstsOk 43 R31_8 = true := by decide +kernel
theorem R31_9_N : dstsOk 43 R31_9 = true := by decide +kernel
theorem R31_10_N : dstsOk 43 R31_10 = true := by decide +kernel
theorem R31_11_N : dstsOk 43 R31_11 = true := by decide +kernel
theorem R31_12_N : dstsOk 43 R31_12 = true := by decide +kernel
def S31_2s (Q : Value → AW → Prop) (E : List PanicEntry → AW → Prop)  (nx2 : Value → Value → Int → Int → AW → Prop) (m_0 : Value) (l_3 : Value) (t_28 : Int) (t_29 : Int) (aw : AW) : Prop :=
  cnd (decide (t_29 < t_28)) (nck m_0 (fldA m_0 3 fun p3 =>
  ldV aw p3 fun x11 =>
  ixS x11 t_29 1 fun p13 =>
  one p13 = true ∧ alcS aw [p13] 107 1 1 fun p22 aw23 =>
  app aw23 107 1 8 l_3 p22 fun v27 aw28 =>
  nx2 m_0 v27 t_28 (IntKind.i64.wrap (t_29 + 1)) aw28)) (Q l_3 aw)
def S31_2 (Q : Value → AW → Prop) (E : List PanicEntry → AW → Prop)  : Nat → Value → Value → Int → Int → AW → Prop
  | 0 => fun _ _ _ _ _ => False
  | n + 1 => S31_2s Q E  (S31_2 Q E  n)
def S31_1s (Q : Value → AW → Prop) (E : List PanicEntry → AW → Prop)  (nx1 : Value → Value → Int → Int → AW → Prop) (m_0 : Value) (l_3 : Value) (t_10 : Int) (t_11 : Int) (aw : AW) : Prop :=
  cnd (decide (t_11 < t_10)) (nck m_0 (fldA m_0 2 fun p32 =>
  ldV aw p32 fun x40 =>
  ixS x40 t_11 1 fun p42 =>
  one p42 = true ∧ alcS aw [p42] 107 1 1 fun p51 aw52 =>
  app aw52 107 1 8 l_3 p51 fun v56 aw57 =>
  nx1 m_0 v56 t_10 (IntKind.i64.wrap (t_11 + 1)) aw57)) (nck m_0 (fldA m_0 3 fun p60 =>
  ldV aw p60 fun x68 =>
  slen x68 fun n70 =>
  ∃ n, S31_2 Q E  n m_0 l_3 n70 0 aw))
def S31_1 (Q : Value → AW → Prop) (E : List PanicEntry → AW → Prop)  : Nat → Value → Value → Int → Int → AW → Prop
  | 0 => fun _ _ _ _ _ => False
  | n + 1 => S31_1s Q E  (S31_1 Q E  n)
def S31_0 (Q : Value → AW → Prop) (E : List PanicEntry → AW → Prop)  (m_0 : Value) (aw : AW) : Prop :=
  nck m_0 (fldA m_0 2 fun p77 =>
  ldV aw p77 fun x85 =>
  slen x85 fun n87 =>
  ∃ n, S31_1 Q E  n m_0 (.slice none 0 0) n87 0 aw)
theorem S31_2s_ok (Q : Value → AW → Prop) (E : List PanicEntry → AW → Prop)  (nx2 : Value → Value → Int → Int → AW → Prop) (L2 : ∀ (ρ : Env) (m_0 : Value) (l_3 : Value) (t_28 : Int) (t_29 : Int) (aw : AW) (h0 : ρ 0 = m_0) (h3 : ρ 3 = l_3) (h28 : ρ 28 = .int .i64 t_28) (h29 : ρ 29 = .int .i64 t_29), nx2 m_0 l_3 t_28 t_29 aw → AGo prog 43 [.code C31_26, .inLoop C31_26, .inBlock 2, .code C31_38] ρ [] aw (RR prog f31 43 sh31 Q E)) (ρ : Env) (m_0 : Value) (l_3 : Value) (t_28 : Int) (t_29 : Int) (aw : AW) (h0 : ρ 0 = m_0) (h3 : ρ 3 = l_3) (h28 : ρ 28 = .int .i64 t_28) (h29 : ρ 29 = .int .i64 t_29) (H : S31_2s Q E  nx2 m_0 l_3 t_28 t_29 aw) :
    AGo prog 43 [.code C31_26, .inLoop C31_26, .inBlock 2, .code C31_38] ρ [] aw (RR prog f31 43 sh31 Q E) := by
  unfold S31_2s at H
  refine ago_seqE (rfl : C31_26 = .seq C31_27 C31_28) ?_
  refine ago_regE (rfl : C31_27 = .region 8 R31_8 false) (l := [0]) rfl ?_
  refine lj 30 R31_8_N rfl rfl rfl (opv_lt rfl rfl rfl h29 h28) ?_
  refine aops_nil ?_
  refine ago_seqE (rfl : C31_28 = .seq C31_29 C31_32) ?_
  refine ago_condE  (rfl : C31_29 = .cond (.tmp 30) C31_30 C31_31) rfl rfl (fun hb1 => ?_) (fun hb1 => ?_)
  · replace H := cnd_t H hb1
    refine ago_skipE (rfl : C31_30 = .skip) ?_
    refine ago_seqE (rfl : C31_32 = .seq C31_33 C31_37) ?_
    refine ago_blockE (rfl : C31_33 = .block 3 C31_34) ?_
    refine ago_seqE (rfl : C31_34 = .seq C31_35 C31_36) ?_
    refine ago_regE (rfl : C31_35 = .region 9 R31_9 false) (l := [0, 1]) rfl ?_
    refine lj 31 R31_9_N rfl rfl rfl (opv_move rfl rfl h29) ?_
    refine lj 5 R31_9_N rfl rfl rfl (opv_assign rfl rfl rfl) ?_
    refine aops_nil ?_
    refine ago_regE (rfl : C31_36 = .region 10 R31_10 false) (l := [0, 1, 2, 3, 4, 5, 6, 7, 8, 9]) rfl ?_
    refine lj 32 R31_10_N rfl rfl rfl (opv_move rfl rfl h3) ?_
    refine lj 33 R31_10_N rfl rfl rfl (opv_move rfl rfl h0) ?_
    obtain ⟨hp2, H⟩ := H
    refine lj 34 R31_10_N rfl rfl rfl (ov_nck rfl rfl rfl hp2) ?_
    obtain ⟨b4, i5, p3, hp6, hv7, H⟩ := H
    refine lj 35 R31_10_N rfl rfl rfl (ov_fldA rfl rfl underlying77 rfl sz62 (by decide) rfl hp6 rfl hv7) ?_
    obtain ⟨b8, i9, x11, hp10, hg12, H⟩ := H
    refine lj 36 R31_10_N rfl rfl rfl (ov_ldV rfl underlying62 rfl rfl rfl hp10 hg12) ?_
    refine lj 37 R31_10_N rfl rfl rfl (opv_move rfl rfl rfl) ?_
    obtain ⟨b14, i15, l16, c17, p13, hp18, h019, hj20, hv21, H⟩ := H
    refine lj 38 R31_10_N rfl rfl rfl (ov_ixS rfl rfl rfl underlying62 sz26 rfl rfl hp18 h019 hj20 hv21) ?_
    obtain ⟨h126, H⟩ := H
    obtain ⟨p22, aw23, hp24, ha25, H⟩ := H
    refine lj 39 R31_10_N rfl rfl rfl (ov_bsA (r := [p13]) (vs := [p13]) rfl rfl underlying80 sz107 z107 rfl rfl rfl rfl rfl (mp_cons rfl rfl) (.one (cells_one h126) .nil) hp24 ha25) ?_
    obtain ⟨v27, aw28, hq29, H⟩ := H
    refine lj 40 R31_10_N rfl rfl rfl (ov_app rfl rfl rfl rfl underlying80 sz107 by107 underlying80 rfl z107 rfl (by decide) (by decide) rfl rfl hq29) ?_
    refine lj 3 R31_10_N rfl rfl rfl (opv_assign rfl rfl rfl) ?_
    refine aops_nil ?_
    refine ago_inBlock ?_
    refine ago_cut (fun ρ => ρ 0 = m_0 ∧ ρ 3 = v27 ∧ ρ 28 = .int .i64 t_28 ∧ ρ 29 = .int .i64 t_29 ∧ True) ⟨h0, rfl, h28, h29, trivial⟩ (fun ρ ⟨h0, h3, h28, h29, _⟩ => ?_)
    refine ago_regE (rfl : C31_37 = .region 11 R31_11 false) (l := [0, 1]) rfl ?_
    refine lj 41 R31_11_N rfl rfl rfl (opv_add rfl rfl rfl h29 rfl) ?_
    refine lj 29 R31_11_N rfl rfl rfl (opv_move rfl rfl rfl) ?_
    refine aops_nil ?_
    refine ago_inLoop ?_
    exact L2 _ m_0 v27 t_28 (IntKind.i64.wrap (t_29 + 1)) aw28 h0 h3 h28 rfl H
  replace H := cnd_f H hb1
  refine ago_exitE (rfl : C31_31 = .exit 2) rfl ?_
  refine ago_seqE (rfl : C31_38 = .seq C31_39 C31_40) ?_
  refine ago_regE (rfl : C31_39 = .region 12 R31_12 false) (l := [0, 1]) rfl ?_
  refine lj 42 R31_12_N rfl rfl rfl (opv_move rfl rfl h3) ?_
  refine lj 2 R31_12_N rfl rfl rfl (opv_assign rfl rfl rfl) ?_
  refine aops_nil ?_
  exact ago_retE (rfl : C31_40 = .ret) (r := l_3) (ares_1 rfl (oneT rfl)) rfl H
theorem S31_2_ok (Q : Value → AW → Prop) (E : List PanicEntry → AW → Prop)  : ∀ (n : Nat) (ρ : Env) (m_0 : Value) (l_3 : Value) (t_28 : Int) (t_29 : Int) (aw : AW) (h0 : ρ 0 = m_0) (h3 : ρ 3 = l_3) (h28 : ρ 28 = .int .i64 t_28) (h29 : ρ 29 = .int .i64 t_29), S31_2 Q E  n m_0 l_3 t_28 t_29 aw →
    AGo prog 43 [.code C31_26, .inLoop C31_26, .inBlock 2, .code C31_38] ρ [] aw (RR prog f31 43 sh31 Q E)
  | 0, _, _, _, _, _, _, _, _, _, _ => fun H => H.elim
  | n + 1, ρ, m_0, l_3, t_28, t_29, aw, h0, h3, h28, h29 => fun H => S31_2s_ok Q E  _ (S31_2_ok Q E  n) ρ m_0 l_3 t_28 t_29 aw h0 h3 h28 h29 H
theorem S31_1s_ok (Q : Value → AW → Prop) (E : List PanicEntry → AW → Prop)  (nx1 : Value → Value → Int → Int → AW → Prop) (L1 : ∀ (ρ : Env) (m_0 : Value) (l_3 : Value) (t_10 : Int) (t_11 : Int) (aw : AW) (h0 : ρ 0 = m_0) (h3 : ρ 3 = l_3) (h10 : ρ 10 = .int .i64 t_10) (h11 : ρ 11 = .int .i64 t_11), nx1 m_0 l_3 t_10 t_11 aw → AGo prog 43 [.code C31_9, .inLoop C31_9, .inBlock 0, .code C31_21] ρ [] aw (RR prog f31 43 sh31 Q E)) (ρ : Env) (m_0 : Value) (l_3 : Value) (t_10 : Int) (t_11 : Int) (aw : AW) (h0 : ρ 0 = m_0) (h3 : ρ 3 = l_3) (h10 : ρ 10 = .int .i64 t_10) (h11 : ρ 11 = .int .i64 t_11) (H : S31_1s Q E  nx1 m_0 l_3 t_10 t_11 aw) :
    AGo prog 43 [.code C31_9, .inLoop C31_9, .inBlock 0, .code C31_21] ρ [] aw (RR prog f31 43 sh31 Q E) := by
  unfold S31_1s at H
  refine ago_seqE (rfl : C31_9 = .seq C31_10 C31_11) ?_
  refine ago_regE (rfl : C31_10 = .region 3 R31_3 false) (l := [0]) rfl ?_
  refine lj 12 R31_3_N rfl rfl rfl (opv_lt rfl rfl rfl h11 h10) ?_
  refine aops_nil ?_
  refine ago_seqE (rfl : C31_11 = .seq C31_12 C31_15) ?_
  refine ago_condE  (rfl : C31_12 = .cond (.tmp 12) C31_13 C31_14) rfl rfl (fun hb30 => ?_) (fun hb30 => ?_)
  · replace H := cnd_t H hb30
    refine ago_skipE (rfl : C31_13 = .skip) ?_
    refine ago_seqE (rfl : C31_15 = .seq C31_16 C31_20) ?_
    refine ago_blockE (rfl : C31_16 = .block 1 C31_17) ?_
    refine ago_seqE (rfl : C31_17 = .seq C31_18 C31_19) ?_
    refine ago_regE (rfl : C31_18 = .region 4 R31_4 false) (l := [0, 1]) rfl ?_
    refine lj 13 R31_4_N rfl rfl rfl (opv_move rfl rfl h11) ?_
    refine lj 4 R31_4_N rfl rfl rfl (opv_assign rfl rfl rfl) ?_
    refine aops_nil ?_
    refine ago_regE (rfl : C31_19 = .region 5 R31_5 false) (l := [0, 1, 2, 3, 4, 5, 6, 7, 8, 9]) rfl ?_
    refine lj 14 R31_5_N rfl rfl rfl (opv_move rfl rfl h3) ?_
    refine lj 15 R31_5_N rfl rfl rfl (opv_move rfl rfl h0) ?_
    obtain ⟨hp31, H⟩ := H
    refine lj 16 R31_5_N rfl rfl rfl (ov_nck rfl rfl rfl hp31) ?_
    obtain ⟨b33, i34, p32, hp35, hv36, H⟩ := H
    refine lj 17 R31_5_N rfl rfl rfl (ov_fldA rfl rfl underlying77 rfl sz62 (by decide) rfl hp35 rfl hv36) ?_
    obtain ⟨b37, i38, x40, hp39, hg41, H⟩ := H
    refine lj 18 R31_5_N rfl rfl rfl (ov_ldV rfl underlying62 rfl rfl rfl hp39 hg41) ?_
    refine lj 19 R31_5_N rfl rfl rfl (opv_move rfl rfl rfl) ?_
    obtain ⟨b43, i44, l45, c46, p42, hp47, h048, hj49, hv50, H⟩ := H
    refine lj 20 R31_5_N rfl rfl rfl (ov_ixS rfl rfl rfl underlying62 sz26 rfl rfl hp47 h048 hj49 hv50) ?_
    obtain ⟨h155, H⟩ := H
    obtain ⟨p51, aw52, hp53, ha54, H⟩ := H
    refine lj 21 R31_5_N rfl rfl rfl (ov_bsA (r := [p42]) (vs := [p42]) rfl rfl underlying80 sz107 z107 rfl rfl rfl rfl rfl (mp_cons rfl rfl) (.one (cells_one h155) .nil) hp53 ha54) ?_
    obtain ⟨v56, aw57, hq58, H⟩ := H
    refine lj 22 R31_5_N rfl rfl rfl (ov_app rfl rfl rfl rfl underlying80 sz107 by107 underlying80 rfl z107 rfl (by decide) (by decide) rfl rfl hq58) ?_
    refine lj 3 R31_5_N rfl rfl rfl (opv_assign rfl rfl rfl) ?_
    refine aops_nil ?_
    refine ago_inBlock ?_
    refine ago_cut (fun ρ => ρ 0 = m_0 ∧ ρ 3 = v56 ∧ ρ 10 = .int .i64 t_10 ∧ ρ 11 = .int .i64 t_11 ∧ True) ⟨h0, rfl, h10, h11, trivial⟩ (fun ρ ⟨h0, h3, h10, h11, _⟩ => ?_)
    refine ago_regE (rfl : C31_20 = .region 6 R31_6 false) (l := [0, 1]) rfl ?_
    refine lj 23 R31_6_N rfl rfl rfl (opv_add rfl rfl rfl h11 rfl) ?_
    refine lj 11 R31_6_N rfl rfl rfl (opv_move rfl rfl rfl) ?_
    refine aops_nil ?_
    refine ago_inLoop ?_
    exact L1 _ m_0 v56 t_10 (IntKind.i64.wrap (t_11 + 1)) aw57 h0 h3 h10 rfl H
  replace H := cnd_f H hb30
  refine ago_exitE (rfl : C31_14 = .exit 0) rfl ?_
  refine ago_seqE (rfl : C31_21 = .seq C31_22 C31_38) ?_
  refine ago_seqE (rfl : C31_22 = .seq C31_23 C31_24) ?_
  refine ago_regE (rfl : C31_23 = .region 7 R31_7 false) (l := [0, 1, 2, 3, 4, 5]) rfl ?_
  refine lj 24 R31_7_N rfl rfl rfl (opv_move rfl rfl h0) ?_
  obtain ⟨hp59, H⟩ := H
  refine lj 25 R31_7_N rfl rfl rfl (ov_nck rfl rfl rfl hp59) ?_
  obtain ⟨b61, i62, p60, hp63, hv64, H⟩ := H
  refine lj 26 R31_7_N rfl rfl rfl (ov_fldA rfl rfl underlying77 rfl sz62 (by decide) rfl hp63 rfl hv64) ?_
  obtain ⟨b65, i66, x68, hp67, hg69, H⟩ := H
  refine lj 27 R31_7_N rfl rfl rfl (ov_ldV rfl underlying62 rfl rfl rfl hp67 hg69) ?_
  obtain ⟨q71, l72, c73, n70, hv74, hn75, H⟩ := H
  refine lj 28 R31_7_N rfl rfl rfl (ov_len rfl rfl rfl underlying62 rfl hv74 hn75) ?_
  refine lj 29 R31_7_N rfl rfl rfl (opv_move rfl rfl rfl) ?_
  refine aops_nil ?_
  refine ago_blockE (rfl : C31_24 = .block 2 C31_25) ?_
  refine ago_loopE (rfl : C31_25 = .loop C31_26) ?_
  obtain ⟨n, H⟩ := H
  exact S31_2_ok Q E  n _ m_0 l_3 n70 0 aw h0 h3 rfl rfl H
theorem S31_1_ok (Q : Value → AW → Prop) (E : List PanicEntry → AW → Prop)  : ∀ (n : Nat) (ρ : Env) (m_0 : Value) (l_3 : Value) (t_10 : Int) (t_11 : Int) (aw : AW) (h0 : ρ 0 = m_0) (h3 : ρ 3 = l_3) (h10 : ρ 10 = .int .i64 t_10) (h11 : ρ 11 = .int .i64 t_11), S31_1 Q E  n m_0 l_3 t_10 t_11 aw →
    AGo prog 43 [.code C31_9, .inLoop C31_9, .inBlock 0, .code C31_21] ρ [] aw (RR prog f31 43 sh31 Q E)
  | 0, _, _, _, _, _, _, _, _, _, _ => fun H => H.elim
  | n + 1, ρ, m_0, l_3, t_10, t_11, aw, h0, h3, h10, h11 => fun H => S31_1s_ok Q E  _ (S31_1_ok Q E  n) ρ m_0 l_3 t_10 t_11 aw h0 h3 h10 h11 H
theorem S31_0_ok (Q : Value → AW → Prop) (E : List PanicEntry → AW → Prop)  (ρ : Env) (m_0 : Value) (aw : AW) (h0 : ρ 0 = m_0) (H : S31_0 Q E  m_0 aw) :
    AGo prog 43 [.code C31_0] ρ [] aw (RR prog f31 43 sh31 Q E) := by
  unfold S31_0 at H
  refine ago_seqE (rfl : C31_0 = .seq C31_1 C31_2) ?_
  refine ago_regE (rfl : C31_1 = .region 0 R31_0 false) (l := [0]) rfl ?_
  refine lj 2 R31_0_N rfl rfl rfl (opv_assign rfl rfl rfl) ?_
  refine aops_nil ?_
  refine ago_seqE (rfl : C31_2 = .seq C31_3 C31_4) ?_
  refine ago_regE (rfl : C31_3 = .region 1 R31_1 false) (l := [0]) rfl ?_
  refine lj 3 R31_1_N rfl rfl rfl (opv_assign rfl rfl rfl) ?_
  refine aops_nil ?_
  refine ago_seqE (rfl : C31_4 = .seq C31_5 C31_21) ?_
  refine ago_seqE (rfl : C31_5 = .seq C31_6 C31_7) ?_
  refine ago_regE (rfl : C31_6 = .region 2 R31_2 false) (l := [0, 1, 2, 3, 4, 5]) rfl ?_
  refine lj 6 R31_2_N rfl rfl rfl (opv_move rfl rfl h0) ?_
  obtain ⟨hp76, H⟩ := H
  refine lj 7 R31_2_N rfl rfl rfl (ov_nck rfl rfl rfl hp76) ?_
  obtain ⟨b78, i79, p77, hp80, hv81, H⟩ := H
  refine lj 8 R31_2_N rfl rfl rfl (ov_fldA rfl rfl underlying77 rfl sz62 (by decide) rfl hp80 rfl hv81) ?_
  obtain ⟨b82, i83, x85, hp84, hg86, H⟩ := H
  refine lj 9 R31_2_N rfl rfl rfl (ov_ldV rfl underlying62 rfl rfl rfl hp84 hg86) ?_
  obtain ⟨q88, l89, c90, n87, hv91, hn92, H⟩ := H
  refine lj 10 R31_2_N rfl rfl rfl (ov_len rfl rfl rfl underlying62 rfl hv91 hn92) ?_
  refine lj 11 R31_2_N rfl rfl rfl (opv_move rfl rfl rfl) ?_
  refine aops_nil ?_
  refine ago_blockE (rfl : C31_7 = .block 0 C31_8) ?_
  refine ago_loopE (rfl : C31_8 = .loop C31_9) ?_
  obtain ⟨n, H⟩ := H
  exact S31_1_ok Q E  n _ m_0 (.slice none 0 0) n87 0 aw h0 rfl rfl rfl H
theorem F31_ok {Q : Value → AW → Prop} {E : List PanicEntry → AW → Prop} (m_0 : Value) (aw : AW) (H : S31_0 Q E m_0 aw) : CallP prog 31 [m_0] aw sh31 Q E :=
  callP_of func31 C31_is rfl (Nat.le_of_ble_eq_true rfl) (S31_0_ok Q E _ m_0 aw rfl H)
def C34_0 := bodyOf f34
theorem C34_is : f34.body = some C34_0 := by kernel_rfl
def R34_0 := regOps C34_0
theorem R34_0_N : dstsOk 14 R34_0 = true := by decide +kernel
def S34_0 (Q : Unit → AW → Prop) (E : List PanicEntry → AW → Prop)  (m_0 : Value) (w_1 : Int) (aw : AW) : Prop :=
  nck m_0 (fldA m_0 3 fun p2 =>
  ldV aw p2 fun x10 =>
  alcS aw [.int .u64 w_1] 26 1 1 fun p12 aw13 =>
  app aw13 26 1 8 x10 p12 fun v16 aw17 =>
  nck m_0 (fldA m_0 3 fun p20 =>
  st aw17 p20 [v16] fun aw25 =>
  Q () aw25))
theorem S34_0_ok (Q : Unit → AW → Prop) (E : List PanicEntry → AW → Prop)  (ρ : Env) (m_0 : Value) (w_1 : Int) (aw : AW) (h0 : ρ 0 = m_0) (h1 : ρ 1 = .int .u64 w_1) (H : S34_0 Q E  m_0 w_1 aw) :
    AGo prog 14 [.code C34_0] ρ [] aw (RR prog f34 14 sh34 Q E) := by
  unfold S34_0 at H
  refine ago_regE (rfl : C34_0 = .region 0 R34_0 false) (l := [0, 1, 2, 3, 4, 5, 6, 7, 8, 9, 10]) rfl ?_
  refine lj 4 R34_0_N rfl rfl rfl (opv_move rfl rfl h0) ?_
  refine lj 5 R34_0_N rfl rfl rfl (opv_move rfl rfl h0) ?_
  obtain ⟨hp1, H⟩ := H
  refine lj 6 R34_0_N rfl rfl rfl (ov_nck rfl rfl rfl hp1) ?_
  obtain ⟨b3, i4, p2, hp5, hv6, H⟩ := H
  refine lj 7 R34_0_N rfl rfl rfl (ov_fldA rfl rfl underlying77 rfl sz62 (by decide) rfl hp5 rfl hv6) ?_
  obtain ⟨b7, i8, x10, hp9, hg11, H⟩ := H
  refine lj 8 R34_0_N rfl rfl rfl (ov_ldV rfl underlying62 rfl rfl rfl hp9 hg11) ?_
  refine lj 9 R34_0_N rfl rfl rfl (opv_move rfl rfl h1) ?_
  obtain ⟨p12, aw13, hp14, ha15, H⟩ := H
  refine lj 10 R34_0_N rfl rfl rfl (ov_bsA (r := [.int .u64 w_1]) (vs := [.int .u64 w_1]) rfl rfl underlying62 sz26 z26 rfl rfl rfl rfl rfl (mp_cons rfl rfl) (.one rfl .nil) hp14 ha15) ?_
  obtain ⟨v16, aw17, hq18, H⟩ := H
  refine lj 11 R34_0_N rfl rfl rfl (ov_app rfl rfl rfl rfl underlying62 sz26 by26 underlying62 rfl z26 rfl (by decide) (by decide) rfl rfl hq18) ?_
  obtain ⟨hp19, H⟩ := H
  refine lj 12 R34_0_N rfl rfl rfl (ov_nck rfl rfl rfl hp19) ?_
  obtain ⟨b21, i22, p20, hp23, hv24, H⟩ := H
  refine lj 13 R34_0_N rfl rfl rfl (ov_fldA rfl rfl underlying77 rfl sz62 (by decide) rfl hp23 rfl hv24) ?_
  obtain ⟨b26, i27, aw25, hp28, hw29, ho30, ha31, H⟩ := H
  refine lk (dt := none) R34_0_N rfl rfl rfl (ov_st rfl rfl rfl rfl rfl (cells_all ho30) sz62 hp28 hw29 ho30 ha31) ?_
  refine aops_nil ?_
  exact ago_nilR (r := ()) (ares_0 rfl ) rfl H
theorem F34_ok {Q : Unit → AW → Prop} {E : List PanicEntry → AW → Prop} (m_0 : Value) (w_1 : Int) (aw : AW) (H : S34_0 Q E m_0 w_1 aw) : CallP prog 34 [m_0, .int .u64 w_1] aw sh34 Q E :=
  callP_of func34 C34_is rfl (Nat.le_of_ble_eq_true rfl) (S34_0_ok Q E _ m_0 w_1 aw rfl rfl H)
def C37_0 := bodyOf f37
theorem C37_is : f37.body = some C37_0 := by kernel_rfl
def C37_1 := cl C37_0
def R37_0 := regOps C37_1
def C37_2 := cr C37_0
def C37_3 := cl C37_2
def R37_1 := regOps C37_3
def C37_4 := cr C37_2
def C37_5 := cl C37_4
def R37_2 := regOps C37_5
def C37_6 := cr C37_4
def C37_7 := cl C37_6
def R37_3 := regOps C37_7
def C37_8 := cr C37_6
theorem R37_0_N : dstsOk 31 R37_0 = true := by decide +kernel
theorem R37_1_N : dstsOk 31 R37_1 = true := by decide +kernel
theorem R37_1_O : linOk R37_1 [0, 1, 2, 3, 4, 5, 6, 7, 8, 9, 10, 11, 12] [] = true := by decide +kernel
theorem R37_2_N : dstsOk 31 R37_2 = true := by decide +kernel
theorem R37_2_O : linOk R37_2 [0, 1, 2, 3, 4, 5, 6, 7, 8, 9, 10, 11, 12, 13] [(14, [], [])] = true := by decide +kernel
theorem R37_3_N : dstsOk 31 R37_3 = true := by decide +kernel
def S37_0 (Q : Int → AW → Prop) (E : List PanicEntry → AW → Prop)  (m_0 : Value) (aw : AW) : Prop :=
  nck m_0 (fldA m_0 3 fun p2 =>
  ldV aw p2 fun x10 =>
  nck m_0 (fldA m_0 3 fun p13 =>
  ldV aw p13 fun x21 =>
  slen x21 fun n23 =>
  ixS x10 (IntKind.i64.wrap (n23 - 1)) 1 fun p29 =>
  ldI .u64 aw p29 fun x41 =>
  nck m_0 (fldA m_0 3 fun p44 =>
  ldV aw p44 fun x52 =>
  nck m_0 (fldA m_0 3 fun p55 =>
  ldV aw p55 fun x63 =>
  slen x63 fun n65 =>
  cutV aw 1 x52 0 (IntKind.i64.wrap (n65 - 1)) fun v71 =>
  nck m_0 (fldA m_0 3 fun p74 =>
  st aw p74 [v71] fun aw79 =>
  Q x41 aw79)))))
theorem S37_0_ok (Q : Int → AW → Prop) (E : List PanicEntry → AW → Prop)  (ρ : Env) (m_0 : Value) (aw : AW) (h0 : ρ 0 = m_0) (H : S37_0 Q E  m_0 aw) :
    AGo prog 31 [.code C37_0] ρ [] aw (RR prog f37 31 sh37 Q E) := by
  unfold S37_0 at H
  refine ago_seqE (rfl : C37_0 = .seq C37_1 C37_2) ?_
  refine ago_regE (rfl : C37_1 = .region 0 R37_0 false) (l := [0]) rfl ?_
  refine lj 2 R37_0_N rfl rfl rfl (opv_assign rfl rfl rfl) ?_
  refine aops_nil ?_
  refine ago_seqE (rfl : C37_2 = .seq C37_3 C37_4) ?_
  obtain ⟨hp1, H⟩ := H
  obtain ⟨b3, i4, p2, hp5, hv6, H⟩ := H
  obtain ⟨b7, i8, x10, hp9, hg11, H⟩ := H
  obtain ⟨hp12, H⟩ := H
  obtain ⟨b14, i15, p13, hp16, hv17, H⟩ := H
  obtain ⟨b18, i19, x21, hp20, hg22, H⟩ := H
  obtain ⟨q24, l25, c26, n23, hv27, hn28, H⟩ := H
  obtain ⟨b30, i31, l32, c33, p29, hp34, h035, hj36, hv37, H⟩ := H
  obtain ⟨b38, i39, x41, hp40, hg42, H⟩ := H
  refine ago_drawH (p := [0, 1, 2, 3, 4, 5, 6, 7, 8, 9, 10, 11, 12]) (tl := []) (hv := [(0, m_0), (1, m_0), (2, p2), (3, x10), (4, m_0), (5, m_0), (6, p13), (7, x21), (8, Value.int .i64 n23), (9, Value.int .i64 (IntKind.i64.wrap (n23 - 1))), (10, p29), (11, Value.int .u64 x41), (12, Value.int .u64 x41)]) (rfl : C37_3 = .region 1 R37_1 true) mixed R37_1_N R37_1_O rfl (pv_cons rfl (pv_cons rfl (pv_cons rfl (pv_cons rfl (pv_cons rfl (pv_cons rfl (pv_cons rfl (pv_cons rfl (pv_cons rfl (pv_cons rfl (pv_cons rfl (pv_cons rfl (pv_cons rfl (pv_nil _))))))))))))))
    (fc 4 m_0 (hd_v rfl fun ρ hρ => ⟨rfl, opv_move rfl rfl ((hρ 0 (lmem rfl)).trans h0)⟩) rfl rfl
    (fc 5 m_0 (hd_v rfl fun ρ hρ => ⟨rfl, ov_nck rfl rfl ((hρ 4 (lmem rfl)).trans rfl) hp1⟩) rfl rfl
    (fc 6 p2 (hd_v rfl fun ρ hρ => ⟨rfl, ov_fldA rfl rfl underlying77 rfl sz62 (by decide) ((hρ 5 (lmem rfl)).trans rfl) hp5 rfl hv6⟩) rfl rfl
    (fc 7 x10 (hd_v rfl fun ρ hρ => ⟨rfl, ov_ldV rfl underlying62 rfl rfl ((hρ 6 (lmem rfl)).trans rfl) hp9 hg11⟩) rfl rfl
    (fc 8 m_0 (hd_v rfl fun ρ hρ => ⟨rfl, opv_move rfl rfl ((hρ 0 (lmem rfl)).trans h0)⟩) rfl rfl
    (fc 9 m_0 (hd_v rfl fun ρ hρ => ⟨rfl, ov_nck rfl rfl ((hρ 8 (lmem rfl)).trans rfl) hp12⟩) rfl rfl
    (fc 10 p13 (hd_v rfl fun ρ hρ => ⟨rfl, ov_fldA rfl rfl underlying77 rfl sz62 (by decide) ((hρ 9 (lmem rfl)).trans rfl) hp16 rfl hv17⟩) rfl rfl
    (fc 11 x21 (hd_v rfl fun ρ hρ => ⟨rfl, ov_ldV rfl underlying62 rfl rfl ((hρ 10 (lmem rfl)).trans rfl) hp20 hg22⟩) rfl rfl
    (fc 12 (.int .i64 n23) (hd_v rfl fun ρ hρ => ⟨rfl, ov_len rfl rfl rfl underlying62 ((hρ 11 (lmem rfl)).trans rfl) hv27 hn28⟩) rfl rfl
    (fc 13 (.int .i64 (IntKind.i64.wrap (n23 - 1))) (hd_v rfl fun ρ hρ => ⟨rfl, opv_sub rfl rfl rfl ((hρ 12 (lmem rfl)).trans rfl) rfl⟩) rfl rfl
    (fc 14 p29 (hd_v rfl fun ρ hρ => ⟨rfl, ov_ixS rfl rfl rfl underlying62 sz26 ((hρ 7 (lmem rfl)).trans rfl) ((hρ 13 (lmem rfl)).trans rfl) hp34 h035 hj36 hv37⟩) rfl rfl
    (fc 15 (.int .u64 x41) (hd_v rfl fun ρ hρ => ⟨rfl, ov_ldI rfl underlying26 rfl ((hρ 14 (lmem rfl)).trans rfl) hp40 hg42⟩) rfl rfl
    (fc 3 (.int .u64 x41) (hd_v rfl fun ρ hρ => ⟨rfl, opv_assign rfl rfl ((hρ 15 (lmem rfl)).trans rfl)⟩) rfl rfl
    ffn))))))))))))) ?_
  refine lt_end ?_
  refine ago_seqE (rfl : C37_4 = .seq C37_5 C37_6) ?_
  refine ago_cut (fun ρ => ρ 0 = m_0 ∧ ρ 3 = .int .u64 x41 ∧ True) ⟨h0, rfl, trivial⟩ (fun ρ ⟨h0, h3, _⟩ => ?_)
  obtain ⟨hp43, H⟩ := H
  obtain ⟨b45, i46, p44, hp47, hv48, H⟩ := H
  obtain ⟨b49, i50, x52, hp51, hg53, H⟩ := H
  obtain ⟨hp54, H⟩ := H
  obtain ⟨b56, i57, p55, hp58, hv59, H⟩ := H
  obtain ⟨b60, i61, x63, hp62, hg64, H⟩ := H
  obtain ⟨q66, l67, c68, n65, hv69, hn70, H⟩ := H
  obtain ⟨v71, hq72, H⟩ := H
  obtain ⟨hp73, H⟩ := H
  obtain ⟨b75, i76, p74, hp77, hv78, H⟩ := H
  refine ago_drawH (p := [0, 1, 2, 3, 4, 5, 6, 7, 8, 9, 10, 11, 12, 13]) (tl := [(14, [], [])]) (hv := [(0, m_0), (1, m_0), (2, m_0), (3, p44), (4, x52), (5, m_0), (6, m_0), (7, p55), (8, x63), (9, Value.int .i64 n65), (10, Value.int .i64 (IntKind.i64.wrap (n65 - 1))), (11, v71), (12, m_0), (13, p74)]) (rfl : C37_5 = .region 2 R37_2 true) mixed R37_2_N R37_2_O rfl (pv_cons rfl (pv_cons rfl (pv_cons rfl (pv_cons rfl (pv_cons rfl (pv_cons rfl (pv_cons rfl (pv_cons rfl (pv_cons rfl (pv_cons rfl (pv_cons rfl (pv_cons rfl (pv_cons rfl (pv_cons rfl (pv_nil _)))))))))))))))
    (fc 16 m_0 (hd_v rfl fun ρ hρ => ⟨rfl, opv_move rfl rfl ((hρ 0 (lmem rfl)).trans h0)⟩) rfl rfl
    (fc 17 m_0 (hd_v rfl fun ρ hρ => ⟨rfl, opv_move rfl rfl ((hρ 0 (lmem rfl)).trans h0)⟩) rfl rfl
    (fc 18 m_0 (hd_v rfl fun ρ hρ => ⟨rfl, ov_nck rfl rfl ((hρ 17 (lmem rfl)).trans rfl) hp43⟩) rfl rfl
    (fc 19 p44 (hd_v rfl fun ρ hρ => ⟨rfl, ov_fldA rfl rfl underlying77 rfl sz62 (by decide) ((hρ 18 (lmem rfl)).trans rfl) hp47 rfl hv48⟩) rfl rfl
    (fc 20 x52 (hd_v rfl fun ρ hρ => ⟨rfl, ov_ldV rfl underlying62 rfl rfl ((hρ 19 (lmem rfl)).trans rfl) hp51 hg53⟩) rfl rfl
    (fc 21 m_0 (hd_v rfl fun ρ hρ => ⟨rfl, opv_move rfl rfl ((hρ 0 (lmem rfl)).trans h0)⟩) rfl rfl
    (fc 22 m_0 (hd_v rfl fun ρ hρ => ⟨rfl, ov_nck rfl rfl ((hρ 21 (lmem rfl)).trans rfl) hp54⟩) rfl rfl
    (fc 23 p55 (hd_v rfl fun ρ hρ => ⟨rfl, ov_fldA rfl rfl underlying77 rfl sz62 (by decide) ((hρ 22 (lmem rfl)).trans rfl) hp58 rfl hv59⟩) rfl rfl
    (fc 24 x63 (hd_v rfl fun ρ hρ => ⟨rfl, ov_ldV rfl underlying62 rfl rfl ((hρ 23 (lmem rfl)).trans rfl) hp62 hg64⟩) rfl rfl
    (fc 25 (.int .i64 n65) (hd_v rfl fun ρ hρ => ⟨rfl, ov_len rfl rfl rfl underlying62 ((hρ 24 (lmem rfl)).trans rfl) hv69 hn70⟩) rfl rfl
    (fc 26 (.int .i64 (IntKind.i64.wrap (n65 - 1))) (hd_v rfl fun ρ hρ => ⟨rfl, opv_sub rfl rfl rfl ((hρ 25 (lmem rfl)).trans rfl) rfl⟩) rfl rfl
    (fc 27 v71 (hd_v rfl fun ρ hρ => ⟨rfl, ov_cutV rfl rfl underlying62 sz26 ((hρ 20 (lmem rfl)).trans rfl) (bndN _ _ _) (bndS ((hρ 26 (lmem rfl)).trans rfl)) hq72⟩) rfl rfl
    (fc 28 m_0 (hd_v rfl fun ρ hρ => ⟨rfl, ov_nck rfl rfl ((hρ 16 (lmem rfl)).trans rfl) hp73⟩) rfl rfl
    (fc 29 p74 (hd_v rfl fun ρ hρ => ⟨rfl, ov_fldA rfl rfl underlying77 rfl sz62 (by decide) ((hρ 28 (lmem rfl)).trans rfl) hp77 rfl hv78⟩) rfl rfl
    ffn)))))))))))))) ?_
  obtain ⟨b80, i81, aw79, hp82, hw83, ho84, ha85, H⟩ := H
  refine lt_val (dt := none) (v := undef) rfl rfl (fun ρ hρ => ⟨rfl, ov_st rfl rfl rfl ((hρ 29 (lmem rfl)).trans rfl) ((hρ 27 (lmem rfl)).trans rfl) (cells_all ho84) sz62 hp82 hw83 ho84 ha85⟩) ?_
  refine lt_next (l := []) (hv := []) rfl rfl (pv_nil _)
    ffn ?_
  refine lt_end ?_
  refine ago_seqE (rfl : C37_6 = .seq C37_7 C37_8) ?_
  refine ago_cut (fun ρ => ρ 3 = .int .u64 x41 ∧ True) ⟨h3, trivial⟩ (fun ρ ⟨h3, _⟩ => ?_)
  refine ago_regE (rfl : C37_7 = .region 3 R37_3 false) (l := [0, 1]) rfl ?_
  refine lj 30 R37_3_N rfl rfl rfl (opv_move rfl rfl h3) ?_
  refine lj 2 R37_3_N rfl rfl rfl (opv_assign rfl rfl rfl) ?_
  refine aops_nil ?_
  exact ago_retE (rfl : C37_8 = .ret) (r := x41) (ares_1 rfl (oneT rfl)) rfl H
theorem F37_ok {Q : Int → AW → Prop} {E : List PanicEntry → AW → Prop} (m_0 : Value) (aw : AW) (H : S37_0 Q E m_0 aw) : CallP prog 37 [m_0] aw sh37 Q E :=
  callP_of func37 C37_is rfl (Nat.le_of_ble_eq_true rfl) (S37_0_ok Q E _ m_0 aw rfl H)
end
end Go.Proofs.Tryd
