/- Printed by a program of the prover: what the Go functions of this seat do, in steps. -/
import Derived.Test.YtfoceofohlpafaaDoorMaF
set_option linter.unusedSectionVars false
set_option linter.unusedSimpArgs false
set_option linter.unusedVariables false
namespace Go.Proofs.Tryd
open Go Go.Am Go.RowKit
set_option maxHeartbeats 4000000
set_option maxRecDepth 100000
noncomputable section
variable [SymE]
def C32_0 := bodyOf f32
theorem C32_is : f32.body = some C32_0 := by kernel_rfl
def C32_1 := cl C32_0
def R32_0 := regOps C32_1
def C32_2 := cr C32_0
def C32_3 := cl C32_2
def R32_1 := regOps C32_3
def C32_4 := cr C32_2
def C32_5 := cl C32_4
def C32_6 := cl C32_5
def R32_2 := regOps C32_6
def C32_7 := cr C32_5
def C32_8 := cl C32_7
def C32_9 := cl C32_8
def C32_10 := cl C32_9
def R32_3 := regOps C32_10
def C32_11 := cr C32_9
def C32_12 := cl C32_11
def C32_13 := cl C32_12
def C32_14 := cr C32_12
def C32_15 := cr C32_11
def C32_16 := cl C32_15
def C32_17 := cl C32_16
def C32_18 := cl C32_17
def R32_4 := regOps C32_18
def C32_19 := cr C32_17
def C32_20 := cl C32_19
def R32_5 := regOps C32_20
def C32_21 := cr C32_19
def C32_22 := cl C32_21
def R32_6 := regOps C32_22
def C32_23 := cr C32_21
def C32_24 := cl C32_23
def R32_7 := regOps C32_24
def C32_25 := cr C32_23
def C32_26 := cr C32_15
def R32_8 := regOps C32_26
def C32_27 := cr C32_4
def C32_28 := cl C32_27
def R32_9 := regOps C32_28
def C32_29 := cr C32_27
def C32_30 := cl C32_29
def C32_31 := cl C32_30
def R32_10 := regOps C32_31
def C32_32 := cr C32_30
def C32_33 := cl C32_32
def C32_34 := cl C32_33
def C32_35 := cl C32_34
def R32_11 := regOps C32_35
def C32_36 := cr C32_34
def C32_37 := cl C32_36
def C32_38 := cl C32_37
def C32_39 := cr C32_37
def C32_40 := cr C32_36
def C32_41 := cl C32_40
def C32_42 := cl C32_41
def C32_43 := cl C32_42
def R32_12 := regOps C32_43
def C32_44 := cr C32_42
def R32_13 := regOps C32_44
def C32_45 := cr C32_40
def R32_14 := regOps C32_45
def C32_46 := cr C32_29
def C32_47 := cl C32_46
def R32_15 := regOps C32_47
def C32_48 := cr C32_46
theorem R32_0_N : dstsOk 36 R32_0 = true := by decide +kernel
theorem R32_1_N : dstsOk 36 R32_1 = true := by decide +kernel
theorem R32_2_N : dstsOk 36 R32_2 = true := by decide +kernel
theorem R32_3_N : dstsOk 36 R32_3 = true := by decide +kernel
theorem R32_4_N : dstsOk 36 R32_4 = true := by decide +kernel
theorem R32_5_N : dstsOk 36 R32_5 = true := by decide +kernel
theorem R32_6_N : dstsOk 36 R32_6 = true := by decide +kernel
theorem R32_7_N : dstsOk 36 R32_7 = true := by decide +kernel
theorem R32_8_N : dstsOk 36 R32_8 = true := by decide +kernel
theorem R32_9_N : dstsOk 36 R32_9 = true := by decide +kernel
theorem R32_10_N : dstsOk 36 R32_10 = true := by decide +kernel
theorem R32_11_N : dstsOk 36 R32_11 = true := by decide +kernel
theorem R32_12_N : dstsOk 36 R32_12 = true := by decide +kernel
theorem R32_13_N : dstsOk 36 R32_13 = true := by decide +kernel
theorem R32_14_N : dstsOk 36 R32_14 = true := by decide +kernel
theorem R32_15_N : dstsOk 36 R32_15 = true := by decide +kernel
def S32_2s (Q : Value → AW → Prop) (E : List PanicEntry → AW → Prop)  (nx2 : Value → Value → Int → Int → AW → Prop) (newslice_6 : Value) (t_25 : Value) (t_26 : Int) (t_27 : Int) (aw : AW) : Prop :=
  cnd (decide (t_27 < t_26)) (ixS t_25 t_27 1 fun p2 =>
  ldV aw p2 fun x14 =>
  app aw 43 2 32 newslice_6 x14 fun v16 aw17 =>
  nx2 v16 t_25 t_26 (IntKind.i64.wrap (t_27 + 1)) aw17) (Q newslice_6 aw)
def S32_2 (Q : Value → AW → Prop) (E : List PanicEntry → AW → Prop)  : Nat → Value → Value → Int → Int → AW → Prop
  | 0 => fun _ _ _ _ _ => False
  | n + 1 => S32_2s Q E  (S32_2 Q E  n)
def S32_1s (Q : Value → AW → Prop) (E : List PanicEntry → AW → Prop)  (nx1 : Value → Int → Value → Int → Int → AW → Prop) (slices_0 : Value) (size_3 : Int) (t_9 : Value) (t_10 : Int) (t_11 : Int) (aw : AW) : Prop :=
  cnd (decide (t_11 < t_10)) (ixS t_9 t_11 1 fun p20 =>
  ldV aw p20 fun x32 =>
  slen x32 fun n34 =>
  cnd (decide ((IntKind.i64.wrap (size_3 + n34)) < 0)) (E [⟨(.iface 9 (.string (⟨#[108, 101, 110, 32, 111, 117, 116, 32, 111, 102, 32, 114, 97, 110, 103, 101]⟩ : ByteArray))), false, false⟩] aw) (nx1 slices_0 (IntKind.i64.wrap (size_3 + n34)) t_9 t_10 (IntKind.i64.wrap (t_11 + 1)) aw)) (CallP prog 55 [(.slice none 0 0), .int .i64 size_3] aw sh55 (fun r41 aw42 =>
  slen slices_0 fun n43 =>
  ∃ n, S32_2 Q E  n r41 slices_0 n43 0 aw42) E)
def S32_1 (Q : Value → AW → Prop) (E : List PanicEntry → AW → Prop)  : Nat → Value → Int → Value → Int → Int → AW → Prop
  | 0 => fun _ _ _ _ _ _ => False
  | n + 1 => S32_1s Q E  (S32_1 Q E  n)
def S32_0 (Q : Value → AW → Prop) (E : List PanicEntry → AW → Prop)  (slices_0 : Value) (aw : AW) : Prop :=
  slen slices_0 fun n49 =>
  ∃ n, S32_1 Q E  n slices_0 0 slices_0 n49 0 aw
theorem S32_2s_ok (Q : Value → AW → Prop) (E : List PanicEntry → AW → Prop)  (nx2 : Value → Value → Int → Int → AW → Prop) (L2 : ∀ (ρ : Env) (newslice_6 : Value) (t_25 : Value) (t_26 : Int) (t_27 : Int) (aw : AW) (h6 : ρ 6 = newslice_6) (h25 : ρ 25 = t_25) (h26 : ρ 26 = .int .i64 t_26) (h27 : ρ 27 = .int .i64 t_27), nx2 newslice_6 t_25 t_26 t_27 aw → AGo prog 36 [.code C32_34, .inLoop C32_34, .inBlock 2, .code C32_46] ρ [] aw (RR prog f32 36 sh32 Q E)) (ρ : Env) (newslice_6 : Value) (t_25 : Value) (t_26 : Int) (t_27 : Int) (aw : AW) (h6 : ρ 6 = newslice_6) (h25 : ρ 25 = t_25) (h26 : ρ 26 = .int .i64 t_26) (h27 : ρ 27 = .int .i64 t_27) (H : S32_2s Q E  nx2 newslice_6 t_25 t_26 t_27 aw) :
    AGo prog 36 [.code C32_34, .inLoop C32_34, .inBlock 2, .code C32_46] ρ [] aw (RR prog f32 36 sh32 Q E) := by
  unfold S32_2s at H
  refine ago_seqE (rfl : C32_34 = .seq C32_35 C32_36) ?_
  refine ago_regE (rfl : C32_35 = .region 11 R32_11 false) (l := [0]) rfl ?_
  refine lj 28 R32_11_N rfl rfl rfl (opv_lt rfl rfl rfl h27 h26) ?_
  refine aops_nil ?_
  refine ago_seqE (rfl : C32_36 = .seq C32_37 C32_40) ?_
  refine ago_condE  (rfl : C32_37 = .cond (.tmp 28) C32_38 C32_39) rfl rfl (fun hb1 => ?_) (fun hb1 => ?_)
  · replace H := cnd_t H hb1
    refine ago_skipE (rfl : C32_38 = .skip) ?_
    refine ago_seqE (rfl : C32_40 = .seq C32_41 C32_45) ?_
    refine ago_blockE (rfl : C32_41 = .block 3 C32_42) ?_
    refine ago_seqE (rfl : C32_42 = .seq C32_43 C32_44) ?_
    refine ago_regE (rfl : C32_43 = .region 12 R32_12 false) (l := [0, 1, 2]) rfl ?_
    obtain ⟨b3, i4, l5, c6, p2, hp7, h08, hj9, hv10, H⟩ := H
    refine lj 29 R32_12_N rfl rfl rfl (ov_ixS rfl rfl rfl underlying111 sz44 h25 h27 hp7 h08 hj9 hv10) ?_
    obtain ⟨b11, i12, x14, hp13, hg15, H⟩ := H
    refine lj 30 R32_12_N rfl rfl rfl (ov_ldV rfl underlying44 rfl rfl rfl hp13 hg15) ?_
    refine lj 8 R32_12_N rfl rfl rfl (opv_assign rfl rfl rfl) ?_
    refine aops_nil ?_
    refine ago_regE (rfl : C32_44 = .region 13 R32_13 false) (l := [0, 1, 2, 3]) rfl ?_
    refine lj 31 R32_13_N rfl rfl rfl (opv_move rfl rfl h6) ?_
    refine lj 32 R32_13_N rfl rfl rfl (opv_move rfl rfl rfl) ?_
    obtain ⟨v16, aw17, hq18, H⟩ := H
    refine lj 33 R32_13_N rfl rfl rfl (ov_app rfl rfl rfl rfl underlying44 sz43 by43 underlying44 rfl z43 rfl (by decide) (by decide) rfl rfl hq18) ?_
    refine lj 6 R32_13_N rfl rfl rfl (opv_assign rfl rfl rfl) ?_
    refine aops_nil ?_
    refine ago_inBlock ?_
    refine ago_regE (rfl : C32_45 = .region 14 R32_14 false) (l := [0, 1]) rfl ?_
    refine lj 34 R32_14_N rfl rfl rfl (opv_add rfl rfl rfl h27 rfl) ?_
    refine lj 27 R32_14_N rfl rfl rfl (opv_move rfl rfl rfl) ?_
    refine aops_nil ?_
    refine ago_inLoop ?_
    exact L2 _ v16 t_25 t_26 (IntKind.i64.wrap (t_27 + 1)) aw17 rfl h25 h26 rfl H
  replace H := cnd_f H hb1
  refine ago_exitE (rfl : C32_39 = .exit 2) rfl ?_
  refine ago_seqE (rfl : C32_46 = .seq C32_47 C32_48) ?_
  refine ago_regE (rfl : C32_47 = .region 15 R32_15 false) (l := [0, 1]) rfl ?_
  refine lj 35 R32_15_N rfl rfl rfl (opv_move rfl rfl h6) ?_
  refine lj 2 R32_15_N rfl rfl rfl (opv_assign rfl rfl rfl) ?_
  refine aops_nil ?_
  exact ago_retE (rfl : C32_48 = .ret) (r := newslice_6) (ares_1 rfl (oneT rfl)) rfl H
theorem S32_2_ok (Q : Value → AW → Prop) (E : List PanicEntry → AW → Prop)  : ∀ (n : Nat) (ρ : Env) (newslice_6 : Value) (t_25 : Value) (t_26 : Int) (t_27 : Int) (aw : AW) (h6 : ρ 6 = newslice_6) (h25 : ρ 25 = t_25) (h26 : ρ 26 = .int .i64 t_26) (h27 : ρ 27 = .int .i64 t_27), S32_2 Q E  n newslice_6 t_25 t_26 t_27 aw →
    AGo prog 36 [.code C32_34, .inLoop C32_34, .inBlock 2, .code C32_46] ρ [] aw (RR prog f32 36 sh32 Q E)
  | 0, _, _, _, _, _, _, _, _, _, _ => fun H => H.elim
  | n + 1, ρ, newslice_6, t_25, t_26, t_27, aw, h6, h25, h26, h27 => fun H => S32_2s_ok Q E  _ (S32_2_ok Q E  n) ρ newslice_6 t_25 t_26 t_27 aw h6 h25 h26 h27 H
theorem S32_1s_ok (Q : Value → AW → Prop) (E : List PanicEntry → AW → Prop)  (nx1 : Value → Int → Value → Int → Int → AW → Prop) (L1 : ∀ (ρ : Env) (slices_0 : Value) (size_3 : Int) (t_9 : Value) (t_10 : Int) (t_11 : Int) (aw : AW) (h0 : ρ 0 = slices_0) (h3 : ρ 3 = .int .i64 size_3) (h9 : ρ 9 = t_9) (h10 : ρ 10 = .int .i64 t_10) (h11 : ρ 11 = .int .i64 t_11), nx1 slices_0 size_3 t_9 t_10 t_11 aw → AGo prog 36 [.code C32_9, .inLoop C32_9, .inBlock 0, .code C32_27] ρ [] aw (RR prog f32 36 sh32 Q E)) (ρ : Env) (slices_0 : Value) (size_3 : Int) (t_9 : Value) (t_10 : Int) (t_11 : Int) (aw : AW) (h0 : ρ 0 = slices_0) (h3 : ρ 3 = .int .i64 size_3) (h9 : ρ 9 = t_9) (h10 : ρ 10 = .int .i64 t_10) (h11 : ρ 11 = .int .i64 t_11) (H : S32_1s Q E  nx1 slices_0 size_3 t_9 t_10 t_11 aw) :
    AGo prog 36 [.code C32_9, .inLoop C32_9, .inBlock 0, .code C32_27] ρ [] aw (RR prog f32 36 sh32 Q E) := by
  unfold S32_1s at H
  refine ago_seqE (rfl : C32_9 = .seq C32_10 C32_11) ?_
  refine ago_regE (rfl : C32_10 = .region 3 R32_3 false) (l := [0]) rfl ?_
  refine lj 12 R32_3_N rfl rfl rfl (opv_lt rfl rfl rfl h11 h10) ?_
  refine aops_nil ?_
  refine ago_seqE (rfl : C32_11 = .seq C32_12 C32_15) ?_
  refine ago_condE  (rfl : C32_12 = .cond (.tmp 12) C32_13 C32_14) rfl rfl (fun hb19 => ?_) (fun hb19 => ?_)
  · replace H := cnd_t H hb19
    refine ago_skipE (rfl : C32_13 = .skip) ?_
    refine ago_seqE (rfl : C32_15 = .seq C32_16 C32_26) ?_
    refine ago_blockE (rfl : C32_16 = .block 1 C32_17) ?_
    refine ago_seqE (rfl : C32_17 = .seq C32_18 C32_19) ?_
    refine ago_regE (rfl : C32_18 = .region 4 R32_4 false) (l := [0, 1, 2]) rfl ?_
    obtain ⟨b21, i22, l23, c24, p20, hp25, h026, hj27, hv28, H⟩ := H
    refine lj 13 R32_4_N rfl rfl rfl (ov_ixS rfl rfl rfl underlying111 sz44 h9 h11 hp25 h026 hj27 hv28) ?_
    obtain ⟨b29, i30, x32, hp31, hg33, H⟩ := H
    refine lj 14 R32_4_N rfl rfl rfl (ov_ldV rfl underlying44 rfl rfl rfl hp31 hg33) ?_
    refine lj 5 R32_4_N rfl rfl rfl (opv_assign rfl rfl rfl) ?_
    refine aops_nil ?_
    refine ago_seqE (rfl : C32_19 = .seq C32_20 C32_21) ?_
    refine ago_regE (rfl : C32_20 = .region 5 R32_5 false) (l := [0, 1, 2, 3, 4]) rfl ?_
    refine lj 15 R32_5_N rfl rfl rfl (opv_move rfl rfl h3) ?_
    refine lj 16 R32_5_N rfl rfl rfl (opv_move rfl rfl rfl) ?_
    obtain ⟨q35, l36, c37, n34, hv38, hn39, H⟩ := H
    refine lj 17 R32_5_N rfl rfl rfl (ov_len rfl rfl rfl underlying44 rfl hv38 hn39) ?_
    refine lj 18 R32_5_N rfl rfl rfl (opv_add rfl rfl rfl rfl rfl) ?_
    refine lj 3 R32_5_N rfl rfl rfl (opv_assign rfl rfl rfl) ?_
    refine aops_nil ?_
    refine ago_seqE (rfl : C32_21 = .seq C32_22 C32_23) ?_
    refine ago_regE (rfl : C32_22 = .region 6 R32_6 false) (l := [0, 1]) rfl ?_
    refine lj 19 R32_6_N rfl rfl rfl (opv_move rfl rfl rfl) ?_
    refine lj 20 R32_6_N rfl rfl rfl (opv_lt rfl rfl rfl rfl rfl) ?_
    refine aops_nil ?_
    refine ago_condE  (rfl : C32_23 = .cond (.tmp 20) C32_24 C32_25) rfl rfl (fun hb40 => ?_) (fun hb40 => ?_)
    · replace H := cnd_t H hb40
      refine ago_regE (rfl : C32_24 = .region 7 R32_7 false) (l := [0, 1]) rfl ?_
      refine lj 21 R32_7_N rfl rfl rfl (opv_mkIface rfl rfl underlying9 rfl rfl) ?_
      exact aops_panic R32_7_N rfl rfl (opp_panic rfl rfl rfl) ⟨rfl, H⟩
    replace H := cnd_f H hb40
    refine ago_skipE (rfl : C32_25 = .skip) ?_
    refine ago_inBlock ?_
    refine ago_regE (rfl : C32_26 = .region 8 R32_8 false) (l := [0, 1]) rfl ?_
    refine lj 22 R32_8_N rfl rfl rfl (opv_add rfl rfl rfl h11 rfl) ?_
    refine lj 11 R32_8_N rfl rfl rfl (opv_move rfl rfl rfl) ?_
    refine aops_nil ?_
    refine ago_inLoop ?_
    exact L1 _ slices_0 (IntKind.i64.wrap (size_3 + n34)) t_9 t_10 (IntKind.i64.wrap (t_11 + 1)) aw h0 rfl h9 h10 rfl H
  replace H := cnd_f H hb19
  refine ago_exitE (rfl : C32_14 = .exit 0) rfl ?_
  refine ago_seqE (rfl : C32_27 = .seq C32_28 C32_29) ?_
  refine ago_regE (rfl : C32_28 = .region 9 R32_9 false) (l := [0, 1, 2]) rfl ?_
  refine lj 23 R32_9_N rfl rfl rfl (opv_move rfl rfl h3) ?_
  refine lc 24 R32_9_N rfl rfl rfl (opc_of rfl rfl is55 (ma_cons rfl (ma_cons rfl rfl))) H (fun _ _ h => ⟨rfl, h⟩) fun r41 aw42 H => ?_
  refine lj 6 R32_9_N rfl rfl rfl (opv_assign rfl rfl rfl) ?_
  refine aops_nil ?_
  refine ago_seqE (rfl : C32_29 = .seq C32_30 C32_46) ?_
  refine ago_seqE (rfl : C32_30 = .seq C32_31 C32_32) ?_
  refine ago_regE (rfl : C32_31 = .region 10 R32_10 false) (l := [0, 1, 2]) rfl ?_
  refine lj 25 R32_10_N rfl rfl rfl (opv_move rfl rfl h0) ?_
  obtain ⟨q44, l45, c46, n43, hv47, hn48, H⟩ := H
  refine lj 26 R32_10_N rfl rfl rfl (ov_len rfl rfl rfl underlying111 rfl hv47 hn48) ?_
  refine lj 27 R32_10_N rfl rfl rfl (opv_move rfl rfl rfl) ?_
  refine aops_nil ?_
  refine ago_blockE (rfl : C32_32 = .block 2 C32_33) ?_
  refine ago_loopE (rfl : C32_33 = .loop C32_34) ?_
  obtain ⟨n, H⟩ := H
  exact S32_2_ok Q E  n _ r41 slices_0 n43 0 aw42 rfl rfl rfl rfl H
theorem S32_1_ok (Q : Value → AW → Prop) (E : List PanicEntry → AW → Prop)  : ∀ (n : Nat) (ρ : Env) (slices_0 : Value) (size_3 : Int) (t_9 : Value) (t_10 : Int) (t_11 : Int) (aw : AW) (h0 : ρ 0 = slices_0) (h3 : ρ 3 = .int .i64 size_3) (h9 : ρ 9 = t_9) (h10 : ρ 10 = .int .i64 t_10) (h11 : ρ 11 = .int .i64 t_11), S32_1 Q E  n slices_0 size_3 t_9 t_10 t_11 aw →
    AGo prog 36 [.code C32_9, .inLoop C32_9, .inBlock 0, .code C32_27] ρ [] aw (RR prog f32 36 sh32 Q E)
  | 0, _, _, _, _, _, _, _, _, _, _, _, _ => fun H => H.elim
  | n + 1, ρ, slices_0, size_3, t_9, t_10, t_11, aw, h0, h3, h9, h10, h11 => fun H => S32_1s_ok Q E  _ (S32_1_ok Q E  n) ρ slices_0 size_3 t_9 t_10 t_11 aw h0 h3 h9 h10 h11 H
theorem S32_0_ok (Q : Value → AW → Prop) (E : List PanicEntry → AW → Prop)  (ρ : Env) (slices_0 : Value) (aw : AW) (h0 : ρ 0 = slices_0) (H : S32_0 Q E  slices_0 aw) :
    AGo prog 36 [.code C32_0] ρ [] aw (RR prog f32 36 sh32 Q E) := by
  unfold S32_0 at H
  refine ago_seqE (rfl : C32_0 = .seq C32_1 C32_2) ?_
  refine ago_regE (rfl : C32_1 = .region 0 R32_0 false) (l := [0]) rfl ?_
  refine lj 2 R32_0_N rfl rfl rfl (opv_assign rfl rfl rfl) ?_
  refine aops_nil ?_
  refine ago_seqE (rfl : C32_2 = .seq C32_3 C32_4) ?_
  refine ago_regE (rfl : C32_3 = .region 1 R32_1 false) (l := [0]) rfl ?_
  refine lj 3 R32_1_N rfl rfl rfl (opv_assign rfl rfl rfl) ?_
  refine aops_nil ?_
  refine ago_seqE (rfl : C32_4 = .seq C32_5 C32_27) ?_
  refine ago_seqE (rfl : C32_5 = .seq C32_6 C32_7) ?_
  refine ago_regE (rfl : C32_6 = .region 2 R32_2 false) (l := [0, 1, 2]) rfl ?_
  refine lj 9 R32_2_N rfl rfl rfl (opv_move rfl rfl h0) ?_
  obtain ⟨q50, l51, c52, n49, hv53, hn54, H⟩ := H
  refine lj 10 R32_2_N rfl rfl rfl (ov_len rfl rfl rfl underlying111 rfl hv53 hn54) ?_
  refine lj 11 R32_2_N rfl rfl rfl (opv_move rfl rfl rfl) ?_
  refine aops_nil ?_
  refine ago_blockE (rfl : C32_7 = .block 0 C32_8) ?_
  refine ago_loopE (rfl : C32_8 = .loop C32_9) ?_
  obtain ⟨n, H⟩ := H
  exact S32_1_ok Q E  n _ slices_0 0 slices_0 n49 0 aw h0 rfl rfl rfl rfl H
theorem F32_ok {Q : Value → AW → Prop} {E : List PanicEntry → AW → Prop} (slices_0 : Value) (aw : AW) (H : S32_0 Q E slices_0 aw) : CallP prog 32 [slices_0] aw sh32 Q E :=
  callP_of func32 C32_is rfl (Nat.le_of_ble_eq_true rfl) (S32_0_ok Q E _ slices_0 aw rfl H)
def C87_0 := bodyOf f87
theorem C87_is : f87.body = some C87_0 := by kernel_rfl
def C87_1 := cl C87_0
def R87_0 := regOps C87_1
def C87_2 := cr C87_0
def C87_3 := cl C87_2
def R87_1 := regOps C87_3
def C87_4 := cr C87_2
theorem R87_0_N : dstsOk 8 R87_0 = true := by decide +kernel
theorem R87_1_N : dstsOk 8 R87_1 = true := by decide +kernel
def S87_0 (Q : ByteArray → AW → Prop) (E : List PanicEntry → AW → Prop)  (i_0 : Int) (base_1 : Int) (aw : AW) : Prop :=
  CallP prog 91 [.int .i64 i_0, .int .i64 base_1] aw sh91 (fun r1 aw2 =>
  Q r1 aw2) E
theorem S87_0_ok (Q : ByteArray → AW → Prop) (E : List PanicEntry → AW → Prop)  (ρ : Env) (i_0 : Int) (base_1 : Int) (aw : AW) (h0 : ρ 0 = .int .i64 i_0) (h1 : ρ 1 = .int .i64 base_1) (H : S87_0 Q E  i_0 base_1 aw) :
    AGo prog 8 [.code C87_0] ρ [] aw (RR prog f87 8 sh87 Q E) := by
  unfold S87_0 at H
  refine ago_seqE (rfl : C87_0 = .seq C87_1 C87_2) ?_
  refine ago_regE (rfl : C87_1 = .region 0 R87_0 false) (l := [0]) rfl ?_
  refine lj 4 R87_0_N rfl rfl rfl (opv_assign rfl rfl rfl) ?_
  refine aops_nil ?_
  refine ago_seqE (rfl : C87_2 = .seq C87_3 C87_4) ?_
  refine ago_regE (rfl : C87_3 = .region 1 R87_1 false) (l := [0, 1, 2, 3]) rfl ?_
  refine lj 5 R87_1_N rfl rfl rfl (opv_move rfl rfl h0) ?_
  refine lj 6 R87_1_N rfl rfl rfl (opv_move rfl rfl h1) ?_
  refine lc 7 R87_1_N rfl rfl rfl (opc_of rfl rfl is91 (ma_cons rfl (ma_cons rfl rfl))) H (fun _ _ h => ⟨rfl, h⟩) fun r1 aw2 H => ?_
  refine lj 4 R87_1_N rfl rfl rfl (opv_assign rfl rfl rfl) ?_
  refine aops_nil ?_
  exact ago_retE (rfl : C87_4 = .ret) (r := r1) (ares_1 rfl (oneT rfl)) rfl H
theorem F87_ok {Q : ByteArray → AW → Prop} {E : List PanicEntry → AW → Prop} (i_0 : Int) (base_1 : Int) (aw : AW) (H : S87_0 Q E i_0 base_1 aw) : CallP prog 87 [.int .i64 i_0, .int .i64 base_1] aw sh87 Q E :=
  callP_of func87 C87_is rfl (Nat.le_of_ble_eq_true rfl) (S87_0_ok Q E _ i_0 base_1 aw rfl rfl H)
def C91_0 := bodyOf f91
theorem C91_is : f91.body = some C91_0 := by kernel_rfl
def C91_1 := cl C91_0
def R91_0 := regOps C91_1
def C91_2 := cr C91_0
def C91_3 := cl C91_2
def C91_4 := cl C91_3
def R91_1 := regOps C91_4
def C91_5 := cr C91_3
def C91_6 := cl C91_5
def C91_7 := cl C91_6
def C91_8 := cl C91_7
def R91_2 := regOps C91_8
def C91_9 := cr C91_7
def C91_10 := cl C91_9
def C91_11 := cl C91_10
def R91_3 := regOps C91_11
def C91_12 := cr C91_10
def C91_13 := cr C91_9
def C91_14 := cr C91_6
def C91_15 := cl C91_14
def R91_4 := regOps C91_15
def C91_16 := cr C91_14
def C91_17 := cl C91_16
def R91_5 := regOps C91_17
def C91_18 := cr C91_16
def C91_19 := cl C91_18
def C91_20 := cl C91_19
def R91_6 := regOps C91_20
def C91_21 := cr C91_19
def C91_22 := cl C91_21
def R91_7 := regOps C91_22
def C91_23 := cr C91_21
def C91_24 := cr C91_18
def C91_25 := cl C91_24
def R91_8 := regOps C91_25
def C91_26 := cr C91_24
def C91_27 := cl C91_26
def R91_9 := regOps C91_27
def C91_28 := cr C91_26
def C91_29 := cl C91_28
def C91_30 := cl C91_29
def R91_10 := regOps C91_30
def C91_31 := cr C91_29
def C91_32 := cl C91_31
def C91_33 := cl C91_32
def R91_11 := regOps C91_33
def C91_34 := cr C91_32
def C91_35 := cl C91_34
def R91_12 := regOps C91_35
def C91_36 := cr C91_34
def C91_37 := cr C91_31
def C91_38 := cr C91_28
def C91_39 := cl C91_38
def R91_13 := regOps C91_39
def C91_40 := cr C91_38
def C91_41 := cr C91_5
def C91_42 := cr C91_2
theorem R91_0_N : dstsOk 54 R91_0 = true := by decide +kernel
theorem R91_1_N : dstsOk 54 R91_1 = true := by decide +kernel
theorem R91_2_N : dstsOk 54 R91_2 = true := by decide +kernel
theorem R91_3_N : dstsOk 54 R91_3 = true := by decide +kernel
theorem R91_4_N : dstsOk 54 R91_4 = true := by decide +kernel
theorem R91_5_N : dstsOk 54 R91_5 = true := by decide +kernel
theorem R91_6_N : dstsOk 54 R91_6 = true := by decide +kernel
theorem R91_7_N : dstsOk 54 R91_7 = true := by decide +kernel
theorem R91_8_N : dstsOk 54 R91_8 = true := by decide +kernel
theorem R91_9_N : dstsOk 54 R91_9 = true := by decide +kernel
theorem R91_10_N : dstsOk 54 R91_10 = true := by decide +kernel
theorem R91_11_N : dstsOk 54 R91_11 = true := by decide +kernel
theorem R91_12_N : dstsOk 54 R91_12 = true := by decide +kernel
theorem R91_13_N : dstsOk 54 R91_13 = true := by decide +kernel
def S91_1 (Q : ByteArray → AW → Prop) (E : List PanicEntry → AW → Prop)  (i_0 : Int) (a_5 : Value) (u_6 : Int) (aw : AW) : Prop :=
  CallP prog 94 [.int .u64 u_6] aw sh94 (fun r1 aw2 =>
  cutA a_5 24 1 1 (IntKind.i64.wrap (1 + r1)) fun v3 =>
  CallP prog 95 [v3, .int .u64 u_6] aw2 sh95 (fun r11 aw12 =>
  cnd (decide (i_0 < 0)) (ixA a_5 24 0 1 fun p14 =>
  st aw12 p14 [.int .u8 45] fun aw23 =>
  cutA a_5 24 1 0 (IntKind.i64.wrap (1 + r1)) fun v30 =>
  toS aw23 v30 fun s38 =>
  Q s38 aw23) (cutA a_5 24 1 1 (IntKind.i64.wrap (1 + r1)) fun v45 =>
  toS aw12 v45 fun s53 =>
  Q s53 aw12)) E) E
def S91_0 (Q : ByteArray → AW → Prop) (E : List PanicEntry → AW → Prop)  (i_0 : Int) (base_1 : Int) (aw : AW) : Prop :=
  cnd (decide (base_1 = 10)) (cnd (decide (0 ≤ i_0)) (cnd (decide (i_0 < 100)) (CallP prog 93 [.int .i64 i_0] aw sh93 (fun r63 aw64 =>
  Q r63 aw64) E) (alc aw [.int .u8 0, .int .u8 0, .int .u8 0, .int .u8 0, .int .u8 0, .int .u8 0, .int .u8 0, .int .u8 0, .int .u8 0, .int .u8 0, .int .u8 0, .int .u8 0, .int .u8 0, .int .u8 0, .int .u8 0, .int .u8 0, .int .u8 0, .int .u8 0, .int .u8 0, .int .u8 0, .int .u8 0, .int .u8 0, .int .u8 0, .int .u8 0] 154 0 fun p65 aw66 =>
  cnd (decide (i_0 < 0)) (S91_1 Q E  i_0 p65 (IntKind.u64.wrap (-(IntKind.u64.wrap i_0))) aw66) (S91_1 Q E  i_0 p65 (IntKind.u64.wrap i_0) aw66))) (alc aw [.int .u8 0, .int .u8 0, .int .u8 0, .int .u8 0, .int .u8 0, .int .u8 0, .int .u8 0, .int .u8 0, .int .u8 0, .int .u8 0, .int .u8 0, .int .u8 0, .int .u8 0, .int .u8 0, .int .u8 0, .int .u8 0, .int .u8 0, .int .u8 0, .int .u8 0, .int .u8 0, .int .u8 0, .int .u8 0, .int .u8 0, .int .u8 0] 154 0 fun p71 aw72 =>
  cnd (decide (i_0 < 0)) (S91_1 Q E  i_0 p71 (IntKind.u64.wrap (-(IntKind.u64.wrap i_0))) aw72) (S91_1 Q E  i_0 p71 (IntKind.u64.wrap i_0) aw72))) (False)
theorem S91_1_ok (Q : ByteArray → AW → Prop) (E : List PanicEntry → AW → Prop)  (ρ : Env) (i_0 : Int) (a_5 : Value) (u_6 : Int) (aw : AW) (h0 : ρ 0 = .int .i64 i_0) (h5 : ρ 5 = a_5) (h6 : ρ 6 = .int .u64 u_6) (H : S91_1 Q E  i_0 a_5 u_6 aw) :
    AGo prog 54 [.code C91_24, .code C91_42] ρ [] aw (RR prog f91 54 sh91 Q E) := by
  unfold S91_1 at H
  refine ago_seqE (rfl : C91_24 = .seq C91_25 C91_26) ?_
  refine ago_regE (rfl : C91_25 = .region 8 R91_8 false) (l := [0, 1, 2]) rfl ?_
  refine lj 26 R91_8_N rfl rfl rfl (opv_move rfl rfl h6) ?_
  refine lc 27 R91_8_N rfl rfl rfl (opc_of rfl rfl is94 (ma_cons rfl rfl)) H (fun _ _ h => ⟨rfl, h⟩) fun r1 aw2 H => ?_
  refine lj 7 R91_8_N rfl rfl rfl (opv_assign rfl rfl rfl) ?_
  refine aops_nil ?_
  refine ago_seqE (rfl : C91_26 = .seq C91_27 C91_28) ?_
  refine ago_regE (rfl : C91_27 = .region 9 R91_9 false) (l := [0, 1, 2, 3, 4]) rfl ?_
  refine lj 28 R91_9_N rfl rfl rfl (opv_move rfl rfl rfl) ?_
  refine lj 29 R91_9_N rfl rfl rfl (opv_add rfl rfl rfl rfl rfl) ?_
  obtain ⟨b4, i5, v3, hp6, hq7, hq8, hq9, hv10, H⟩ := H
  refine lj 30 R91_9_N rfl rfl rfl (ov_cutA rfl rfl underlying154 sz5 h5 hp6 (bndS rfl) (bndS rfl) hq7 hq8 hq9 (by decide) hv10) ?_
  refine lj 31 R91_9_N rfl rfl rfl (opv_move rfl rfl h6) ?_
  refine lc 32 R91_9_N rfl rfl rfl (opc_of rfl rfl is95 (ma_cons rfl (ma_cons rfl rfl))) H (fun _ _ h => ⟨rfl, h⟩) fun r11 aw12 H => ?_
  refine aops_nil ?_
  refine ago_seqE (rfl : C91_28 = .seq C91_29 C91_38) ?_
  refine ago_seqE (rfl : C91_29 = .seq C91_30 C91_31) ?_
  refine ago_regE (rfl : C91_30 = .region 10 R91_10 false) (l := [0, 1]) rfl ?_
  refine lj 33 R91_10_N rfl rfl rfl (opv_move rfl rfl h0) ?_
  refine lj 34 R91_10_N rfl rfl rfl (opv_lt rfl rfl rfl rfl rfl) ?_
  refine aops_nil ?_
  refine ago_condE  (rfl : C91_31 = .cond (.tmp 34) C91_32 C91_37) rfl rfl (fun hb13 => ?_) (fun hb13 => ?_)
  · replace H := cnd_t H hb13
    refine ago_seqE (rfl : C91_32 = .seq C91_33 C91_34) ?_
    refine ago_regE (rfl : C91_33 = .region 11 R91_11 false) (l := [0, 1]) rfl ?_
    obtain ⟨b15, i16, p14, hp19, h020, hj21, hv22, H⟩ := H
    refine lj 35 R91_11_N rfl rfl rfl (ov_ixA rfl rfl rfl underlying154 sz5 h5 rfl hp19 h020 hj21 hv22) ?_
    obtain ⟨b24, i25, aw23, hp26, hw27, ho28, ha29, H⟩ := H
    refine lk (dt := none) R91_11_N rfl rfl rfl (ov_st rfl rfl rfl rfl rfl rfl sz5 hp26 hw27 ho28 ha29) ?_
    refine aops_nil ?_
    refine ago_seqE (rfl : C91_34 = .seq C91_35 C91_36) ?_
    refine ago_cut (fun ρ => ρ 5 = a_5 ∧ ρ 7 = .int .i64 r1 ∧ True) ⟨h5, rfl, trivial⟩ (fun ρ ⟨h5, h7, _⟩ => ?_)
    refine ago_regE (rfl : C91_35 = .region 12 R91_12 false) (l := [0, 1, 2, 3, 4]) rfl ?_
    refine lj 36 R91_12_N rfl rfl rfl (opv_move rfl rfl h7) ?_
    refine lj 37 R91_12_N rfl rfl rfl (opv_add rfl rfl rfl rfl rfl) ?_
    obtain ⟨b31, i32, v30, hp33, hq34, hq35, hq36, hv37, H⟩ := H
    refine lj 38 R91_12_N rfl rfl rfl (ov_cutA rfl rfl underlying154 sz5 h5 hp33 (bndN _ _ _) (bndS rfl) hq34 hq35 hq36 (by decide) hv37) ?_
    obtain ⟨l43, n42, s38, hs39, hq40, hv41, H⟩ := H
    have hl44 := srcB_len hs39
    refine lj 39 R91_12_N rfl rfl rfl (ov_toS rfl rfl underlying73 underlying9 underlying5 rfl hs39 hq40 hv41) ?_
    refine lj 4 R91_12_N rfl rfl rfl (opv_assign rfl rfl rfl) ?_
    refine aops_nil ?_
    exact ago_retE (rfl : C91_36 = .ret) (r := s38) (ares_1 rfl (oneT rfl)) rfl H
  replace H := cnd_f H hb13
  refine ago_skipE (rfl : C91_37 = .skip) ?_
  refine ago_seqE (rfl : C91_38 = .seq C91_39 C91_40) ?_
  refine ago_regE (rfl : C91_39 = .region 13 R91_13 false) (l := [0, 1, 2, 3, 4]) rfl ?_
  refine lj 40 R91_13_N rfl rfl rfl (opv_move rfl rfl rfl) ?_
  refine lj 41 R91_13_N rfl rfl rfl (opv_add rfl rfl rfl rfl rfl) ?_
  obtain ⟨b46, i47, v45, hp48, hq49, hq50, hq51, hv52, H⟩ := H
  refine lj 42 R91_13_N rfl rfl rfl (ov_cutA rfl rfl underlying154 sz5 h5 hp48 (bndS rfl) (bndS rfl) hq49 hq50 hq51 (by decide) hv52) ?_
  obtain ⟨l58, n57, s53, hs54, hq55, hv56, H⟩ := H
  have hl59 := srcB_len hs54
  refine lj 43 R91_13_N rfl rfl rfl (ov_toS rfl rfl underlying73 underlying9 underlying5 rfl hs54 hq55 hv56) ?_
  refine lj 4 R91_13_N rfl rfl rfl (opv_assign rfl rfl rfl) ?_
  refine aops_nil ?_
  exact ago_retE (rfl : C91_40 = .ret) (r := s53) (ares_1 rfl (oneT rfl)) rfl H
theorem S91_0_ok (Q : ByteArray → AW → Prop) (E : List PanicEntry → AW → Prop)  (ρ : Env) (i_0 : Int) (base_1 : Int) (aw : AW) (h0 : ρ 0 = .int .i64 i_0) (h1 : ρ 1 = .int .i64 base_1) (H : S91_0 Q E  i_0 base_1 aw) :
    AGo prog 54 [.code C91_0] ρ [] aw (RR prog f91 54 sh91 Q E) := by
  unfold S91_0 at H
  refine ago_seqE (rfl : C91_0 = .seq C91_1 C91_2) ?_
  refine ago_regE (rfl : C91_1 = .region 0 R91_0 false) (l := [0]) rfl ?_
  refine lj 4 R91_0_N rfl rfl rfl (opv_assign rfl rfl rfl) ?_
  refine aops_nil ?_
  refine ago_seqE (rfl : C91_2 = .seq C91_3 C91_42) ?_
  refine ago_seqE (rfl : C91_3 = .seq C91_4 C91_5) ?_
  refine ago_regE (rfl : C91_4 = .region 1 R91_1 false) (l := [0, 1]) rfl ?_
  refine lj 10 R91_1_N rfl rfl rfl (opv_move rfl rfl h1) ?_
  refine lj 11 R91_1_N rfl rfl rfl (opv_eqI rfl rfl rfl rfl rfl) ?_
  refine aops_nil ?_
  refine ago_condE  (rfl : C91_5 = .cond (.tmp 11) C91_6 C91_41) rfl rfl (fun hb60 => ?_) (fun hb60 => ?_)
  · replace H := cnd_t H hb60
    refine ago_seqE (rfl : C91_6 = .seq C91_7 C91_14) ?_
    refine ago_seqE (rfl : C91_7 = .seq C91_8 C91_9) ?_
    refine ago_regE (rfl : C91_8 = .region 2 R91_2 false) (l := [0, 1, 2, 3, 4, 5]) rfl ?_
    refine lj 12 R91_2_N rfl rfl rfl (opv_move rfl rfl h0) ?_
    refine lj 13 R91_2_N rfl rfl rfl (opv_le rfl rfl rfl rfl rfl) ?_
    refine lj 14 R91_2_N rfl rfl rfl (opv_move rfl rfl rfl) ?_
    rcases Bool.eq_false_or_eq_true (decide (0 ≤ i_0)) with hb61 | hb61
    · replace H := cnd_t H hb61
      refine lj 15 R91_2_N rfl rfl ⟨_, rfl, .inl ⟨_, rfl, gq hb61 rfl⟩⟩ (opv_move rfl rfl h0) ?_
      refine lj 16 R91_2_N rfl rfl ⟨_, rfl, .inl ⟨_, rfl, gq hb61 rfl⟩⟩ (opv_lt rfl rfl rfl rfl rfl) ?_
      refine lj 17 R91_2_N rfl rfl rfl (ov_pickT rfl rfl rfl rfl rfl hb61 rfl) ?_
      refine aops_nil ?_
      refine ago_condE  (rfl : C91_9 = .cond (.tmp 17) C91_10 C91_13) rfl rfl (fun hb62 => ?_) (fun hb62 => ?_)
      · replace H := cnd_t H hb62
        refine ago_seqE (rfl : C91_10 = .seq C91_11 C91_12) ?_
        refine ago_regE (rfl : C91_11 = .region 3 R91_3 false) (l := [0, 1, 2]) rfl ?_
        refine lj 18 R91_3_N rfl rfl rfl (opv_move rfl rfl h0) ?_
        refine lc 19 R91_3_N rfl rfl rfl (opc_of rfl rfl is93 (ma_cons rfl rfl)) H (fun _ _ h => ⟨rfl, h⟩) fun r63 aw64 H => ?_
        refine lj 4 R91_3_N rfl rfl rfl (opv_assign rfl rfl rfl) ?_
        refine aops_nil ?_
        exact ago_retE (rfl : C91_12 = .ret) (r := r63) (ares_1 rfl (oneT rfl)) rfl H
      replace H := cnd_f H hb62
      refine ago_skipE (rfl : C91_13 = .skip) ?_
      refine ago_seqE (rfl : C91_14 = .seq C91_15 C91_16) ?_
      refine ago_regE (rfl : C91_15 = .region 4 R91_4 false) (l := [0]) rfl ?_
      obtain ⟨p65, aw66, hp67, ha68, H⟩ := H
      refine lj 5 R91_4_N rfl rfl rfl (ov_alloc rfl z154 rfl rfl hp67 ha68) ?_
      refine aops_nil ?_
      refine ago_seqE (rfl : C91_16 = .seq C91_17 C91_18) ?_
      refine ago_regE (rfl : C91_17 = .region 5 R91_5 false) (l := [0, 1, 2]) rfl ?_
      refine lj 20 R91_5_N rfl rfl rfl (opv_move rfl rfl h0) ?_
      refine lj 21 R91_5_N rfl rfl rfl (opv_conv rfl rfl underlying2 underlying25 rfl) ?_
      refine lj 6 R91_5_N rfl rfl rfl (opv_assign rfl rfl rfl) ?_
      refine aops_nil ?_
      refine ago_seqE (rfl : C91_18 = .seq C91_19 C91_24) ?_
      refine ago_seqE (rfl : C91_19 = .seq C91_20 C91_21) ?_
      refine ago_cut (fun ρ => ρ 0 = .int .i64 i_0 ∧ ρ 5 = p65 ∧ ρ 6 = .int .u64 (IntKind.u64.wrap i_0) ∧ True) ⟨h0, rfl, rfl, trivial⟩ (fun ρ ⟨h0, h5, h6, _⟩ => ?_)
      refine ago_regE (rfl : C91_20 = .region 6 R91_6 false) (l := [0, 1]) rfl ?_
      refine lj 22 R91_6_N rfl rfl rfl (opv_move rfl rfl h0) ?_
      refine lj 23 R91_6_N rfl rfl rfl (opv_lt rfl rfl rfl rfl rfl) ?_
      refine aops_nil ?_
      refine ago_condE  (rfl : C91_21 = .cond (.tmp 23) C91_22 C91_23) rfl rfl (fun hb69 => ?_) (fun hb69 => ?_)
      · replace H := cnd_t H hb69
        refine ago_regE (rfl : C91_22 = .region 7 R91_7 false) (l := [0, 1, 2]) rfl ?_
        refine lj 24 R91_7_N rfl rfl rfl (opv_move rfl rfl h6) ?_
        refine lj 25 R91_7_N rfl rfl rfl (opv_neg rfl rfl rfl) ?_
        refine lj 6 R91_7_N rfl rfl rfl (opv_assign rfl rfl rfl) ?_
        refine aops_nil ?_
        exact S91_1_ok Q E  _ i_0 p65 (IntKind.u64.wrap (-(IntKind.u64.wrap i_0))) aw66 h0 h5 rfl H
      replace H := cnd_f H hb69
      refine ago_skipE (rfl : C91_23 = .skip) ?_
      exact S91_1_ok Q E  _ i_0 p65 (IntKind.u64.wrap i_0) aw66 h0 h5 h6 H
    · replace H := cnd_f H hb61
      refine ls 15 R91_2_N rfl rfl ⟨_, rfl, .inl ⟨_, rfl, gq hb61 rfl⟩⟩ ?_
      refine ls 16 R91_2_N rfl rfl ⟨_, rfl, .inl ⟨_, rfl, gq hb61 rfl⟩⟩ ?_
      refine lj 17 R91_2_N rfl rfl rfl (ov_pickF rfl rfl rfl rfl rfl hb61 rfl) ?_
      refine aops_nil ?_
      refine ago_condE  (rfl : C91_9 = .cond (.tmp 17) C91_10 C91_13) rfl rfl (fun h => ft h) (fun h => ?_)
      refine ago_skipE (rfl : C91_13 = .skip) ?_
      refine ago_seqE (rfl : C91_14 = .seq C91_15 C91_16) ?_
      refine ago_regE (rfl : C91_15 = .region 4 R91_4 false) (l := [0]) rfl ?_
      obtain ⟨p71, aw72, hp73, ha74, H⟩ := H
      refine lj 5 R91_4_N rfl rfl rfl (ov_alloc rfl z154 rfl rfl hp73 ha74) ?_
      refine aops_nil ?_
      refine ago_seqE (rfl : C91_16 = .seq C91_17 C91_18) ?_
      refine ago_regE (rfl : C91_17 = .region 5 R91_5 false) (l := [0, 1, 2]) rfl ?_
      refine lj 20 R91_5_N rfl rfl rfl (opv_move rfl rfl h0) ?_
      refine lj 21 R91_5_N rfl rfl rfl (opv_conv rfl rfl underlying2 underlying25 rfl) ?_
      refine lj 6 R91_5_N rfl rfl rfl (opv_assign rfl rfl rfl) ?_
      refine aops_nil ?_
      refine ago_seqE (rfl : C91_18 = .seq C91_19 C91_24) ?_
      refine ago_seqE (rfl : C91_19 = .seq C91_20 C91_21) ?_
      refine ago_cut (fun ρ => ρ 0 = .int .i64 i_0 ∧ ρ 5 = p71 ∧ ρ 6 = .int .u64 (IntKind.u64.wrap i_0) ∧ True) ⟨h0, rfl, rfl, trivial⟩ (fun ρ ⟨h0, h5, h6, _⟩ => ?_)
      refine ago_regE (rfl : C91_20 = .region 6 R91_6 false) (l := [0, 1]) rfl ?_
      refine lj 22 R91_6_N rfl rfl rfl (opv_move rfl rfl h0) ?_
      refine lj 23 R91_6_N rfl rfl rfl (opv_lt rfl rfl rfl rfl rfl) ?_
      refine aops_nil ?_
      refine ago_condE  (rfl : C91_21 = .cond (.tmp 23) C91_22 C91_23) rfl rfl (fun hb75 => ?_) (fun hb75 => ?_)
      · replace H := cnd_t H hb75
        refine ago_regE (rfl : C91_22 = .region 7 R91_7 false) (l := [0, 1, 2]) rfl ?_
        refine lj 24 R91_7_N rfl rfl rfl (opv_move rfl rfl h6) ?_
        refine lj 25 R91_7_N rfl rfl rfl (opv_neg rfl rfl rfl) ?_
        refine lj 6 R91_7_N rfl rfl rfl (opv_assign rfl rfl rfl) ?_
        refine aops_nil ?_
        exact S91_1_ok Q E  _ i_0 p71 (IntKind.u64.wrap (-(IntKind.u64.wrap i_0))) aw72 h0 h5 rfl H
      replace H := cnd_f H hb75
      refine ago_skipE (rfl : C91_23 = .skip) ?_
      exact S91_1_ok Q E  _ i_0 p71 (IntKind.u64.wrap i_0) aw72 h0 h5 h6 H
  exact (cnd_f H hb60).elim
theorem F91_ok {Q : ByteArray → AW → Prop} {E : List PanicEntry → AW → Prop} (i_0 : Int) (base_1 : Int) (aw : AW) (H : S91_0 Q E i_0 base_1 aw) : CallP prog 91 [.int .i64 i_0, .int .i64 base_1] aw sh91 Q E :=
  callP_of func91 C91_is rfl (Nat.le_of_ble_eq_true rfl) (S91_0_ok Q E _ i_0 base_1 aw rfl rfl H)
def C93_0 := bodyOf f93
theorem C93_is : f93.body = some C93_0 := by kernel_rfl
def C93_1 := cl C93_0
def R93_0 := regOps C93_1
def C93_2 := cr C93_0
def C93_3 := cl C93_2
def C93_4 := cl C93_3
def R93_1 := regOps C93_4
def C93_5 := cr C93_3
def C93_6 := cl C93_5
def C93_7 := cl C93_6
def R93_2 := regOps C93_7
def C93_8 := cr C93_6
def C93_9 := cr C93_5
def C93_10 := cr C93_2
def C93_11 := cl C93_10
def R93_3 := regOps C93_11
def C93_12 := cr C93_10
theorem R93_0_N : dstsOk 15 R93_0 = true := by decide +kernel
theorem R93_1_N : dstsOk 15 R93_1 = true := by decide +kernel
theorem R93_2_N : dstsOk 15 R93_2 = true := by decide +kernel
theorem R93_3_N : dstsOk 15 R93_3 = true := by decide +kernel
def S93_0 (Q : ByteArray → AW → Prop) (E : List PanicEntry → AW → Prop)  (i_0 : Int) (aw : AW) : Prop :=
  cnd (decide (i_0 < 10)) (cutS (⟨#[48, 49, 50, 51, 52, 53, 54, 55, 56, 57, 97, 98, 99, 100, 101, 102, 103, 104, 105, 106, 107, 108, 109, 110, 111, 112, 113, 114, 115, 116, 117, 118, 119, 120, 121, 122]⟩ : ByteArray) i_0 (IntKind.i64.wrap (i_0 + 1)) fun s2 =>
  Q s2 aw) (cutS (⟨#[48, 48, 48, 49, 48, 50, 48, 51, 48, 52, 48, 53, 48, 54, 48, 55, 48, 56, 48, 57, 49, 48, 49, 49, 49, 50, 49, 51, 49, 52, 49, 53, 49, 54, 49, 55, 49, 56, 49, 57, 50, 48, 50, 49, 50, 50, 50, 51, 50, 52, 50, 53, 50, 54, 50, 55, 50, 56, 50, 57, 51, 48, 51, 49, 51, 50, 51, 51, 51, 52, 51, 53, 51, 54, 51, 55, 51, 56, 51, 57, 52, 48, 52, 49, 52, 50, 52, 51, 52, 52, 52, 53, 52, 54, 52, 55, 52, 56, 52, 57, 53, 48, 53, 49, 53, 50, 53, 51, 53, 52, 53, 53, 53, 54, 53, 55, 53, 56, 53, 57, 54, 48, 54, 49, 54, 50, 54, 51, 54, 52, 54, 53, 54, 54, 54, 55, 54, 56, 54, 57, 55, 48, 55, 49, 55, 50, 55, 51, 55, 52, 55, 53, 55, 54, 55, 55, 55, 56, 55, 57, 56, 48, 56, 49, 56, 50, 56, 51, 56, 52, 56, 53, 56, 54, 56, 55, 56, 56, 56, 57, 57, 48, 57, 49, 57, 50, 57, 51, 57, 52, 57, 53, 57, 54, 57, 55, 57, 56, 57, 57]⟩ : ByteArray) (IntKind.i64.wrap (i_0 * 2)) (IntKind.i64.wrap ((IntKind.i64.wrap (i_0 * 2)) + 2)) fun s7 =>
  Q s7 aw)
theorem S93_0_ok (Q : ByteArray → AW → Prop) (E : List PanicEntry → AW → Prop)  (ρ : Env) (i_0 : Int) (aw : AW) (h0 : ρ 0 = .int .i64 i_0) (H : S93_0 Q E  i_0 aw) :
    AGo prog 15 [.code C93_0] ρ [] aw (RR prog f93 15 sh93 Q E) := by
  unfold S93_0 at H
  refine ago_seqE (rfl : C93_0 = .seq C93_1 C93_2) ?_
  refine ago_regE (rfl : C93_1 = .region 0 R93_0 false) (l := [0]) rfl ?_
  refine lj 2 R93_0_N rfl rfl rfl (opv_assign rfl rfl rfl) ?_
  refine aops_nil ?_
  refine ago_seqE (rfl : C93_2 = .seq C93_3 C93_10) ?_
  refine ago_seqE (rfl : C93_3 = .seq C93_4 C93_5) ?_
  refine ago_regE (rfl : C93_4 = .region 1 R93_1 false) (l := [0, 1]) rfl ?_
  refine lj 3 R93_1_N rfl rfl rfl (opv_move rfl rfl h0) ?_
  refine lj 4 R93_1_N rfl rfl rfl (opv_lt rfl rfl rfl rfl rfl) ?_
  refine aops_nil ?_
  refine ago_condE  (rfl : C93_5 = .cond (.tmp 4) C93_6 C93_9) rfl rfl (fun hb1 => ?_) (fun hb1 => ?_)
  · replace H := cnd_t H hb1
    refine ago_seqE (rfl : C93_6 = .seq C93_7 C93_8) ?_
    refine ago_regE (rfl : C93_7 = .region 2 R93_2 false) (l := [0, 1, 2, 3, 4]) rfl ?_
    refine lj 5 R93_2_N rfl rfl rfl (opv_move rfl rfl h0) ?_
    refine lj 6 R93_2_N rfl rfl rfl (opv_move rfl rfl h0) ?_
    refine lj 7 R93_2_N rfl rfl rfl (opv_add rfl rfl rfl rfl rfl) ?_
    obtain ⟨s2, hq3, hq4, hq5, hq6, H⟩ := H
    refine lj 8 R93_2_N rfl rfl rfl (ov_cutS rfl rfl underlying9 rfl (bndS rfl) (bndS rfl) hq3 hq4 hq5 hq6) ?_
    refine lj 2 R93_2_N rfl rfl rfl (opv_assign rfl rfl rfl) ?_
    refine aops_nil ?_
    exact ago_retE (rfl : C93_8 = .ret) (r := s2) (ares_1 rfl (oneT rfl)) rfl H
  replace H := cnd_f H hb1
  refine ago_skipE (rfl : C93_9 = .skip) ?_
  refine ago_seqE (rfl : C93_10 = .seq C93_11 C93_12) ?_
  refine ago_regE (rfl : C93_11 = .region 3 R93_3 false) (l := [0, 1, 2, 3, 4, 5, 6]) rfl ?_
  refine lj 9 R93_3_N rfl rfl rfl (opv_move rfl rfl h0) ?_
  refine lj 10 R93_3_N rfl rfl rfl (opv_mul rfl rfl rfl rfl rfl) ?_
  refine lj 11 R93_3_N rfl rfl rfl (opv_move rfl rfl h0) ?_
  refine lj 12 R93_3_N rfl rfl rfl (opv_mul rfl rfl rfl rfl rfl) ?_
  refine lj 13 R93_3_N rfl rfl rfl (opv_add rfl rfl rfl rfl rfl) ?_
  obtain ⟨s7, hq8, hq9, hq10, hq11, H⟩ := H
  refine lj 14 R93_3_N rfl rfl rfl (ov_cutS rfl rfl underlying9 rfl (bndS rfl) (bndS rfl) hq8 hq9 hq10 hq11) ?_
  refine lj 2 R93_3_N rfl rfl rfl (opv_assign rfl rfl rfl) ?_
  refine aops_nil ?_
  exact ago_retE (rfl : C93_12 = .ret) (r := s7) (ares_1 rfl (oneT rfl)) rfl H
theorem F93_ok {Q : ByteArray → AW → Prop} {E : List PanicEntry → AW → Prop} (i_0 : Int) (aw : AW) (H : S93_0 Q E i_0 aw) : CallP prog 93 [.int .i64 i_0] aw sh93 Q E :=
  callP_of func93 C93_is rfl (Nat.le_of_ble_eq_true rfl) (S93_0_ok Q E _ i_0 aw rfl H)
def C94_0 := bodyOf f94
theorem C94_is : f94.body = some C94_0 := by kernel_rfl
def C94_1 := cl C94_0
def R94_0 := regOps C94_1
def C94_2 := cr C94_0
def C94_3 := cl C94_2
def R94_1 := regOps C94_3
def C94_4 := cr C94_2
def C94_5 := cl C94_4
def R94_2 := regOps C94_5
def C94_6 := cr C94_4
theorem R94_0_N : dstsOk 15 R94_0 = true := by decide +kernel
theorem R94_1_N : dstsOk 15 R94_1 = true := by decide +kernel
theorem R94_2_N : dstsOk 15 R94_2 = true := by decide +kernel
def S94_0 (Q : Int → AW → Prop) (E : List PanicEntry → AW → Prop)  (d_0 : Int) (aw : AW) : Prop :=
  CallP prog 99 [.int .u64 d_0] aw sh99 (fun r1 aw2 =>
  CallP prog 98 [.int .i64 r1] aw2 sh98 (fun r3 aw4 =>
  ixA (.pointer (some ⟨3, 0, none⟩)) 20 r3 1 fun p5 =>
  ldI .u64 aw4 p5 fun x17 =>
  CallP prog 100 [.bool (decide (x17 ≤ d_0))] aw4 sh100 (fun r19 aw20 =>
  Q (IntKind.i64.wrap (r3 + r19)) aw20) E) E) E
theorem S94_0_ok (Q : Int → AW → Prop) (E : List PanicEntry → AW → Prop)  (ρ : Env) (d_0 : Int) (aw : AW) (h0 : ρ 0 = .int .u64 d_0) (H : S94_0 Q E  d_0 aw) :
    AGo prog 15 [.code C94_0] ρ [] aw (RR prog f94 15 sh94 Q E) := by
  unfold S94_0 at H
  refine ago_seqE (rfl : C94_0 = .seq C94_1 C94_2) ?_
  refine ago_regE (rfl : C94_1 = .region 0 R94_0 false) (l := [0]) rfl ?_
  refine lj 2 R94_0_N rfl rfl rfl (opv_assign rfl rfl rfl) ?_
  refine aops_nil ?_
  refine ago_seqE (rfl : C94_2 = .seq C94_3 C94_4) ?_
  refine ago_regE (rfl : C94_3 = .region 1 R94_1 false) (l := [0, 1, 2, 3]) rfl ?_
  refine lj 4 R94_1_N rfl rfl rfl (opv_move rfl rfl h0) ?_
  refine lc 5 R94_1_N rfl rfl rfl (opc_of rfl rfl is99 (ma_cons rfl rfl)) H (fun _ _ h => ⟨rfl, h⟩) fun r1 aw2 H => ?_
  refine lc 6 R94_1_N rfl rfl rfl (opc_of rfl rfl is98 (ma_cons rfl rfl)) H (fun _ _ h => ⟨rfl, h⟩) fun r3 aw4 H => ?_
  refine lj 3 R94_1_N rfl rfl rfl (opv_assign rfl rfl rfl) ?_
  refine aops_nil ?_
  refine ago_seqE (rfl : C94_4 = .seq C94_5 C94_6) ?_
  refine ago_regE (rfl : C94_5 = .region 2 R94_2 false) (l := [0, 1, 2, 3, 4, 5, 6, 7, 8]) rfl ?_
  refine lj 7 R94_2_N rfl rfl rfl (opv_move rfl rfl rfl) ?_
  refine lj 8 R94_2_N rfl rfl rfl (opv_move rfl rfl h0) ?_
  refine lj 9 R94_2_N rfl rfl rfl (opv_move rfl rfl rfl) ?_
  obtain ⟨b6, i7, p5, hp10, h011, hj12, hv13, H⟩ := H
  refine lj 10 R94_2_N rfl rfl rfl (ov_ixA rfl rfl rfl underlying162 sz25 rfl rfl hp10 h011 hj12 hv13) ?_
  obtain ⟨b14, i15, x17, hp16, hg18, H⟩ := H
  refine lj 11 R94_2_N rfl rfl rfl (ov_ldI rfl underlying25 rfl rfl hp16 hg18) ?_
  refine lj 12 R94_2_N rfl rfl rfl (opv_ge rfl rfl rfl rfl rfl) ?_
  refine lc 13 R94_2_N rfl rfl rfl (opc_of rfl rfl is100 (ma_cons rfl rfl)) H (fun _ _ h => ⟨rfl, h⟩) fun r19 aw20 H => ?_
  refine lj 14 R94_2_N rfl rfl rfl (opv_add rfl rfl rfl rfl rfl) ?_
  refine lj 2 R94_2_N rfl rfl rfl (opv_assign rfl rfl rfl) ?_
  refine aops_nil ?_
  exact ago_retE (rfl : C94_6 = .ret) (r := (IntKind.i64.wrap (r3 + r19))) (ares_1 rfl (oneT rfl)) rfl H
theorem F94_ok {Q : Int → AW → Prop} {E : List PanicEntry → AW → Prop} (d_0 : Int) (aw : AW) (H : S94_0 Q E d_0 aw) : CallP prog 94 [.int .u64 d_0] aw sh94 Q E :=
  callP_of func94 C94_is rfl (Nat.le_of_ble_eq_true rfl) (S94_0_ok Q E _ d_0 aw rfl H)
def C95_0 := bodyOf f95
theorem C95_is : f95.body = some C95_0 := by kernel_rfl
def C95_1 := cl C95_0
def R95_0 := regOps C95_1
def C95_2 := cr C95_0
def C95_3 := cl C95_2
def C95_4 := cl C95_3
def C95_5 := cl C95_4
def C95_6 := cl C95_5
def C95_7 := cl C95_6
def R95_1 := regOps C95_7
def C95_8 := cr C95_6
def C95_9 := cl C95_8
def C95_10 := cr C95_8
def C95_11 := cr C95_5
def C95_12 := cl C95_11
def C95_13 := cl C95_12
def R95_2 := regOps C95_13
def C95_14 := cr C95_12
def C95_15 := cl C95_14
def R95_3 := regOps C95_15
def C95_16 := cr C95_14
def C95_17 := cl C95_16
def R95_4 := regOps C95_17
def C95_18 := cr C95_16
def C95_19 := cl C95_18
def R95_5 := regOps C95_19
def C95_20 := cr C95_18
def C95_21 := cl C95_20
def R95_6 := regOps C95_21
def C95_22 := cr C95_20
def C95_23 := cl C95_22
def R95_7 := regOps C95_23
def C95_24 := cr C95_22
def C95_25 := cl C95_24
def R95_8 := regOps C95_25
def C95_26 := cr C95_24
def C95_27 := cl C95_26
def R95_9 := regOps C95_27
def C95_28 := cr C95_26
def C95_29 := cl C95_28
def R95_10 := regOps C95_29
def C95_30 := cr C95_28
def R95_11 := regOps C95_30
def C95_31 := cr C95_2
def C95_32 := cl C95_31
def R95_12 := regOps C95_32
def C95_33 := cr C95_31
def C95_34 := cl C95_33
def C95_35 := cl C95_34
def R95_13 := regOps C95_35
def C95_36 := cr C95_34
def C95_37 := cl C95_36
def C95_38 := cl C95_37
def R95_14 := regOps C95_38
def C95_39 := cr C95_37
def C95_40 := cl C95_39
def R95_15 := regOps C95_40
def C95_41 := cr C95_39
def C95_42 := cl C95_41
def R95_16 := regOps C95_42
def C95_43 := cr C95_41
def C95_44 := cl C95_43
def R95_17 := regOps C95_44
def C95_45 := cr C95_43
def C95_46 := cl C95_45
def R95_18 := regOps C95_46
def C95_47 := cr C95_45
def R95_19 := regOps C95_47
def C95_48 := cr C95_36
def C95_49 := cr C95_33
def C95_50 := cl C95_49
def C95_51 := cl C95_50
def R95_20 := regOps C95_51
def C95_52 := cr C95_50
def C95_53 := cl C95_52
def C95_54 := cl C95_53
def R95_21 := regOps C95_54
def C95_55 := cr C95_53
def C95_56 := cl C95_55
def R95_22 := regOps C95_56
def C95_57 := cr C95_55
def C95_58 := cl C95_57
def R95_23 := regOps C95_58
def C95_59 := cr C95_57
def R95_24 := regOps C95_59
def C95_60 := cr C95_52
def C95_61 := cr C95_49
def C95_62 := cl C95_61
def R95_25 := regOps C95_62
def C95_63 := cr C95_61
def C95_64 := cl C95_63
def R95_26 := regOps C95_64
def C95_65 := cr C95_63
theorem R95_0_N : dstsOk 167 R95_0 = true := by decide +kernel
theorem R95_1_N : dstsOk 167 R95_1 = true := by decide +kernel
theorem R95_2_N : dstsOk 167 R95_2 = true := by decide +kernel
theorem R95_3_N : dstsOk 167 R95_3 = true := by decide +kernel
theorem R95_4_N : dstsOk 167 R95_4 = true := by decide +kernel
theorem R95_5_N : dstsOk 167 R95_5 = true := by decide +kernel
theorem R95_6_N : dstsOk 167 R95_6 = true := by decide +kernel
theorem R95_7_N : dstsOk 167 R95_7 = true := by decide +kernel
theorem R95_7_O : linOk R95_7 [0, 1, 2, 3, 4, 5, 6, 7, 8, 9, 10, 11] [(12, [3, 4, 5, 9, 10], [13]), (14, [], [])] = true := by decide +kernel
theorem R95_8_N : dstsOk 167 R95_8 = true := by decide +kernel
theorem R95_8_O : linOk R95_8 [0, 1, 2, 3, 4, 5, 6, 7, 8, 9, 10, 11] [(12, [3, 4, 5, 9, 10], [13]), (14, [], [])] = true := by decide +kernel
theorem R95_9_N : dstsOk 167 R95_9 = true := by decide +kernel
theorem R95_9_O : linOk R95_9 [0, 1, 2, 3, 4, 5, 6, 7, 8, 9, 10, 11] [(12, [3, 4, 5, 9, 10], [13]), (14, [], [])] = true := by decide +kernel
theorem R95_10_N : dstsOk 167 R95_10 = true := by decide +kernel
theorem R95_10_O : linOk R95_10 [0, 1, 2, 3, 4, 5, 6, 7, 8, 9, 10, 11] [(12, [3, 4, 5, 9, 10], [13]), (14, [], [])] = true := by decide +kernel
theorem R95_11_N : dstsOk 167 R95_11 = true := by decide +kernel
theorem R95_12_N : dstsOk 167 R95_12 = true := by decide +kernel
theorem R95_13_N : dstsOk 167 R95_13 = true := by decide +kernel
theorem R95_14_N : dstsOk 167 R95_14 = true := by decide +kernel
theorem R95_15_N : dstsOk 167 R95_15 = true := by decide +kernel
theorem R95_16_N : dstsOk 167 R95_16 = true := by decide +kernel
theorem R95_17_N : dstsOk 167 R95_17 = true := by decide +kernel
theorem R95_17_O : linOk R95_17 [0, 1, 2, 3, 4, 5, 6, 7, 8, 9, 10, 11] [(12, [3, 4, 5, 9, 10], [13]), (14, [], [])] = true := by decide +kernel
theorem R95_18_N : dstsOk 167 R95_18 = true := by decide +kernel
theorem R95_18_O : linOk R95_18 [0, 1, 2, 3, 4, 5, 6, 7, 8, 9, 10, 11] [(12, [3, 4, 5, 9, 10], [13]), (14, [], [])] = true := by decide +kernel
theorem R95_19_N : dstsOk 167 R95_19 = true := by decide +kernel
theorem R95_20_N : dstsOk 167 R95_20 = true := by decide +kernel
theorem R95_21_N : dstsOk 167 R95_21 = true := by decide +kernel
theorem R95_22_N : dstsOk 167 R95_22 = true := by decide +kernel
theorem R95_23_N : dstsOk 167 R95_23 = true := by decide +kernel
theorem R95_23_O : linOk R95_23 [0, 1, 2, 3, 4, 5, 6, 7, 8, 9, 10, 11] [(12, [3, 4, 5, 9, 10], [13]), (14, [], [])] = true := by decide +kernel
theorem R95_24_N : dstsOk 167 R95_24 = true := by decide +kernel
theorem R95_25_N : dstsOk 167 R95_25 = true := by decide +kernel
theorem R95_26_N : dstsOk 167 R95_26 = true := by decide +kernel
def S95_3 (Q : Unit → AW → Prop) (E : List PanicEntry → AW → Prop)  (a_0 : Value) (nd_4 : Int) (x_12 : Int) (aw : AW) : Prop :=
  cnd (decide (0 < nd_4)) (ixS a_0 0 1 fun p2 =>
  st aw p2 [.int .u8 (IntKind.u8.wrap (IntKind.u32.wrap (48 + x_12)))] fun aw11 =>
  Q () aw11) (Q () aw)
def S95_2 (Q : Unit → AW → Prop) (E : List PanicEntry → AW → Prop)  (a_0 : Value) (nd_4 : Int) (x_12 : Int) (aw : AW) : Prop :=
  cnd (decide (2 ≤ nd_4)) (chr (⟨#[48, 48, 48, 49, 48, 50, 48, 51, 48, 52, 48, 53, 48, 54, 48, 55, 48, 56, 48, 57, 49, 48, 49, 49, 49, 50, 49, 51, 49, 52, 49, 53, 49, 54, 49, 55, 49, 56, 49, 57, 50, 48, 50, 49, 50, 50, 50, 51, 50, 52, 50, 53, 50, 54, 50, 55, 50, 56, 50, 57, 51, 48, 51, 49, 51, 50, 51, 51, 51, 52, 51, 53, 51, 54, 51, 55, 51, 56, 51, 57, 52, 48, 52, 49, 52, 50, 52, 51, 52, 52, 52, 53, 52, 54, 52, 55, 52, 56, 52, 57, 53, 48, 53, 49, 53, 50, 53, 51, 53, 52, 53, 53, 53, 54, 53, 55, 53, 56, 53, 57, 54, 48, 54, 49, 54, 50, 54, 51, 54, 52, 54, 53, 54, 54, 54, 55, 54, 56, 54, 57, 55, 48, 55, 49, 55, 50, 55, 51, 55, 52, 55, 53, 55, 54, 55, 55, 55, 56, 55, 57, 56, 48, 56, 49, 56, 50, 56, 51, 56, 52, 56, 53, 56, 54, 56, 55, 56, 56, 56, 57, 57, 48, 57, 49, 57, 50, 57, 51, 57, 52, 57, 53, 57, 54, 57, 55, 57, 56, 57, 57]⟩ : ByteArray) (IntKind.u32.wrap ((IntKind.u32.wrap ((Int.tmod x_12 100) * 2)) + 1)) fun c19 =>
  chr (⟨#[48, 48, 48, 49, 48, 50, 48, 51, 48, 52, 48, 53, 48, 54, 48, 55, 48, 56, 48, 57, 49, 48, 49, 49, 49, 50, 49, 51, 49, 52, 49, 53, 49, 54, 49, 55, 49, 56, 49, 57, 50, 48, 50, 49, 50, 50, 50, 51, 50, 52, 50, 53, 50, 54, 50, 55, 50, 56, 50, 57, 51, 48, 51, 49, 51, 50, 51, 51, 51, 52, 51, 53, 51, 54, 51, 55, 51, 56, 51, 57, 52, 48, 52, 49, 52, 50, 52, 51, 52, 52, 52, 53, 52, 54, 52, 55, 52, 56, 52, 57, 53, 48, 53, 49, 53, 50, 53, 51, 53, 52, 53, 53, 53, 54, 53, 55, 53, 56, 53, 57, 54, 48, 54, 49, 54, 50, 54, 51, 54, 52, 54, 53, 54, 54, 54, 55, 54, 56, 54, 57, 55, 48, 55, 49, 55, 50, 55, 51, 55, 52, 55, 53, 55, 54, 55, 55, 55, 56, 55, 57, 56, 48, 56, 49, 56, 50, 56, 51, 56, 52, 56, 53, 56, 54, 56, 55, 56, 56, 56, 57, 57, 48, 57, 49, 57, 50, 57, 51, 57, 52, 57, 53, 57, 54, 57, 55, 57, 56, 57, 57]⟩ : ByteArray) (IntKind.u32.wrap ((Int.tmod x_12 100) * 2)) fun c23 =>
  ixS a_0 (IntKind.i64.wrap (nd_4 - 1)) 1 fun p27 =>
  st aw p27 [.int .u8 c19] fun aw36 =>
  ixS a_0 (IntKind.i64.wrap (nd_4 - 2)) 1 fun p43 =>
  st aw36 p43 [.int .u8 c23] fun aw52 =>
  S95_3 Q E  a_0 (IntKind.i64.wrap (nd_4 - 2)) (IntKind.u32.wrap (Int.tdiv x_12 100)) aw52) (S95_3 Q E  a_0 nd_4 x_12 aw)
def S95_1s (Q : Unit → AW → Prop) (E : List PanicEntry → AW → Prop)  (nx1 : Value → Int → Int → AW → Prop) (a_0 : Value) (u_1 : Int) (nd_4 : Int) (aw : AW) : Prop :=
  cnd (decide (8 ≤ nd_4)) (chr (⟨#[48, 48, 48, 49, 48, 50, 48, 51, 48, 52, 48, 53, 48, 54, 48, 55, 48, 56, 48, 57, 49, 48, 49, 49, 49, 50, 49, 51, 49, 52, 49, 53, 49, 54, 49, 55, 49, 56, 49, 57, 50, 48, 50, 49, 50, 50, 50, 51, 50, 52, 50, 53, 50, 54, 50, 55, 50, 56, 50, 57, 51, 48, 51, 49, 51, 50, 51, 51, 51, 52, 51, 53, 51, 54, 51, 55, 51, 56, 51, 57, 52, 48, 52, 49, 52, 50, 52, 51, 52, 52, 52, 53, 52, 54, 52, 55, 52, 56, 52, 57, 53, 48, 53, 49, 53, 50, 53, 51, 53, 52, 53, 53, 53, 54, 53, 55, 53, 56, 53, 57, 54, 48, 54, 49, 54, 50, 54, 51, 54, 52, 54, 53, 54, 54, 54, 55, 54, 56, 54, 57, 55, 48, 55, 49, 55, 50, 55, 51, 55, 52, 55, 53, 55, 54, 55, 55, 55, 56, 55, 57, 56, 48, 56, 49, 56, 50, 56, 51, 56, 52, 56, 53, 56, 54, 56, 55, 56, 56, 56, 57, 57, 48, 57, 49, 57, 50, 57, 51, 57, 52, 57, 53, 57, 54, 57, 55, 57, 56, 57, 57]⟩ : ByteArray) (IntKind.u32.wrap ((IntKind.u32.wrap ((Int.tmod (Int.tmod (IntKind.u32.wrap (Int.tmod u_1 100000000)) 10000) 100) * 2)) + 1)) fun c60 =>
  chr (⟨#[48, 48, 48, 49, 48, 50, 48, 51, 48, 52, 48, 53, 48, 54, 48, 55, 48, 56, 48, 57, 49, 48, 49, 49, 49, 50, 49, 51, 49, 52, 49, 53, 49, 54, 49, 55, 49, 56, 49, 57, 50, 48, 50, 49, 50, 50, 50, 51, 50, 52, 50, 53, 50, 54, 50, 55, 50, 56, 50, 57, 51, 48, 51, 49, 51, 50, 51, 51, 51, 52, 51, 53, 51, 54, 51, 55, 51, 56, 51, 57, 52, 48, 52, 49, 52, 50, 52, 51, 52, 52, 52, 53, 52, 54, 52, 55, 52, 56, 52, 57, 53, 48, 53, 49, 53, 50, 53, 51, 53, 52, 53, 53, 53, 54, 53, 55, 53, 56, 53, 57, 54, 48, 54, 49, 54, 50, 54, 51, 54, 52, 54, 53, 54, 54, 54, 55, 54, 56, 54, 57, 55, 48, 55, 49, 55, 50, 55, 51, 55, 52, 55, 53, 55, 54, 55, 55, 55, 56, 55, 57, 56, 48, 56, 49, 56, 50, 56, 51, 56, 52, 56, 53, 56, 54, 56, 55, 56, 56, 56, 57, 57, 48, 57, 49, 57, 50, 57, 51, 57, 52, 57, 53, 57, 54, 57, 55, 57, 56, 57, 57]⟩ : ByteArray) (IntKind.u32.wrap ((Int.tmod (Int.tmod (IntKind.u32.wrap (Int.tmod u_1 100000000)) 10000) 100) * 2)) fun c64 =>
  ixS a_0 (IntKind.i64.wrap (nd_4 - 1)) 1 fun p68 =>
  st aw p68 [.int .u8 c60] fun aw77 =>
  ixS a_0 (IntKind.i64.wrap (nd_4 - 2)) 1 fun p84 =>
  st aw77 p84 [.int .u8 c64] fun aw93 =>
  chr (⟨#[48, 48, 48, 49, 48, 50, 48, 51, 48, 52, 48, 53, 48, 54, 48, 55, 48, 56, 48, 57, 49, 48, 49, 49, 49, 50, 49, 51, 49, 52, 49, 53, 49, 54, 49, 55, 49, 56, 49, 57, 50, 48, 50, 49, 50, 50, 50, 51, 50, 52, 50, 53, 50, 54, 50, 55, 50, 56, 50, 57, 51, 48, 51, 49, 51, 50, 51, 51, 51, 52, 51, 53, 51, 54, 51, 55, 51, 56, 51, 57, 52, 48, 52, 49, 52, 50, 52, 51, 52, 52, 52, 53, 52, 54, 52, 55, 52, 56, 52, 57, 53, 48, 53, 49, 53, 50, 53, 51, 53, 52, 53, 53, 53, 54, 53, 55, 53, 56, 53, 57, 54, 48, 54, 49, 54, 50, 54, 51, 54, 52, 54, 53, 54, 54, 54, 55, 54, 56, 54, 57, 55, 48, 55, 49, 55, 50, 55, 51, 55, 52, 55, 53, 55, 54, 55, 55, 55, 56, 55, 57, 56, 48, 56, 49, 56, 50, 56, 51, 56, 52, 56, 53, 56, 54, 56, 55, 56, 56, 56, 57, 57, 48, 57, 49, 57, 50, 57, 51, 57, 52, 57, 53, 57, 54, 57, 55, 57, 56, 57, 57]⟩ : ByteArray) (IntKind.u32.wrap ((IntKind.u32.wrap ((IntKind.u32.wrap (Int.tdiv (Int.tmod (IntKind.u32.wrap (Int.tmod u_1 100000000)) 10000) 100)) * 2)) + 1)) fun c100 =>
  chr (⟨#[48, 48, 48, 49, 48, 50, 48, 51, 48, 52, 48, 53, 48, 54, 48, 55, 48, 56, 48, 57, 49, 48, 49, 49, 49, 50, 49, 51, 49, 52, 49, 53, 49, 54, 49, 55, 49, 56, 49, 57, 50, 48, 50, 49, 50, 50, 50, 51, 50, 52, 50, 53, 50, 54, 50, 55, 50, 56, 50, 57, 51, 48, 51, 49, 51, 50, 51, 51, 51, 52, 51, 53, 51, 54, 51, 55, 51, 56, 51, 57, 52, 48, 52, 49, 52, 50, 52, 51, 52, 52, 52, 53, 52, 54, 52, 55, 52, 56, 52, 57, 53, 48, 53, 49, 53, 50, 53, 51, 53, 52, 53, 53, 53, 54, 53, 55, 53, 56, 53, 57, 54, 48, 54, 49, 54, 50, 54, 51, 54, 52, 54, 53, 54, 54, 54, 55, 54, 56, 54, 57, 55, 48, 55, 49, 55, 50, 55, 51, 55, 52, 55, 53, 55, 54, 55, 55, 55, 56, 55, 57, 56, 48, 56, 49, 56, 50, 56, 51, 56, 52, 56, 53, 56, 54, 56, 55, 56, 56, 56, 57, 57, 48, 57, 49, 57, 50, 57, 51, 57, 52, 57, 53, 57, 54, 57, 55, 57, 56, 57, 57]⟩ : ByteArray) (IntKind.u32.wrap ((IntKind.u32.wrap (Int.tdiv (Int.tmod (IntKind.u32.wrap (Int.tmod u_1 100000000)) 10000) 100)) * 2)) fun c104 =>
  ixS a_0 (IntKind.i64.wrap (nd_4 - 3)) 1 fun p108 =>
  st aw93 p108 [.int .u8 c100] fun aw117 =>
  ixS a_0 (IntKind.i64.wrap (nd_4 - 4)) 1 fun p124 =>
  st aw117 p124 [.int .u8 c104] fun aw133 =>
  chr (⟨#[48, 48, 48, 49, 48, 50, 48, 51, 48, 52, 48, 53, 48, 54, 48, 55, 48, 56, 48, 57, 49, 48, 49, 49, 49, 50, 49, 51, 49, 52, 49, 53, 49, 54, 49, 55, 49, 56, 49, 57, 50, 48, 50, 49, 50, 50, 50, 51, 50, 52, 50, 53, 50, 54, 50, 55, 50, 56, 50, 57, 51, 48, 51, 49, 51, 50, 51, 51, 51, 52, 51, 53, 51, 54, 51, 55, 51, 56, 51, 57, 52, 48, 52, 49, 52, 50, 52, 51, 52, 52, 52, 53, 52, 54, 52, 55, 52, 56, 52, 57, 53, 48, 53, 49, 53, 50, 53, 51, 53, 52, 53, 53, 53, 54, 53, 55, 53, 56, 53, 57, 54, 48, 54, 49, 54, 50, 54, 51, 54, 52, 54, 53, 54, 54, 54, 55, 54, 56, 54, 57, 55, 48, 55, 49, 55, 50, 55, 51, 55, 52, 55, 53, 55, 54, 55, 55, 55, 56, 55, 57, 56, 48, 56, 49, 56, 50, 56, 51, 56, 52, 56, 53, 56, 54, 56, 55, 56, 56, 56, 57, 57, 48, 57, 49, 57, 50, 57, 51, 57, 52, 57, 53, 57, 54, 57, 55, 57, 56, 57, 57]⟩ : ByteArray) (IntKind.u32.wrap ((IntKind.u32.wrap ((Int.tmod (IntKind.u32.wrap (Int.tdiv (IntKind.u32.wrap (Int.tmod u_1 100000000)) 10000)) 100) * 2)) + 1)) fun c140 =>
  chr (⟨#[48, 48, 48, 49, 48, 50, 48, 51, 48, 52, 48, 53, 48, 54, 48, 55, 48, 56, 48, 57, 49, 48, 49, 49, 49, 50, 49, 51, 49, 52, 49, 53, 49, 54, 49, 55, 49, 56, 49, 57, 50, 48, 50, 49, 50, 50, 50, 51, 50, 52, 50, 53, 50, 54, 50, 55, 50, 56, 50, 57, 51, 48, 51, 49, 51, 50, 51, 51, 51, 52, 51, 53, 51, 54, 51, 55, 51, 56, 51, 57, 52, 48, 52, 49, 52, 50, 52, 51, 52, 52, 52, 53, 52, 54, 52, 55, 52, 56, 52, 57, 53, 48, 53, 49, 53, 50, 53, 51, 53, 52, 53, 53, 53, 54, 53, 55, 53, 56, 53, 57, 54, 48, 54, 49, 54, 50, 54, 51, 54, 52, 54, 53, 54, 54, 54, 55, 54, 56, 54, 57, 55, 48, 55, 49, 55, 50, 55, 51, 55, 52, 55, 53, 55, 54, 55, 55, 55, 56, 55, 57, 56, 48, 56, 49, 56, 50, 56, 51, 56, 52, 56, 53, 56, 54, 56, 55, 56, 56, 56, 57, 57, 48, 57, 49, 57, 50, 57, 51, 57, 52, 57, 53, 57, 54, 57, 55, 57, 56, 57, 57]⟩ : ByteArray) (IntKind.u32.wrap ((Int.tmod (IntKind.u32.wrap (Int.tdiv (IntKind.u32.wrap (Int.tmod u_1 100000000)) 10000)) 100) * 2)) fun c144 =>
  ixS a_0 (IntKind.i64.wrap (nd_4 - 5)) 1 fun p148 =>
  st aw133 p148 [.int .u8 c140] fun aw157 =>
  ixS a_0 (IntKind.i64.wrap (nd_4 - 6)) 1 fun p164 =>
  st aw157 p164 [.int .u8 c144] fun aw173 =>
  chr (⟨#[48, 48, 48, 49, 48, 50, 48, 51, 48, 52, 48, 53, 48, 54, 48, 55, 48, 56, 48, 57, 49, 48, 49, 49, 49, 50, 49, 51, 49, 52, 49, 53, 49, 54, 49, 55, 49, 56, 49, 57, 50, 48, 50, 49, 50, 50, 50, 51, 50, 52, 50, 53, 50, 54, 50, 55, 50, 56, 50, 57, 51, 48, 51, 49, 51, 50, 51, 51, 51, 52, 51, 53, 51, 54, 51, 55, 51, 56, 51, 57, 52, 48, 52, 49, 52, 50, 52, 51, 52, 52, 52, 53, 52, 54, 52, 55, 52, 56, 52, 57, 53, 48, 53, 49, 53, 50, 53, 51, 53, 52, 53, 53, 53, 54, 53, 55, 53, 56, 53, 57, 54, 48, 54, 49, 54, 50, 54, 51, 54, 52, 54, 53, 54, 54, 54, 55, 54, 56, 54, 57, 55, 48, 55, 49, 55, 50, 55, 51, 55, 52, 55, 53, 55, 54, 55, 55, 55, 56, 55, 57, 56, 48, 56, 49, 56, 50, 56, 51, 56, 52, 56, 53, 56, 54, 56, 55, 56, 56, 56, 57, 57, 48, 57, 49, 57, 50, 57, 51, 57, 52, 57, 53, 57, 54, 57, 55, 57, 56, 57, 57]⟩ : ByteArray) (IntKind.u32.wrap ((IntKind.u32.wrap ((IntKind.u32.wrap (Int.tdiv (IntKind.u32.wrap (Int.tdiv (IntKind.u32.wrap (Int.tmod u_1 100000000)) 10000)) 100)) * 2)) + 1)) fun c180 =>
  chr (⟨#[48, 48, 48, 49, 48, 50, 48, 51, 48, 52, 48, 53, 48, 54, 48, 55, 48, 56, 48, 57, 49, 48, 49, 49, 49, 50, 49, 51, 49, 52, 49, 53, 49, 54, 49, 55, 49, 56, 49, 57, 50, 48, 50, 49, 50, 50, 50, 51, 50, 52, 50, 53, 50, 54, 50, 55, 50, 56, 50, 57, 51, 48, 51, 49, 51, 50, 51, 51, 51, 52, 51, 53, 51, 54, 51, 55, 51, 56, 51, 57, 52, 48, 52, 49, 52, 50, 52, 51, 52, 52, 52, 53, 52, 54, 52, 55, 52, 56, 52, 57, 53, 48, 53, 49, 53, 50, 53, 51, 53, 52, 53, 53, 53, 54, 53, 55, 53, 56, 53, 57, 54, 48, 54, 49, 54, 50, 54, 51, 54, 52, 54, 53, 54, 54, 54, 55, 54, 56, 54, 57, 55, 48, 55, 49, 55, 50, 55, 51, 55, 52, 55, 53, 55, 54, 55, 55, 55, 56, 55, 57, 56, 48, 56, 49, 56, 50, 56, 51, 56, 52, 56, 53, 56, 54, 56, 55, 56, 56, 56, 57, 57, 48, 57, 49, 57, 50, 57, 51, 57, 52, 57, 53, 57, 54, 57, 55, 57, 56, 57, 57]⟩ : ByteArray) (IntKind.u32.wrap ((IntKind.u32.wrap (Int.tdiv (IntKind.u32.wrap (Int.tdiv (IntKind.u32.wrap (Int.tmod u_1 100000000)) 10000)) 100)) * 2)) fun c184 =>
  ixS a_0 (IntKind.i64.wrap (nd_4 - 7)) 1 fun p188 =>
  st aw173 p188 [.int .u8 c180] fun aw197 =>
  ixS a_0 (IntKind.i64.wrap (nd_4 - 8)) 1 fun p204 =>
  st aw197 p204 [.int .u8 c184] fun aw213 =>
  nx1 a_0 (IntKind.u64.wrap (Int.tdiv u_1 100000000)) (IntKind.i64.wrap (nd_4 - 8)) aw213) (cnd (decide (4 ≤ nd_4)) (chr (⟨#[48, 48, 48, 49, 48, 50, 48, 51, 48, 52, 48, 53, 48, 54, 48, 55, 48, 56, 48, 57, 49, 48, 49, 49, 49, 50, 49, 51, 49, 52, 49, 53, 49, 54, 49, 55, 49, 56, 49, 57, 50, 48, 50, 49, 50, 50, 50, 51, 50, 52, 50, 53, 50, 54, 50, 55, 50, 56, 50, 57, 51, 48, 51, 49, 51, 50, 51, 51, 51, 52, 51, 53, 51, 54, 51, 55, 51, 56, 51, 57, 52, 48, 52, 49, 52, 50, 52, 51, 52, 52, 52, 53, 52, 54, 52, 55, 52, 56, 52, 57, 53, 48, 53, 49, 53, 50, 53, 51, 53, 52, 53, 53, 53, 54, 53, 55, 53, 56, 53, 57, 54, 48, 54, 49, 54, 50, 54, 51, 54, 52, 54, 53, 54, 54, 54, 55, 54, 56, 54, 57, 55, 48, 55, 49, 55, 50, 55, 51, 55, 52, 55, 53, 55, 54, 55, 55, 55, 56, 55, 57, 56, 48, 56, 49, 56, 50, 56, 51, 56, 52, 56, 53, 56, 54, 56, 55, 56, 56, 56, 57, 57, 48, 57, 49, 57, 50, 57, 51, 57, 52, 57, 53, 57, 54, 57, 55, 57, 56, 57, 57]⟩ : ByteArray) (IntKind.u32.wrap ((IntKind.u32.wrap ((Int.tmod (Int.tmod (IntKind.u32.wrap u_1) 10000) 100) * 2)) + 1)) fun c221 =>
  chr (⟨#[48, 48, 48, 49, 48, 50, 48, 51, 48, 52, 48, 53, 48, 54, 48, 55, 48, 56, 48, 57, 49, 48, 49, 49, 49, 50, 49, 51, 49, 52, 49, 53, 49, 54, 49, 55, 49, 56, 49, 57, 50, 48, 50, 49, 50, 50, 50, 51, 50, 52, 50, 53, 50, 54, 50, 55, 50, 56, 50, 57, 51, 48, 51, 49, 51, 50, 51, 51, 51, 52, 51, 53, 51, 54, 51, 55, 51, 56, 51, 57, 52, 48, 52, 49, 52, 50, 52, 51, 52, 52, 52, 53, 52, 54, 52, 55, 52, 56, 52, 57, 53, 48, 53, 49, 53, 50, 53, 51, 53, 52, 53, 53, 53, 54, 53, 55, 53, 56, 53, 57, 54, 48, 54, 49, 54, 50, 54, 51, 54, 52, 54, 53, 54, 54, 54, 55, 54, 56, 54, 57, 55, 48, 55, 49, 55, 50, 55, 51, 55, 52, 55, 53, 55, 54, 55, 55, 55, 56, 55, 57, 56, 48, 56, 49, 56, 50, 56, 51, 56, 52, 56, 53, 56, 54, 56, 55, 56, 56, 56, 57, 57, 48, 57, 49, 57, 50, 57, 51, 57, 52, 57, 53, 57, 54, 57, 55, 57, 56, 57, 57]⟩ : ByteArray) (IntKind.u32.wrap ((Int.tmod (Int.tmod (IntKind.u32.wrap u_1) 10000) 100) * 2)) fun c225 =>
  ixS a_0 (IntKind.i64.wrap (nd_4 - 1)) 1 fun p229 =>
  st aw p229 [.int .u8 c221] fun aw238 =>
  ixS a_0 (IntKind.i64.wrap (nd_4 - 2)) 1 fun p245 =>
  st aw238 p245 [.int .u8 c225] fun aw254 =>
  chr (⟨#[48, 48, 48, 49, 48, 50, 48, 51, 48, 52, 48, 53, 48, 54, 48, 55, 48, 56, 48, 57, 49, 48, 49, 49, 49, 50, 49, 51, 49, 52, 49, 53, 49, 54, 49, 55, 49, 56, 49, 57, 50, 48, 50, 49, 50, 50, 50, 51, 50, 52, 50, 53, 50, 54, 50, 55, 50, 56, 50, 57, 51, 48, 51, 49, 51, 50, 51, 51, 51, 52, 51, 53, 51, 54, 51, 55, 51, 56, 51, 57, 52, 48, 52, 49, 52, 50, 52, 51, 52, 52, 52, 53, 52, 54, 52, 55, 52, 56, 52, 57, 53, 48, 53, 49, 53, 50, 53, 51, 53, 52, 53, 53, 53, 54, 53, 55, 53, 56, 53, 57, 54, 48, 54, 49, 54, 50, 54, 51, 54, 52, 54, 53, 54, 54, 54, 55, 54, 56, 54, 57, 55, 48, 55, 49, 55, 50, 55, 51, 55, 52, 55, 53, 55, 54, 55, 55, 55, 56, 55, 57, 56, 48, 56, 49, 56, 50, 56, 51, 56, 52, 56, 53, 56, 54, 56, 55, 56, 56, 56, 57, 57, 48, 57, 49, 57, 50, 57, 51, 57, 52, 57, 53, 57, 54, 57, 55, 57, 56, 57, 57]⟩ : ByteArray) (IntKind.u32.wrap ((IntKind.u32.wrap ((IntKind.u32.wrap (Int.tdiv (Int.tmod (IntKind.u32.wrap u_1) 10000) 100)) * 2)) + 1)) fun c261 =>
  chr (⟨#[48, 48, 48, 49, 48, 50, 48, 51, 48, 52, 48, 53, 48, 54, 48, 55, 48, 56, 48, 57, 49, 48, 49, 49, 49, 50, 49, 51, 49, 52, 49, 53, 49, 54, 49, 55, 49, 56, 49, 57, 50, 48, 50, 49, 50, 50, 50, 51, 50, 52, 50, 53, 50, 54, 50, 55, 50, 56, 50, 57, 51, 48, 51, 49, 51, 50, 51, 51, 51, 52, 51, 53, 51, 54, 51, 55, 51, 56, 51, 57, 52, 48, 52, 49, 52, 50, 52, 51, 52, 52, 52, 53, 52, 54, 52, 55, 52, 56, 52, 57, 53, 48, 53, 49, 53, 50, 53, 51, 53, 52, 53, 53, 53, 54, 53, 55, 53, 56, 53, 57, 54, 48, 54, 49, 54, 50, 54, 51, 54, 52, 54, 53, 54, 54, 54, 55, 54, 56, 54, 57, 55, 48, 55, 49, 55, 50, 55, 51, 55, 52, 55, 53, 55, 54, 55, 55, 55, 56, 55, 57, 56, 48, 56, 49, 56, 50, 56, 51, 56, 52, 56, 53, 56, 54, 56, 55, 56, 56, 56, 57, 57, 48, 57, 49, 57, 50, 57, 51, 57, 52, 57, 53, 57, 54, 57, 55, 57, 56, 57, 57]⟩ : ByteArray) (IntKind.u32.wrap ((IntKind.u32.wrap (Int.tdiv (Int.tmod (IntKind.u32.wrap u_1) 10000) 100)) * 2)) fun c265 =>
  ixS a_0 (IntKind.i64.wrap (nd_4 - 3)) 1 fun p269 =>
  st aw254 p269 [.int .u8 c261] fun aw278 =>
  ixS a_0 (IntKind.i64.wrap (nd_4 - 4)) 1 fun p285 =>
  st aw278 p285 [.int .u8 c265] fun aw294 =>
  S95_2 Q E  a_0 (IntKind.i64.wrap (nd_4 - 4)) (IntKind.u32.wrap (Int.tdiv (IntKind.u32.wrap u_1) 10000)) aw294) (S95_2 Q E  a_0 nd_4 (IntKind.u32.wrap u_1) aw))
def S95_1 (Q : Unit → AW → Prop) (E : List PanicEntry → AW → Prop)  : Nat → Value → Int → Int → AW → Prop
  | 0 => fun _ _ _ _ => False
  | n + 1 => S95_1s Q E  (S95_1 Q E  n)
def S95_0 (Q : Unit → AW → Prop) (E : List PanicEntry → AW → Prop)  (a_0 : Value) (u_1 : Int) (aw : AW) : Prop :=
  slen a_0 fun n301 =>
  ∃ n, S95_1 Q E  n a_0 u_1 n301 aw
theorem S95_3_ok (Q : Unit → AW → Prop) (E : List PanicEntry → AW → Prop)  (ρ : Env) (a_0 : Value) (nd_4 : Int) (x_12 : Int) (aw : AW) (h0 : ρ 0 = a_0) (h4 : ρ 4 = .int .i64 nd_4) (h12 : ρ 12 = .int .u32 x_12) (H : S95_3 Q E  a_0 nd_4 x_12 aw) :
    AGo prog 167 [.code C95_61] ρ [] aw (RR prog f95 167 sh95 Q E) := by
  unfold S95_3 at H
  refine ago_seqE (rfl : C95_61 = .seq C95_62 C95_63) ?_
  refine ago_regE (rfl : C95_62 = .region 25 R95_25 false) (l := [0, 1]) rfl ?_
  refine lj 160 R95_25_N rfl rfl rfl (opv_move rfl rfl h4) ?_
  refine lj 161 R95_25_N rfl rfl rfl (opv_gt rfl rfl rfl rfl rfl) ?_
  refine aops_nil ?_
  refine ago_condE  (rfl : C95_63 = .cond (.tmp 161) C95_64 C95_65) rfl rfl (fun hb1 => ?_) (fun hb1 => ?_)
  · replace H := cnd_t H hb1
    refine ago_regE (rfl : C95_64 = .region 26 R95_26 false) (l := [0, 1, 2, 3, 4, 5]) rfl ?_
    refine lj 162 R95_26_N rfl rfl rfl (opv_move rfl rfl h0) ?_
    refine lj 163 R95_26_N rfl rfl rfl (opv_move rfl rfl h12) ?_
    refine lj 164 R95_26_N rfl rfl rfl (opv_add rfl rfl rfl rfl rfl) ?_
    refine lj 165 R95_26_N rfl rfl rfl (opv_conv rfl rfl underlying163 underlying5 rfl) ?_
    obtain ⟨b3, i4, l5, c6, p2, hp7, h08, hj9, hv10, H⟩ := H
    refine lj 166 R95_26_N rfl rfl rfl (ov_ixS rfl rfl rfl underlying73 sz5 rfl rfl hp7 h08 hj9 hv10) ?_
    obtain ⟨b12, i13, aw11, hp14, hw15, ho16, ha17, H⟩ := H
    refine lk (dt := none) R95_26_N rfl rfl rfl (ov_st rfl rfl rfl rfl rfl rfl sz5 hp14 hw15 ho16 ha17) ?_
    refine aops_nil ?_
    exact ago_nilR (r := ()) (ares_0 rfl ) rfl H
  replace H := cnd_f H hb1
  refine ago_skipE (rfl : C95_65 = .skip) ?_
  exact ago_nilR (r := ()) (ares_0 rfl ) rfl H
theorem S95_2_ok (Q : Unit → AW → Prop) (E : List PanicEntry → AW → Prop)  (ρ : Env) (a_0 : Value) (nd_4 : Int) (x_12 : Int) (aw : AW) (h0 : ρ 0 = a_0) (h4 : ρ 4 = .int .i64 nd_4) (h12 : ρ 12 = .int .u32 x_12) (H : S95_2 Q E  a_0 nd_4 x_12 aw) :
    AGo prog 167 [.code C95_49] ρ [] aw (RR prog f95 167 sh95 Q E) := by
  unfold S95_2 at H
  refine ago_seqE (rfl : C95_49 = .seq C95_50 C95_61) ?_
  refine ago_seqE (rfl : C95_50 = .seq C95_51 C95_52) ?_
  refine ago_regE (rfl : C95_51 = .region 20 R95_20 false) (l := [0, 1]) rfl ?_
  refine lj 138 R95_20_N rfl rfl rfl (opv_move rfl rfl h4) ?_
  refine lj 139 R95_20_N rfl rfl rfl (opv_ge rfl rfl rfl rfl rfl) ?_
  refine aops_nil ?_
  refine ago_condE  (rfl : C95_52 = .cond (.tmp 139) C95_53 C95_60) rfl rfl (fun hb18 => ?_) (fun hb18 => ?_)
  · replace H := cnd_t H hb18
    refine ago_seqE (rfl : C95_53 = .seq C95_54 C95_55) ?_
    refine ago_regE (rfl : C95_54 = .region 21 R95_21 false) (l := [0, 1, 2, 3]) rfl ?_
    refine lj 140 R95_21_N rfl rfl rfl (opv_move rfl rfl h12) ?_
    refine lj 141 R95_21_N rfl rfl rfl (opv_rem rfl rfl rfl rfl rfl (by decide)) ?_
    refine lj 142 R95_21_N rfl rfl rfl (opv_mul rfl rfl rfl rfl rfl) ?_
    refine lj 16 R95_21_N rfl rfl rfl (opv_assign rfl rfl rfl) ?_
    refine aops_nil ?_
    refine ago_seqE (rfl : C95_55 = .seq C95_56 C95_57) ?_
    refine ago_regE (rfl : C95_56 = .region 22 R95_22 false) (l := [0, 1, 2]) rfl ?_
    refine lj 143 R95_22_N rfl rfl rfl (opv_move rfl rfl h12) ?_
    refine lj 144 R95_22_N rfl rfl rfl (opv_quo rfl rfl rfl rfl rfl (by decide)) ?_
    refine lj 12 R95_22_N rfl rfl rfl (opv_assign rfl rfl rfl) ?_
    refine aops_nil ?_
    refine ago_seqE (rfl : C95_57 = .seq C95_58 C95_59) ?_
    obtain ⟨c19, h020, hj21, hv22, H⟩ := H
    obtain ⟨c23, h024, hj25, hv26, H⟩ := H
    obtain ⟨b28, i29, l30, c31, p27, hp32, h033, hj34, hv35, H⟩ := H
    refine ago_drawH (p := [0, 1, 2, 3, 4, 5, 6, 7, 8, 9, 10, 11]) (tl := [(12, [3, 4, 5, 9, 10], [13]), (14, [], [])]) (hv := [(0, a_0), (1, Value.int .i64 nd_4), (2, Value.int .i64 (IntKind.i64.wrap (nd_4 - 1))), (3, a_0), (4, Value.int .i64 nd_4), (5, Value.int .i64 (IntKind.i64.wrap (nd_4 - 2))), (6, Value.int .u32 (IntKind.u32.wrap ((Int.tmod x_12 100) * 2))), (7, Value.int .u32 (IntKind.u32.wrap ((IntKind.u32.wrap ((Int.tmod x_12 100) * 2)) + 1))), (8, Value.int .u8 c19), (9, Value.int .u32 (IntKind.u32.wrap ((Int.tmod x_12 100) * 2))), (10, Value.int .u8 c23), (11, p27)]) (rfl : C95_58 = .region 23 R95_23 true) mixed R95_23_N R95_23_O rfl (pv_cons rfl (pv_cons rfl (pv_cons rfl (pv_cons rfl (pv_cons rfl (pv_cons rfl (pv_cons rfl (pv_cons rfl (pv_cons rfl (pv_cons rfl (pv_cons rfl (pv_cons rfl (pv_nil _)))))))))))))
      (fc 145 a_0 (hd_v rfl fun ρ hρ => ⟨rfl, opv_move rfl rfl ((hρ 0 (lmem rfl)).trans h0)⟩) rfl rfl
      (fc 146 (.int .i64 nd_4) (hd_v rfl fun ρ hρ => ⟨rfl, opv_move rfl rfl ((hρ 4 (lmem rfl)).trans h4)⟩) rfl rfl
      (fc 147 (.int .i64 (IntKind.i64.wrap (nd_4 - 1))) (hd_v rfl fun ρ hρ => ⟨rfl, opv_sub rfl rfl rfl ((hρ 146 (lmem rfl)).trans rfl) rfl⟩) rfl rfl
      (fc 148 a_0 (hd_v rfl fun ρ hρ => ⟨rfl, opv_move rfl rfl ((hρ 0 (lmem rfl)).trans h0)⟩) rfl rfl
      (fc 149 (.int .i64 nd_4) (hd_v rfl fun ρ hρ => ⟨rfl, opv_move rfl rfl ((hρ 4 (lmem rfl)).trans h4)⟩) rfl rfl
      (fc 150 (.int .i64 (IntKind.i64.wrap (nd_4 - 2))) (hd_v rfl fun ρ hρ => ⟨rfl, opv_sub rfl rfl rfl ((hρ 149 (lmem rfl)).trans rfl) rfl⟩) rfl rfl
      (fc 151 (.int .u32 (IntKind.u32.wrap ((Int.tmod x_12 100) * 2))) (hd_v rfl fun ρ hρ => ⟨rfl, opv_move rfl rfl ((hρ 16 (lmem rfl)).trans rfl)⟩) rfl rfl
      (fc 152 (.int .u32 (IntKind.u32.wrap ((IntKind.u32.wrap ((Int.tmod x_12 100) * 2)) + 1))) (hd_v rfl fun ρ hρ => ⟨rfl, opv_add rfl rfl rfl ((hρ 151 (lmem rfl)).trans rfl) rfl⟩) rfl rfl
      (fc 153 (.int .u8 c19) (hd_v rfl fun ρ hρ => ⟨rfl, ov_chr rfl rfl rfl underlying9 rfl ((hρ 152 (lmem rfl)).trans rfl) h020 hj21 hv22⟩) rfl rfl
      (fc 154 (.int .u32 (IntKind.u32.wrap ((Int.tmod x_12 100) * 2))) (hd_v rfl fun ρ hρ => ⟨rfl, opv_move rfl rfl ((hρ 16 (lmem rfl)).trans rfl)⟩) rfl rfl
      (fc 155 (.int .u8 c23) (hd_v rfl fun ρ hρ => ⟨rfl, ov_chr rfl rfl rfl underlying9 rfl ((hρ 154 (lmem rfl)).trans rfl) h024 hj25 hv26⟩) rfl rfl
      (fc 156 p27 (hd_v rfl fun ρ hρ => ⟨rfl, ov_ixS rfl rfl rfl underlying73 sz5 ((hρ 145 (lmem rfl)).trans rfl) ((hρ 147 (lmem rfl)).trans rfl) hp32 h033 hj34 hv35⟩) rfl rfl
      ffn)))))))))))) ?_
    obtain ⟨b37, i38, aw36, hp39, hw40, ho41, ha42, H⟩ := H
    refine lt_val (dt := none) (v := undef) rfl rfl (fun ρ hρ => ⟨rfl, ov_st rfl rfl rfl ((hρ 156 (lmem rfl)).trans rfl) ((hρ 153 (lmem rfl)).trans rfl) rfl sz5 hp39 hw40 ho41 ha42⟩) ?_
    obtain ⟨b44, i45, l46, c47, p43, hp48, h049, hj50, hv51, H⟩ := H
    refine lt_next (l := [3, 4, 5, 9, 10, 13]) (hv := [(13, p43)]) rfl rfl (pv_cons rfl (pv_nil _))
      (fc 148 a_0 (hd_v rfl fun ρ hρ => ⟨rfl, opv_move rfl rfl ((hρ 0 (lmem rfl)).trans h0)⟩) rfl rfl
      (fc 149 (.int .i64 nd_4) (hd_v rfl fun ρ hρ => ⟨rfl, opv_move rfl rfl ((hρ 4 (lmem rfl)).trans h4)⟩) rfl rfl
      (fc 150 (.int .i64 (IntKind.i64.wrap (nd_4 - 2))) (hd_v rfl fun ρ hρ => ⟨rfl, opv_sub rfl rfl rfl ((hρ 149 (lmem rfl)).trans rfl) rfl⟩) rfl rfl
      (fc 154 (.int .u32 (IntKind.u32.wrap ((Int.tmod x_12 100) * 2))) (hd_v rfl fun ρ hρ => ⟨rfl, opv_move rfl rfl ((hρ 16 (lmem rfl)).trans rfl)⟩) rfl rfl
      (fc 155 (.int .u8 c23) (hd_v rfl fun ρ hρ => ⟨rfl, ov_chr rfl rfl rfl underlying9 rfl ((hρ 154 (lmem rfl)).trans rfl) h024 hj25 hv26⟩) rfl rfl
      (fc 157 p43 (hd_v rfl fun ρ hρ => ⟨rfl, ov_ixS rfl rfl rfl underlying73 sz5 ((hρ 148 (lmem rfl)).trans rfl) ((hρ 150 (lmem rfl)).trans rfl) hp48 h049 hj50 hv51⟩) rfl rfl
      ffn)))))) ?_
    obtain ⟨b53, i54, aw52, hp55, hw56, ho57, ha58, H⟩ := H
    refine lt_val (dt := none) (v := undef) rfl rfl (fun ρ hρ => ⟨rfl, ov_st rfl rfl rfl ((hρ 157 (lmem rfl)).trans rfl) ((hρ 155 (lmem rfl)).trans rfl) rfl sz5 hp55 hw56 ho57 ha58⟩) ?_
    refine lt_next (l := []) (hv := []) rfl rfl (pv_nil _)
      ffn ?_
    refine lt_end ?_
    refine ago_cut (fun ρ => ρ 0 = a_0 ∧ ρ 4 = .int .i64 nd_4 ∧ ρ 12 = .int .u32 (IntKind.u32.wrap (Int.tdiv x_12 100)) ∧ True) ⟨h0, h4, rfl, trivial⟩ (fun ρ ⟨h0, h4, h12, _⟩ => ?_)
    refine ago_regE (rfl : C95_59 = .region 24 R95_24 false) (l := [0, 1, 2]) rfl ?_
    refine lj 158 R95_24_N rfl rfl rfl (opv_move rfl rfl h4) ?_
    refine lj 159 R95_24_N rfl rfl rfl (opv_sub rfl rfl rfl rfl rfl) ?_
    refine lj 4 R95_24_N rfl rfl rfl (opv_assign rfl rfl rfl) ?_
    refine aops_nil ?_
    exact S95_3_ok Q E  _ a_0 (IntKind.i64.wrap (nd_4 - 2)) (IntKind.u32.wrap (Int.tdiv x_12 100)) aw52 h0 rfl h12 H
  replace H := cnd_f H hb18
  refine ago_skipE (rfl : C95_60 = .skip) ?_
  exact S95_3_ok Q E  _ a_0 nd_4 x_12 aw h0 h4 h12 H
theorem S95_1s_ok (Q : Unit → AW → Prop) (E : List PanicEntry → AW → Prop)  (nx1 : Value → Int → Int → AW → Prop) (L1 : ∀ (ρ : Env) (a_0 : Value) (u_1 : Int) (nd_4 : Int) (aw : AW) (h0 : ρ 0 = a_0) (h1 : ρ 1 = .int .u64 u_1) (h4 : ρ 4 = .int .i64 nd_4), nx1 a_0 u_1 nd_4 aw → AGo prog 167 [.code C95_5, .inLoop C95_5, .inBlock 0, .code C95_31] ρ [] aw (RR prog f95 167 sh95 Q E)) (ρ : Env) (a_0 : Value) (u_1 : Int) (nd_4 : Int) (aw : AW) (h0 : ρ 0 = a_0) (h1 : ρ 1 = .int .u64 u_1) (h4 : ρ 4 = .int .i64 nd_4) (H : S95_1s Q E  nx1 a_0 u_1 nd_4 aw) :
    AGo prog 167 [.code C95_5, .inLoop C95_5, .inBlock 0, .code C95_31] ρ [] aw (RR prog f95 167 sh95 Q E) := by
  unfold S95_1s at H
  refine ago_seqE (rfl : C95_5 = .seq C95_6 C95_11) ?_
  refine ago_seqE (rfl : C95_6 = .seq C95_7 C95_8) ?_
  refine ago_regE (rfl : C95_7 = .region 1 R95_1 false) (l := [0, 1]) rfl ?_
  refine lj 19 R95_1_N rfl rfl rfl (opv_move rfl rfl h4) ?_
  refine lj 20 R95_1_N rfl rfl rfl (opv_ge rfl rfl rfl rfl rfl) ?_
  refine aops_nil ?_
  refine ago_condE  (rfl : C95_8 = .cond (.tmp 20) C95_9 C95_10) rfl rfl (fun hb59 => ?_) (fun hb59 => ?_)
  · replace H := cnd_t H hb59
    refine ago_skipE (rfl : C95_9 = .skip) ?_
    refine ago_blockE (rfl : C95_11 = .block 1 C95_12) ?_
    refine ago_seqE (rfl : C95_12 = .seq C95_13 C95_14) ?_
    refine ago_regE (rfl : C95_13 = .region 2 R95_2 false) (l := [0, 1, 2, 3]) rfl ?_
    refine lj 21 R95_2_N rfl rfl rfl (opv_move rfl rfl h1) ?_
    refine lj 22 R95_2_N rfl rfl rfl (opv_rem rfl rfl rfl rfl rfl (by decide)) ?_
    refine lj 23 R95_2_N rfl rfl rfl (opv_conv rfl rfl underlying25 underlying163 rfl) ?_
    refine lj 5 R95_2_N rfl rfl rfl (opv_assign rfl rfl rfl) ?_
    refine aops_nil ?_
    refine ago_seqE (rfl : C95_14 = .seq C95_15 C95_16) ?_
    refine ago_regE (rfl : C95_15 = .region 3 R95_3 false) (l := [0, 1, 2]) rfl ?_
    refine lj 24 R95_3_N rfl rfl rfl (opv_move rfl rfl h1) ?_
    refine lj 25 R95_3_N rfl rfl rfl (opv_quo rfl rfl rfl rfl rfl (by decide)) ?_
    refine lj 1 R95_3_N rfl rfl rfl (opv_assign rfl rfl rfl) ?_
    refine aops_nil ?_
    refine ago_seqE (rfl : C95_16 = .seq C95_17 C95_18) ?_
    refine ago_regE (rfl : C95_17 = .region 4 R95_4 false) (l := [0, 1, 2, 3, 4, 5]) rfl ?_
    refine lj 26 R95_4_N rfl rfl rfl (opv_move rfl rfl rfl) ?_
    refine lj 27 R95_4_N rfl rfl rfl (opv_quo rfl rfl rfl rfl rfl (by decide)) ?_
    refine lj 28 R95_4_N rfl rfl rfl (opv_move rfl rfl rfl) ?_
    refine lj 29 R95_4_N rfl rfl rfl (opv_rem rfl rfl rfl rfl rfl (by decide)) ?_
    refine lj 6 R95_4_N rfl rfl rfl (opv_assign rfl rfl rfl) ?_
    refine lj 7 R95_4_N rfl rfl rfl (opv_assign rfl rfl rfl) ?_
    refine aops_nil ?_
    refine ago_seqE (rfl : C95_18 = .seq C95_19 C95_20) ?_
    refine ago_cut (fun ρ => ρ 0 = a_0 ∧ ρ 1 = .int .u64 (IntKind.u64.wrap (Int.tdiv u_1 100000000)) ∧ ρ 4 = .int .i64 nd_4 ∧ ρ 6 = .int .u32 (IntKind.u32.wrap (Int.tdiv (IntKind.u32.wrap (Int.tmod u_1 100000000)) 10000)) ∧ ρ 7 = .int .u32 (Int.tmod (IntKind.u32.wrap (Int.tmod u_1 100000000)) 10000) ∧ True) ⟨h0, rfl, h4, rfl, rfl, trivial⟩ (fun ρ ⟨h0, h1, h4, h6, h7, _⟩ => ?_)
    refine ago_regE (rfl : C95_19 = .region 5 R95_5 false) (l := [0, 1, 2, 3, 4, 5, 6, 7]) rfl ?_
    refine lj 30 R95_5_N rfl rfl rfl (opv_move rfl rfl h7) ?_
    refine lj 31 R95_5_N rfl rfl rfl (opv_quo rfl rfl rfl rfl rfl (by decide)) ?_
    refine lj 32 R95_5_N rfl rfl rfl (opv_mul rfl rfl rfl rfl rfl) ?_
    refine lj 33 R95_5_N rfl rfl rfl (opv_move rfl rfl h7) ?_
    refine lj 34 R95_5_N rfl rfl rfl (opv_rem rfl rfl rfl rfl rfl (by decide)) ?_
    refine lj 35 R95_5_N rfl rfl rfl (opv_mul rfl rfl rfl rfl rfl) ?_
    refine lj 8 R95_5_N rfl rfl rfl (opv_assign rfl rfl rfl) ?_
    refine lj 9 R95_5_N rfl rfl rfl (opv_assign rfl rfl rfl) ?_
    refine aops_nil ?_
    refine ago_seqE (rfl : C95_20 = .seq C95_21 C95_22) ?_
    refine ago_regE (rfl : C95_21 = .region 6 R95_6 false) (l := [0, 1, 2, 3, 4, 5, 6, 7]) rfl ?_
    refine lj 36 R95_6_N rfl rfl rfl (opv_move rfl rfl h6) ?_
    refine lj 37 R95_6_N rfl rfl rfl (opv_quo rfl rfl rfl rfl rfl (by decide)) ?_
    refine lj 38 R95_6_N rfl rfl rfl (opv_mul rfl rfl rfl rfl rfl) ?_
    refine lj 39 R95_6_N rfl rfl rfl (opv_move rfl rfl h6) ?_
    refine lj 40 R95_6_N rfl rfl rfl (opv_rem rfl rfl rfl rfl rfl (by decide)) ?_
    refine lj 41 R95_6_N rfl rfl rfl (opv_mul rfl rfl rfl rfl rfl) ?_
    refine lj 10 R95_6_N rfl rfl rfl (opv_assign rfl rfl rfl) ?_
    refine lj 11 R95_6_N rfl rfl rfl (opv_assign rfl rfl rfl) ?_
    refine aops_nil ?_
    refine ago_seqE (rfl : C95_22 = .seq C95_23 C95_24) ?_
    refine ago_cut (fun ρ => ρ 0 = a_0 ∧ ρ 1 = .int .u64 (IntKind.u64.wrap (Int.tdiv u_1 100000000)) ∧ ρ 4 = .int .i64 nd_4 ∧ ρ 8 = .int .u32 (IntKind.u32.wrap ((IntKind.u32.wrap (Int.tdiv (Int.tmod (IntKind.u32.wrap (Int.tmod u_1 100000000)) 10000) 100)) * 2)) ∧ ρ 9 = .int .u32 (IntKind.u32.wrap ((Int.tmod (Int.tmod (IntKind.u32.wrap (Int.tmod u_1 100000000)) 10000) 100) * 2)) ∧ ρ 10 = .int .u32 (IntKind.u32.wrap ((IntKind.u32.wrap (Int.tdiv (IntKind.u32.wrap (Int.tdiv (IntKind.u32.wrap (Int.tmod u_1 100000000)) 10000)) 100)) * 2)) ∧ ρ 11 = .int .u32 (IntKind.u32.wrap ((Int.tmod (IntKind.u32.wrap (Int.tdiv (IntKind.u32.wrap (Int.tmod u_1 100000000)) 10000)) 100) * 2)) ∧ True) ⟨h0, h1, h4, rfl, rfl, rfl, rfl, trivial⟩ (fun ρ ⟨h0, h1, h4, h8, h9, h10, h11, _⟩ => ?_)
    obtain ⟨c60, h061, hj62, hv63, H⟩ := H
    obtain ⟨c64, h065, hj66, hv67, H⟩ := H
    obtain ⟨b69, i70, l71, c72, p68, hp73, h074, hj75, hv76, H⟩ := H
    refine ago_drawH (p := [0, 1, 2, 3, 4, 5, 6, 7, 8, 9, 10, 11]) (tl := [(12, [3, 4, 5, 9, 10], [13]), (14, [], [])]) (hv := [(0, a_0), (1, Value.int .i64 nd_4), (2, Value.int .i64 (IntKind.i64.wrap (nd_4 - 1))), (3, a_0), (4, Value.int .i64 nd_4), (5, Value.int .i64 (IntKind.i64.wrap (nd_4 - 2))), (6, Value.int .u32 (IntKind.u32.wrap ((Int.tmod (Int.tmod (IntKind.u32.wrap (Int.tmod u_1 100000000)) 10000) 100) * 2))), (7, Value.int .u32 (IntKind.u32.wrap ((IntKind.u32.wrap ((Int.tmod (Int.tmod (IntKind.u32.wrap (Int.tmod u_1 100000000)) 10000) 100) * 2)) + 1))), (8, Value.int .u8 c60), (9, Value.int .u32 (IntKind.u32.wrap ((Int.tmod (Int.tmod (IntKind.u32.wrap (Int.tmod u_1 100000000)) 10000) 100) * 2))), (10, Value.int .u8 c64), (11, p68)]) (rfl : C95_23 = .region 7 R95_7 true) mixed R95_7_N R95_7_O rfl (pv_cons rfl (pv_cons rfl (pv_cons rfl (pv_cons rfl (pv_cons rfl (pv_cons rfl (pv_cons rfl (pv_cons rfl (pv_cons rfl (pv_cons rfl (pv_cons rfl (pv_cons rfl (pv_nil _)))))))))))))
      (fc 42 a_0 (hd_v rfl fun ρ hρ => ⟨rfl, opv_move rfl rfl ((hρ 0 (lmem rfl)).trans h0)⟩) rfl rfl
      (fc 43 (.int .i64 nd_4) (hd_v rfl fun ρ hρ => ⟨rfl, opv_move rfl rfl ((hρ 4 (lmem rfl)).trans h4)⟩) rfl rfl
      (fc 44 (.int .i64 (IntKind.i64.wrap (nd_4 - 1))) (hd_v rfl fun ρ hρ => ⟨rfl, opv_sub rfl rfl rfl ((hρ 43 (lmem rfl)).trans rfl) rfl⟩) rfl rfl
      (fc 45 a_0 (hd_v rfl fun ρ hρ => ⟨rfl, opv_move rfl rfl ((hρ 0 (lmem rfl)).trans h0)⟩) rfl rfl
      (fc 46 (.int .i64 nd_4) (hd_v rfl fun ρ hρ => ⟨rfl, opv_move rfl rfl ((hρ 4 (lmem rfl)).trans h4)⟩) rfl rfl
      (fc 47 (.int .i64 (IntKind.i64.wrap (nd_4 - 2))) (hd_v rfl fun ρ hρ => ⟨rfl, opv_sub rfl rfl rfl ((hρ 46 (lmem rfl)).trans rfl) rfl⟩) rfl rfl
      (fc 48 (.int .u32 (IntKind.u32.wrap ((Int.tmod (Int.tmod (IntKind.u32.wrap (Int.tmod u_1 100000000)) 10000) 100) * 2))) (hd_v rfl fun ρ hρ => ⟨rfl, opv_move rfl rfl ((hρ 9 (lmem rfl)).trans h9)⟩) rfl rfl
      (fc 49 (.int .u32 (IntKind.u32.wrap ((IntKind.u32.wrap ((Int.tmod (Int.tmod (IntKind.u32.wrap (Int.tmod u_1 100000000)) 10000) 100) * 2)) + 1))) (hd_v rfl fun ρ hρ => ⟨rfl, opv_add rfl rfl rfl ((hρ 48 (lmem rfl)).trans rfl) rfl⟩) rfl rfl
      (fc 50 (.int .u8 c60) (hd_v rfl fun ρ hρ => ⟨rfl, ov_chr rfl rfl rfl underlying9 rfl ((hρ 49 (lmem rfl)).trans rfl) h061 hj62 hv63⟩) rfl rfl
      (fc 51 (.int .u32 (IntKind.u32.wrap ((Int.tmod (Int.tmod (IntKind.u32.wrap (Int.tmod u_1 100000000)) 10000) 100) * 2))) (hd_v rfl fun ρ hρ => ⟨rfl, opv_move rfl rfl ((hρ 9 (lmem rfl)).trans h9)⟩) rfl rfl
      (fc 52 (.int .u8 c64) (hd_v rfl fun ρ hρ => ⟨rfl, ov_chr rfl rfl rfl underlying9 rfl ((hρ 51 (lmem rfl)).trans rfl) h065 hj66 hv67⟩) rfl rfl
      (fc 53 p68 (hd_v rfl fun ρ hρ => ⟨rfl, ov_ixS rfl rfl rfl underlying73 sz5 ((hρ 42 (lmem rfl)).trans rfl) ((hρ 44 (lmem rfl)).trans rfl) hp73 h074 hj75 hv76⟩) rfl rfl
      ffn)))))))))))) ?_
    obtain ⟨b78, i79, aw77, hp80, hw81, ho82, ha83, H⟩ := H
    refine lt_val (dt := none) (v := undef) rfl rfl (fun ρ hρ => ⟨rfl, ov_st rfl rfl rfl ((hρ 53 (lmem rfl)).trans rfl) ((hρ 50 (lmem rfl)).trans rfl) rfl sz5 hp80 hw81 ho82 ha83⟩) ?_
    obtain ⟨b85, i86, l87, c88, p84, hp89, h090, hj91, hv92, H⟩ := H
    refine lt_next (l := [3, 4, 5, 9, 10, 13]) (hv := [(13, p84)]) rfl rfl (pv_cons rfl (pv_nil _))
      (fc 45 a_0 (hd_v rfl fun ρ hρ => ⟨rfl, opv_move rfl rfl ((hρ 0 (lmem rfl)).trans h0)⟩) rfl rfl
      (fc 46 (.int .i64 nd_4) (hd_v rfl fun ρ hρ => ⟨rfl, opv_move rfl rfl ((hρ 4 (lmem rfl)).trans h4)⟩) rfl rfl
      (fc 47 (.int .i64 (IntKind.i64.wrap (nd_4 - 2))) (hd_v rfl fun ρ hρ => ⟨rfl, opv_sub rfl rfl rfl ((hρ 46 (lmem rfl)).trans rfl) rfl⟩) rfl rfl
      (fc 51 (.int .u32 (IntKind.u32.wrap ((Int.tmod (Int.tmod (IntKind.u32.wrap (Int.tmod u_1 100000000)) 10000) 100) * 2))) (hd_v rfl fun ρ hρ => ⟨rfl, opv_move rfl rfl ((hρ 9 (lmem rfl)).trans h9)⟩) rfl rfl
      (fc 52 (.int .u8 c64) (hd_v rfl fun ρ hρ => ⟨rfl, ov_chr rfl rfl rfl underlying9 rfl ((hρ 51 (lmem rfl)).trans rfl) h065 hj66 hv67⟩) rfl rfl
      (fc 54 p84 (hd_v rfl fun ρ hρ => ⟨rfl, ov_ixS rfl rfl rfl underlying73 sz5 ((hρ 45 (lmem rfl)).trans rfl) ((hρ 47 (lmem rfl)).trans rfl) hp89 h090 hj91 hv92⟩) rfl rfl
      ffn)))))) ?_
    obtain ⟨b94, i95, aw93, hp96, hw97, ho98, ha99, H⟩ := H
    refine lt_val (dt := none) (v := undef) rfl rfl (fun ρ hρ => ⟨rfl, ov_st rfl rfl rfl ((hρ 54 (lmem rfl)).trans rfl) ((hρ 52 (lmem rfl)).trans rfl) rfl sz5 hp96 hw97 ho98 ha99⟩) ?_
    refine lt_next (l := []) (hv := []) rfl rfl (pv_nil _)
      ffn ?_
    refine lt_end ?_
    refine ago_seqE (rfl : C95_24 = .seq C95_25 C95_26) ?_
    refine ago_cut (fun ρ => ρ 0 = a_0 ∧ ρ 1 = .int .u64 (IntKind.u64.wrap (Int.tdiv u_1 100000000)) ∧ ρ 4 = .int .i64 nd_4 ∧ ρ 8 = .int .u32 (IntKind.u32.wrap ((IntKind.u32.wrap (Int.tdiv (Int.tmod (IntKind.u32.wrap (Int.tmod u_1 100000000)) 10000) 100)) * 2)) ∧ ρ 10 = .int .u32 (IntKind.u32.wrap ((IntKind.u32.wrap (Int.tdiv (IntKind.u32.wrap (Int.tdiv (IntKind.u32.wrap (Int.tmod u_1 100000000)) 10000)) 100)) * 2)) ∧ ρ 11 = .int .u32 (IntKind.u32.wrap ((Int.tmod (IntKind.u32.wrap (Int.tdiv (IntKind.u32.wrap (Int.tmod u_1 100000000)) 10000)) 100) * 2)) ∧ True) ⟨h0, h1, h4, h8, h10, h11, trivial⟩ (fun ρ ⟨h0, h1, h4, h8, h10, h11, _⟩ => ?_)
    obtain ⟨c100, h0101, hj102, hv103, H⟩ := H
    obtain ⟨c104, h0105, hj106, hv107, H⟩ := H
    obtain ⟨b109, i110, l111, c112, p108, hp113, h0114, hj115, hv116, H⟩ := H
    refine ago_drawH (p := [0, 1, 2, 3, 4, 5, 6, 7, 8, 9, 10, 11]) (tl := [(12, [3, 4, 5, 9, 10], [13]), (14, [], [])]) (hv := [(0, a_0), (1, Value.int .i64 nd_4), (2, Value.int .i64 (IntKind.i64.wrap (nd_4 - 3))), (3, a_0), (4, Value.int .i64 nd_4), (5, Value.int .i64 (IntKind.i64.wrap (nd_4 - 4))), (6, Value.int .u32 (IntKind.u32.wrap ((IntKind.u32.wrap (Int.tdiv (Int.tmod (IntKind.u32.wrap (Int.tmod u_1 100000000)) 10000) 100)) * 2))), (7, Value.int .u32 (IntKind.u32.wrap ((IntKind.u32.wrap ((IntKind.u32.wrap (Int.tdiv (Int.tmod (IntKind.u32.wrap (Int.tmod u_1 100000000)) 10000) 100)) * 2)) + 1))), (8, Value.int .u8 c100), (9, Value.int .u32 (IntKind.u32.wrap ((IntKind.u32.wrap (Int.tdiv (Int.tmod (IntKind.u32.wrap (Int.tmod u_1 100000000)) 10000) 100)) * 2))), (10, Value.int .u8 c104), (11, p108)]) (rfl : C95_25 = .region 8 R95_8 true) mixed R95_8_N R95_8_O rfl (pv_cons rfl (pv_cons rfl (pv_cons rfl (pv_cons rfl (pv_cons rfl (pv_cons rfl (pv_cons rfl (pv_cons rfl (pv_cons rfl (pv_cons rfl (pv_cons rfl (pv_cons rfl (pv_nil _)))))))))))))
      (fc 55 a_0 (hd_v rfl fun ρ hρ => ⟨rfl, opv_move rfl rfl ((hρ 0 (lmem rfl)).trans h0)⟩) rfl rfl
      (fc 56 (.int .i64 nd_4) (hd_v rfl fun ρ hρ => ⟨rfl, opv_move rfl rfl ((hρ 4 (lmem rfl)).trans h4)⟩) rfl rfl
      (fc 57 (.int .i64 (IntKind.i64.wrap (nd_4 - 3))) (hd_v rfl fun ρ hρ => ⟨rfl, opv_sub rfl rfl rfl ((hρ 56 (lmem rfl)).trans rfl) rfl⟩) rfl rfl
      (fc 58 a_0 (hd_v rfl fun ρ hρ => ⟨rfl, opv_move rfl rfl ((hρ 0 (lmem rfl)).trans h0)⟩) rfl rfl
      (fc 59 (.int .i64 nd_4) (hd_v rfl fun ρ hρ => ⟨rfl, opv_move rfl rfl ((hρ 4 (lmem rfl)).trans h4)⟩) rfl rfl
      (fc 60 (.int .i64 (IntKind.i64.wrap (nd_4 - 4))) (hd_v rfl fun ρ hρ => ⟨rfl, opv_sub rfl rfl rfl ((hρ 59 (lmem rfl)).trans rfl) rfl⟩) rfl rfl
      (fc 61 (.int .u32 (IntKind.u32.wrap ((IntKind.u32.wrap (Int.tdiv (Int.tmod (IntKind.u32.wrap (Int.tmod u_1 100000000)) 10000) 100)) * 2))) (hd_v rfl fun ρ hρ => ⟨rfl, opv_move rfl rfl ((hρ 8 (lmem rfl)).trans h8)⟩) rfl rfl
      (fc 62 (.int .u32 (IntKind.u32.wrap ((IntKind.u32.wrap ((IntKind.u32.wrap (Int.tdiv (Int.tmod (IntKind.u32.wrap (Int.tmod u_1 100000000)) 10000) 100)) * 2)) + 1))) (hd_v rfl fun ρ hρ => ⟨rfl, opv_add rfl rfl rfl ((hρ 61 (lmem rfl)).trans rfl) rfl⟩) rfl rfl
      (fc 63 (.int .u8 c100) (hd_v rfl fun ρ hρ => ⟨rfl, ov_chr rfl rfl rfl underlying9 rfl ((hρ 62 (lmem rfl)).trans rfl) h0101 hj102 hv103⟩) rfl rfl
      (fc 64 (.int .u32 (IntKind.u32.wrap ((IntKind.u32.wrap (Int.tdiv (Int.tmod (IntKind.u32.wrap (Int.tmod u_1 100000000)) 10000) 100)) * 2))) (hd_v rfl fun ρ hρ => ⟨rfl, opv_move rfl rfl ((hρ 8 (lmem rfl)).trans h8)⟩) rfl rfl
      (fc 65 (.int .u8 c104) (hd_v rfl fun ρ hρ => ⟨rfl, ov_chr rfl rfl rfl underlying9 rfl ((hρ 64 (lmem rfl)).trans rfl) h0105 hj106 hv107⟩) rfl rfl
      (fc 66 p108 (hd_v rfl fun ρ hρ => ⟨rfl, ov_ixS rfl rfl rfl underlying73 sz5 ((hρ 55 (lmem rfl)).trans rfl) ((hρ 57 (lmem rfl)).trans rfl) hp113 h0114 hj115 hv116⟩) rfl rfl
      ffn)))))))))))) ?_
    obtain ⟨b118, i119, aw117, hp120, hw121, ho122, ha123, H⟩ := H
    refine lt_val (dt := none) (v := undef) rfl rfl (fun ρ hρ => ⟨rfl, ov_st rfl rfl rfl ((hρ 66 (lmem rfl)).trans rfl) ((hρ 63 (lmem rfl)).trans rfl) rfl sz5 hp120 hw121 ho122 ha123⟩) ?_
    obtain ⟨b125, i126, l127, c128, p124, hp129, h0130, hj131, hv132, H⟩ := H
    refine lt_next (l := [3, 4, 5, 9, 10, 13]) (hv := [(13, p124)]) rfl rfl (pv_cons rfl (pv_nil _))
      (fc 58 a_0 (hd_v rfl fun ρ hρ => ⟨rfl, opv_move rfl rfl ((hρ 0 (lmem rfl)).trans h0)⟩) rfl rfl
      (fc 59 (.int .i64 nd_4) (hd_v rfl fun ρ hρ => ⟨rfl, opv_move rfl rfl ((hρ 4 (lmem rfl)).trans h4)⟩) rfl rfl
      (fc 60 (.int .i64 (IntKind.i64.wrap (nd_4 - 4))) (hd_v rfl fun ρ hρ => ⟨rfl, opv_sub rfl rfl rfl ((hρ 59 (lmem rfl)).trans rfl) rfl⟩) rfl rfl
      (fc 64 (.int .u32 (IntKind.u32.wrap ((IntKind.u32.wrap (Int.tdiv (Int.tmod (IntKind.u32.wrap (Int.tmod u_1 100000000)) 10000) 100)) * 2))) (hd_v rfl fun ρ hρ => ⟨rfl, opv_move rfl rfl ((hρ 8 (lmem rfl)).trans h8)⟩) rfl rfl
      (fc 65 (.int .u8 c104) (hd_v rfl fun ρ hρ => ⟨rfl, ov_chr rfl rfl rfl underlying9 rfl ((hρ 64 (lmem rfl)).trans rfl) h0105 hj106 hv107⟩) rfl rfl
      (fc 67 p124 (hd_v rfl fun ρ hρ => ⟨rfl, ov_ixS rfl rfl rfl underlying73 sz5 ((hρ 58 (lmem rfl)).trans rfl) ((hρ 60 (lmem rfl)).trans rfl) hp129 h0130 hj131 hv132⟩) rfl rfl
      ffn)))))) ?_
    obtain ⟨b134, i135, aw133, hp136, hw137, ho138, ha139, H⟩ := H
    refine lt_val (dt := none) (v := undef) rfl rfl (fun ρ hρ => ⟨rfl, ov_st rfl rfl rfl ((hρ 67 (lmem rfl)).trans rfl) ((hρ 65 (lmem rfl)).trans rfl) rfl sz5 hp136 hw137 ho138 ha139⟩) ?_
    refine lt_next (l := []) (hv := []) rfl rfl (pv_nil _)
      ffn ?_
    refine lt_end ?_
    refine ago_seqE (rfl : C95_26 = .seq C95_27 C95_28) ?_
    refine ago_cut (fun ρ => ρ 0 = a_0 ∧ ρ 1 = .int .u64 (IntKind.u64.wrap (Int.tdiv u_1 100000000)) ∧ ρ 4 = .int .i64 nd_4 ∧ ρ 10 = .int .u32 (IntKind.u32.wrap ((IntKind.u32.wrap (Int.tdiv (IntKind.u32.wrap (Int.tdiv (IntKind.u32.wrap (Int.tmod u_1 100000000)) 10000)) 100)) * 2)) ∧ ρ 11 = .int .u32 (IntKind.u32.wrap ((Int.tmod (IntKind.u32.wrap (Int.tdiv (IntKind.u32.wrap (Int.tmod u_1 100000000)) 10000)) 100) * 2)) ∧ True) ⟨h0, h1, h4, h10, h11, trivial⟩ (fun ρ ⟨h0, h1, h4, h10, h11, _⟩ => ?_)
    obtain ⟨c140, h0141, hj142, hv143, H⟩ := H
    obtain ⟨c144, h0145, hj146, hv147, H⟩ := H
    obtain ⟨b149, i150, l151, c152, p148, hp153, h0154, hj155, hv156, H⟩ := H
    refine ago_drawH (p := [0, 1, 2, 3, 4, 5, 6, 7, 8, 9, 10, 11]) (tl := [(12, [3, 4, 5, 9, 10], [13]), (14, [], [])]) (hv := [(0, a_0), (1, Value.int .i64 nd_4), (2, Value.int .i64 (IntKind.i64.wrap (nd_4 - 5))), (3, a_0), (4, Value.int .i64 nd_4), (5, Value.int .i64 (IntKind.i64.wrap (nd_4 - 6))), (6, Value.int .u32 (IntKind.u32.wrap ((Int.tmod (IntKind.u32.wrap (Int.tdiv (IntKind.u32.wrap (Int.tmod u_1 100000000)) 10000)) 100) * 2))), (7, Value.int .u32 (IntKind.u32.wrap ((IntKind.u32.wrap ((Int.tmod (IntKind.u32.wrap (Int.tdiv (IntKind.u32.wrap (Int.tmod u_1 100000000)) 10000)) 100) * 2)) + 1))), (8, Value.int .u8 c140), (9, Value.int .u32 (IntKind.u32.wrap ((Int.tmod (IntKind.u32.wrap (Int.tdiv (IntKind.u32.wrap (Int.tmod u_1 100000000)) 10000)) 100) * 2))), (10, Value.int .u8 c144), (11, p148)]) (rfl : C95_27 = .region 9 R95_9 true) mixed R95_9_N R95_9_O rfl (pv_cons rfl (pv_cons rfl (pv_cons rfl (pv_cons rfl (pv_cons rfl (pv_cons rfl (pv_cons rfl (pv_cons rfl (pv_cons rfl (pv_cons rfl (pv_cons rfl (pv_cons rfl (pv_nil _)))))))))))))
      (fc 68 a_0 (hd_v rfl fun ρ hρ => ⟨rfl, opv_move rfl rfl ((hρ 0 (lmem rfl)).trans h0)⟩) rfl rfl
      (fc 69 (.int .i64 nd_4) (hd_v rfl fun ρ hρ => ⟨rfl, opv_move rfl rfl ((hρ 4 (lmem rfl)).trans h4)⟩) rfl rfl
      (fc 70 (.int .i64 (IntKind.i64.wrap (nd_4 - 5))) (hd_v rfl fun ρ hρ => ⟨rfl, opv_sub rfl rfl rfl ((hρ 69 (lmem rfl)).trans rfl) rfl⟩) rfl rfl
      (fc 71 a_0 (hd_v rfl fun ρ hρ => ⟨rfl, opv_move rfl rfl ((hρ 0 (lmem rfl)).trans h0)⟩) rfl rfl
      (fc 72 (.int .i64 nd_4) (hd_v rfl fun ρ hρ => ⟨rfl, opv_move rfl rfl ((hρ 4 (lmem rfl)).trans h4)⟩) rfl rfl
      (fc 73 (.int .i64 (IntKind.i64.wrap (nd_4 - 6))) (hd_v rfl fun ρ hρ => ⟨rfl, opv_sub rfl rfl rfl ((hρ 72 (lmem rfl)).trans rfl) rfl⟩) rfl rfl
      (fc 74 (.int .u32 (IntKind.u32.wrap ((Int.tmod (IntKind.u32.wrap (Int.tdiv (IntKind.u32.wrap (Int.tmod u_1 100000000)) 10000)) 100) * 2))) (hd_v rfl fun ρ hρ => ⟨rfl, opv_move rfl rfl ((hρ 11 (lmem rfl)).trans h11)⟩) rfl rfl
      (fc 75 (.int .u32 (IntKind.u32.wrap ((IntKind.u32.wrap ((Int.tmod (IntKind.u32.wrap (Int.tdiv (IntKind.u32.wrap (Int.tmod u_1 100000000)) 10000)) 100) * 2)) + 1))) (hd_v rfl fun ρ hρ => ⟨rfl, opv_add rfl rfl rfl ((hρ 74 (lmem rfl)).trans rfl) rfl⟩) rfl rfl
      (fc 76 (.int .u8 c140) (hd_v rfl fun ρ hρ => ⟨rfl, ov_chr rfl rfl rfl underlying9 rfl ((hρ 75 (lmem rfl)).trans rfl) h0141 hj142 hv143⟩) rfl rfl
      (fc 77 (.int .u32 (IntKind.u32.wrap ((Int.tmod (IntKind.u32.wrap (Int.tdiv (IntKind.u32.wrap (Int.tmod u_1 100000000)) 10000)) 100) * 2))) (hd_v rfl fun ρ hρ => ⟨rfl, opv_move rfl rfl ((hρ 11 (lmem rfl)).trans h11)⟩) rfl rfl
      (fc 78 (.int .u8 c144) (hd_v rfl fun ρ hρ => ⟨rfl, ov_chr rfl rfl rfl underlying9 rfl ((hρ 77 (lmem rfl)).trans rfl) h0145 hj146 hv147⟩) rfl rfl
      (fc 79 p148 (hd_v rfl fun ρ hρ => ⟨rfl, ov_ixS rfl rfl rfl underlying73 sz5 ((hρ 68 (lmem rfl)).trans rfl) ((hρ 70 (lmem rfl)).trans rfl) hp153 h0154 hj155 hv156⟩) rfl rfl
      ffn)))))))))))) ?_
    obtain ⟨b158, i159, aw157, hp160, hw161, ho162, ha163, H⟩ := H
    refine lt_val (dt := none) (v := undef) rfl rfl (fun ρ hρ => ⟨rfl, ov_st rfl rfl rfl ((hρ 79 (lmem rfl)).trans rfl) ((hρ 76 (lmem rfl)).trans rfl) rfl sz5 hp160 hw161 ho162 ha163⟩) ?_
    obtain ⟨b165, i166, l167, c168, p164, hp169, h0170, hj171, hv172, H⟩ := H
    refine lt_next (l := [3, 4, 5, 9, 10, 13]) (hv := [(13, p164)]) rfl rfl (pv_cons rfl (pv_nil _))
      (fc 71 a_0 (hd_v rfl fun ρ hρ => ⟨rfl, opv_move rfl rfl ((hρ 0 (lmem rfl)).trans h0)⟩) rfl rfl
      (fc 72 (.int .i64 nd_4) (hd_v rfl fun ρ hρ => ⟨rfl, opv_move rfl rfl ((hρ 4 (lmem rfl)).trans h4)⟩) rfl rfl
      (fc 73 (.int .i64 (IntKind.i64.wrap (nd_4 - 6))) (hd_v rfl fun ρ hρ => ⟨rfl, opv_sub rfl rfl rfl ((hρ 72 (lmem rfl)).trans rfl) rfl⟩) rfl rfl
      (fc 77 (.int .u32 (IntKind.u32.wrap ((Int.tmod (IntKind.u32.wrap (Int.tdiv (IntKind.u32.wrap (Int.tmod u_1 100000000)) 10000)) 100) * 2))) (hd_v rfl fun ρ hρ => ⟨rfl, opv_move rfl rfl ((hρ 11 (lmem rfl)).trans h11)⟩) rfl rfl
      (fc 78 (.int .u8 c144) (hd_v rfl fun ρ hρ => ⟨rfl, ov_chr rfl rfl rfl underlying9 rfl ((hρ 77 (lmem rfl)).trans rfl) h0145 hj146 hv147⟩) rfl rfl
      (fc 80 p164 (hd_v rfl fun ρ hρ => ⟨rfl, ov_ixS rfl rfl rfl underlying73 sz5 ((hρ 71 (lmem rfl)).trans rfl) ((hρ 73 (lmem rfl)).trans rfl) hp169 h0170 hj171 hv172⟩) rfl rfl
      ffn)))))) ?_
    obtain ⟨b174, i175, aw173, hp176, hw177, ho178, ha179, H⟩ := H
    refine lt_val (dt := none) (v := undef) rfl rfl (fun ρ hρ => ⟨rfl, ov_st rfl rfl rfl ((hρ 80 (lmem rfl)).trans rfl) ((hρ 78 (lmem rfl)).trans rfl) rfl sz5 hp176 hw177 ho178 ha179⟩) ?_
    refine lt_next (l := []) (hv := []) rfl rfl (pv_nil _)
      ffn ?_
    refine lt_end ?_
    refine ago_seqE (rfl : C95_28 = .seq C95_29 C95_30) ?_
    refine ago_cut (fun ρ => ρ 0 = a_0 ∧ ρ 1 = .int .u64 (IntKind.u64.wrap (Int.tdiv u_1 100000000)) ∧ ρ 4 = .int .i64 nd_4 ∧ ρ 10 = .int .u32 (IntKind.u32.wrap ((IntKind.u32.wrap (Int.tdiv (IntKind.u32.wrap (Int.tdiv (IntKind.u32.wrap (Int.tmod u_1 100000000)) 10000)) 100)) * 2)) ∧ True) ⟨h0, h1, h4, h10, trivial⟩ (fun ρ ⟨h0, h1, h4, h10, _⟩ => ?_)
    obtain ⟨c180, h0181, hj182, hv183, H⟩ := H
    obtain ⟨c184, h0185, hj186, hv187, H⟩ := H
    obtain ⟨b189, i190, l191, c192, p188, hp193, h0194, hj195, hv196, H⟩ := H
    refine ago_drawH (p := [0, 1, 2, 3, 4, 5, 6, 7, 8, 9, 10, 11]) (tl := [(12, [3, 4, 5, 9, 10], [13]), (14, [], [])]) (hv := [(0, a_0), (1, Value.int .i64 nd_4), (2, Value.int .i64 (IntKind.i64.wrap (nd_4 - 7))), (3, a_0), (4, Value.int .i64 nd_4), (5, Value.int .i64 (IntKind.i64.wrap (nd_4 - 8))), (6, Value.int .u32 (IntKind.u32.wrap ((IntKind.u32.wrap (Int.tdiv (IntKind.u32.wrap (Int.tdiv (IntKind.u32.wrap (Int.tmod u_1 100000000)) 10000)) 100)) * 2))), (7, Value.int .u32 (IntKind.u32.wrap ((IntKind.u32.wrap ((IntKind.u32.wrap (Int.tdiv (IntKind.u32.wrap (Int.tdiv (IntKind.u32.wrap (Int.tmod u_1 100000000)) 10000)) 100)) * 2)) + 1))), (8, Value.int .u8 c180), (9, Value.int .u32 (IntKind.u32.wrap ((IntKind.u32.wrap (Int.tdiv (IntKind.u32.wrap (Int.tdiv (IntKind.u32.wrap (Int.tmod u_1 100000000)) 10000)) 100)) * 2))), (10, Value.int .u8 c184), (11, p188)]) (rfl : C95_29 = .region 10 R95_10 true) mixed R95_10_N R95_10_O rfl (pv_cons rfl (pv_cons rfl (pv_cons rfl (pv_cons rfl (pv_cons rfl (pv_cons rfl (pv_cons rfl (pv_cons rfl (pv_cons rfl (pv_cons rfl (pv_cons rfl (pv_cons rfl (pv_nil _)))))))))))))
      (fc 81 a_0 (hd_v rfl fun ρ hρ => ⟨rfl, opv_move rfl rfl ((hρ 0 (lmem rfl)).trans h0)⟩) rfl rfl
      (fc 82 (.int .i64 nd_4) (hd_v rfl fun ρ hρ => ⟨rfl, opv_move rfl rfl ((hρ 4 (lmem rfl)).trans h4)⟩) rfl rfl
      (fc 83 (.int .i64 (IntKind.i64.wrap (nd_4 - 7))) (hd_v rfl fun ρ hρ => ⟨rfl, opv_sub rfl rfl rfl ((hρ 82 (lmem rfl)).trans rfl) rfl⟩) rfl rfl
      (fc 84 a_0 (hd_v rfl fun ρ hρ => ⟨rfl, opv_move rfl rfl ((hρ 0 (lmem rfl)).trans h0)⟩) rfl rfl
      (fc 85 (.int .i64 nd_4) (hd_v rfl fun ρ hρ => ⟨rfl, opv_move rfl rfl ((hρ 4 (lmem rfl)).trans h4)⟩) rfl rfl
      (fc 86 (.int .i64 (IntKind.i64.wrap (nd_4 - 8))) (hd_v rfl fun ρ hρ => ⟨rfl, opv_sub rfl rfl rfl ((hρ 85 (lmem rfl)).trans rfl) rfl⟩) rfl rfl
      (fc 87 (.int .u32 (IntKind.u32.wrap ((IntKind.u32.wrap (Int.tdiv (IntKind.u32.wrap (Int.tdiv (IntKind.u32.wrap (Int.tmod u_1 100000000)) 10000)) 100)) * 2))) (hd_v rfl fun ρ hρ => ⟨rfl, opv_move rfl rfl ((hρ 10 (lmem rfl)).trans h10)⟩) rfl rfl
      (fc 88 (.int .u32 (IntKind.u32.wrap ((IntKind.u32.wrap ((IntKind.u32.wrap (Int.tdiv (IntKind.u32.wrap (Int.tdiv (IntKind.u32.wrap (Int.tmod u_1 100000000)) 10000)) 100)) * 2)) + 1))) (hd_v rfl fun ρ hρ => ⟨rfl, opv_add rfl rfl rfl ((hρ 87 (lmem rfl)).trans rfl) rfl⟩) rfl rfl
      (fc 89 (.int .u8 c180) (hd_v rfl fun ρ hρ => ⟨rfl, ov_chr rfl rfl rfl underlying9 rfl ((hρ 88 (lmem rfl)).trans rfl) h0181 hj182 hv183⟩) rfl rfl
      (fc 90 (.int .u32 (IntKind.u32.wrap ((IntKind.u32.wrap (Int.tdiv (IntKind.u32.wrap (Int.tdiv (IntKind.u32.wrap (Int.tmod u_1 100000000)) 10000)) 100)) * 2))) (hd_v rfl fun ρ hρ => ⟨rfl, opv_move rfl rfl ((hρ 10 (lmem rfl)).trans h10)⟩) rfl rfl
      (fc 91 (.int .u8 c184) (hd_v rfl fun ρ hρ => ⟨rfl, ov_chr rfl rfl rfl underlying9 rfl ((hρ 90 (lmem rfl)).trans rfl) h0185 hj186 hv187⟩) rfl rfl
      (fc 92 p188 (hd_v rfl fun ρ hρ => ⟨rfl, ov_ixS rfl rfl rfl underlying73 sz5 ((hρ 81 (lmem rfl)).trans rfl) ((hρ 83 (lmem rfl)).trans rfl) hp193 h0194 hj195 hv196⟩) rfl rfl
      ffn)))))))))))) ?_
    obtain ⟨b198, i199, aw197, hp200, hw201, ho202, ha203, H⟩ := H
    refine lt_val (dt := none) (v := undef) rfl rfl (fun ρ hρ => ⟨rfl, ov_st rfl rfl rfl ((hρ 92 (lmem rfl)).trans rfl) ((hρ 89 (lmem rfl)).trans rfl) rfl sz5 hp200 hw201 ho202 ha203⟩) ?_
    obtain ⟨b205, i206, l207, c208, p204, hp209, h0210, hj211, hv212, H⟩ := H
    refine lt_next (l := [3, 4, 5, 9, 10, 13]) (hv := [(13, p204)]) rfl rfl (pv_cons rfl (pv_nil _))
      (fc 84 a_0 (hd_v rfl fun ρ hρ => ⟨rfl, opv_move rfl rfl ((hρ 0 (lmem rfl)).trans h0)⟩) rfl rfl
      (fc 85 (.int .i64 nd_4) (hd_v rfl fun ρ hρ => ⟨rfl, opv_move rfl rfl ((hρ 4 (lmem rfl)).trans h4)⟩) rfl rfl
      (fc 86 (.int .i64 (IntKind.i64.wrap (nd_4 - 8))) (hd_v rfl fun ρ hρ => ⟨rfl, opv_sub rfl rfl rfl ((hρ 85 (lmem rfl)).trans rfl) rfl⟩) rfl rfl
      (fc 90 (.int .u32 (IntKind.u32.wrap ((IntKind.u32.wrap (Int.tdiv (IntKind.u32.wrap (Int.tdiv (IntKind.u32.wrap (Int.tmod u_1 100000000)) 10000)) 100)) * 2))) (hd_v rfl fun ρ hρ => ⟨rfl, opv_move rfl rfl ((hρ 10 (lmem rfl)).trans h10)⟩) rfl rfl
      (fc 91 (.int .u8 c184) (hd_v rfl fun ρ hρ => ⟨rfl, ov_chr rfl rfl rfl underlying9 rfl ((hρ 90 (lmem rfl)).trans rfl) h0185 hj186 hv187⟩) rfl rfl
      (fc 93 p204 (hd_v rfl fun ρ hρ => ⟨rfl, ov_ixS rfl rfl rfl underlying73 sz5 ((hρ 84 (lmem rfl)).trans rfl) ((hρ 86 (lmem rfl)).trans rfl) hp209 h0210 hj211 hv212⟩) rfl rfl
      ffn)))))) ?_
    obtain ⟨b214, i215, aw213, hp216, hw217, ho218, ha219, H⟩ := H
    refine lt_val (dt := none) (v := undef) rfl rfl (fun ρ hρ => ⟨rfl, ov_st rfl rfl rfl ((hρ 93 (lmem rfl)).trans rfl) ((hρ 91 (lmem rfl)).trans rfl) rfl sz5 hp216 hw217 ho218 ha219⟩) ?_
    refine lt_next (l := []) (hv := []) rfl rfl (pv_nil _)
      ffn ?_
    refine lt_end ?_
    refine ago_cut (fun ρ => ρ 0 = a_0 ∧ ρ 1 = .int .u64 (IntKind.u64.wrap (Int.tdiv u_1 100000000)) ∧ ρ 4 = .int .i64 nd_4 ∧ True) ⟨h0, h1, h4, trivial⟩ (fun ρ ⟨h0, h1, h4, _⟩ => ?_)
    refine ago_regE (rfl : C95_30 = .region 11 R95_11 false) (l := [0, 1, 2]) rfl ?_
    refine lj 94 R95_11_N rfl rfl rfl (opv_move rfl rfl h4) ?_
    refine lj 95 R95_11_N rfl rfl rfl (opv_sub rfl rfl rfl rfl rfl) ?_
    refine lj 4 R95_11_N rfl rfl rfl (opv_assign rfl rfl rfl) ?_
    refine aops_nil ?_
    refine ago_inBlock ?_
    refine ago_inLoop ?_
    exact L1 _ a_0 (IntKind.u64.wrap (Int.tdiv u_1 100000000)) (IntKind.i64.wrap (nd_4 - 8)) aw213 h0 h1 rfl H
  replace H := cnd_f H hb59
  refine ago_exitE (rfl : C95_10 = .exit 0) rfl ?_
  refine ago_seqE (rfl : C95_31 = .seq C95_32 C95_33) ?_
  refine ago_regE (rfl : C95_32 = .region 12 R95_12 false) (l := [0, 1, 2]) rfl ?_
  refine lj 96 R95_12_N rfl rfl rfl (opv_move rfl rfl h1) ?_
  refine lj 97 R95_12_N rfl rfl rfl (opv_conv rfl rfl underlying25 underlying163 rfl) ?_
  refine lj 12 R95_12_N rfl rfl rfl (opv_assign rfl rfl rfl) ?_
  refine aops_nil ?_
  refine ago_seqE (rfl : C95_33 = .seq C95_34 C95_49) ?_
  refine ago_seqE (rfl : C95_34 = .seq C95_35 C95_36) ?_
  refine ago_regE (rfl : C95_35 = .region 13 R95_13 false) (l := [0, 1]) rfl ?_
  refine lj 98 R95_13_N rfl rfl rfl (opv_move rfl rfl h4) ?_
  refine lj 99 R95_13_N rfl rfl rfl (opv_ge rfl rfl rfl rfl rfl) ?_
  refine aops_nil ?_
  refine ago_condE  (rfl : C95_36 = .cond (.tmp 99) C95_37 C95_48) rfl rfl (fun hb220 => ?_) (fun hb220 => ?_)
  · replace H := cnd_t H hb220
    refine ago_seqE (rfl : C95_37 = .seq C95_38 C95_39) ?_
    refine ago_regE (rfl : C95_38 = .region 14 R95_14 false) (l := [0, 1, 2]) rfl ?_
    refine lj 100 R95_14_N rfl rfl rfl (opv_move rfl rfl rfl) ?_
    refine lj 101 R95_14_N rfl rfl rfl (opv_rem rfl rfl rfl rfl rfl (by decide)) ?_
    refine lj 13 R95_14_N rfl rfl rfl (opv_assign rfl rfl rfl) ?_
    refine aops_nil ?_
    refine ago_seqE (rfl : C95_39 = .seq C95_40 C95_41) ?_
    refine ago_regE (rfl : C95_40 = .region 15 R95_15 false) (l := [0, 1, 2]) rfl ?_
    refine lj 102 R95_15_N rfl rfl rfl (opv_move rfl rfl rfl) ?_
    refine lj 103 R95_15_N rfl rfl rfl (opv_quo rfl rfl rfl rfl rfl (by decide)) ?_
    refine lj 12 R95_15_N rfl rfl rfl (opv_assign rfl rfl rfl) ?_
    refine aops_nil ?_
    refine ago_seqE (rfl : C95_41 = .seq C95_42 C95_43) ?_
    refine ago_cut (fun ρ => ρ 0 = a_0 ∧ ρ 4 = .int .i64 nd_4 ∧ ρ 12 = .int .u32 (IntKind.u32.wrap (Int.tdiv (IntKind.u32.wrap u_1) 10000)) ∧ ρ 13 = .int .u32 (Int.tmod (IntKind.u32.wrap u_1) 10000) ∧ True) ⟨h0, h4, rfl, rfl, trivial⟩ (fun ρ ⟨h0, h4, h12, h13, _⟩ => ?_)
    refine ago_regE (rfl : C95_42 = .region 16 R95_16 false) (l := [0, 1, 2, 3, 4, 5, 6, 7]) rfl ?_
    refine lj 104 R95_16_N rfl rfl rfl (opv_move rfl rfl h13) ?_
    refine lj 105 R95_16_N rfl rfl rfl (opv_quo rfl rfl rfl rfl rfl (by decide)) ?_
    refine lj 106 R95_16_N rfl rfl rfl (opv_mul rfl rfl rfl rfl rfl) ?_
    refine lj 107 R95_16_N rfl rfl rfl (opv_move rfl rfl h13) ?_
    refine lj 108 R95_16_N rfl rfl rfl (opv_rem rfl rfl rfl rfl rfl (by decide)) ?_
    refine lj 109 R95_16_N rfl rfl rfl (opv_mul rfl rfl rfl rfl rfl) ?_
    refine lj 14 R95_16_N rfl rfl rfl (opv_assign rfl rfl rfl) ?_
    refine lj 15 R95_16_N rfl rfl rfl (opv_assign rfl rfl rfl) ?_
    refine aops_nil ?_
    refine ago_seqE (rfl : C95_43 = .seq C95_44 C95_45) ?_
    obtain ⟨c221, h0222, hj223, hv224, H⟩ := H
    obtain ⟨c225, h0226, hj227, hv228, H⟩ := H
    obtain ⟨b230, i231, l232, c233, p229, hp234, h0235, hj236, hv237, H⟩ := H
    refine ago_drawH (p := [0, 1, 2, 3, 4, 5, 6, 7, 8, 9, 10, 11]) (tl := [(12, [3, 4, 5, 9, 10], [13]), (14, [], [])]) (hv := [(0, a_0), (1, Value.int .i64 nd_4), (2, Value.int .i64 (IntKind.i64.wrap (nd_4 - 1))), (3, a_0), (4, Value.int .i64 nd_4), (5, Value.int .i64 (IntKind.i64.wrap (nd_4 - 2))), (6, Value.int .u32 (IntKind.u32.wrap ((Int.tmod (Int.tmod (IntKind.u32.wrap u_1) 10000) 100) * 2))), (7, Value.int .u32 (IntKind.u32.wrap ((IntKind.u32.wrap ((Int.tmod (Int.tmod (IntKind.u32.wrap u_1) 10000) 100) * 2)) + 1))), (8, Value.int .u8 c221), (9, Value.int .u32 (IntKind.u32.wrap ((Int.tmod (Int.tmod (IntKind.u32.wrap u_1) 10000) 100) * 2))), (10, Value.int .u8 c225), (11, p229)]) (rfl : C95_44 = .region 17 R95_17 true) mixed R95_17_N R95_17_O rfl (pv_cons rfl (pv_cons rfl (pv_cons rfl (pv_cons rfl (pv_cons rfl (pv_cons rfl (pv_cons rfl (pv_cons rfl (pv_cons rfl (pv_cons rfl (pv_cons rfl (pv_cons rfl (pv_nil _)))))))))))))
      (fc 110 a_0 (hd_v rfl fun ρ hρ => ⟨rfl, opv_move rfl rfl ((hρ 0 (lmem rfl)).trans h0)⟩) rfl rfl
      (fc 111 (.int .i64 nd_4) (hd_v rfl fun ρ hρ => ⟨rfl, opv_move rfl rfl ((hρ 4 (lmem rfl)).trans h4)⟩) rfl rfl
      (fc 112 (.int .i64 (IntKind.i64.wrap (nd_4 - 1))) (hd_v rfl fun ρ hρ => ⟨rfl, opv_sub rfl rfl rfl ((hρ 111 (lmem rfl)).trans rfl) rfl⟩) rfl rfl
      (fc 113 a_0 (hd_v rfl fun ρ hρ => ⟨rfl, opv_move rfl rfl ((hρ 0 (lmem rfl)).trans h0)⟩) rfl rfl
      (fc 114 (.int .i64 nd_4) (hd_v rfl fun ρ hρ => ⟨rfl, opv_move rfl rfl ((hρ 4 (lmem rfl)).trans h4)⟩) rfl rfl
      (fc 115 (.int .i64 (IntKind.i64.wrap (nd_4 - 2))) (hd_v rfl fun ρ hρ => ⟨rfl, opv_sub rfl rfl rfl ((hρ 114 (lmem rfl)).trans rfl) rfl⟩) rfl rfl
      (fc 116 (.int .u32 (IntKind.u32.wrap ((Int.tmod (Int.tmod (IntKind.u32.wrap u_1) 10000) 100) * 2))) (hd_v rfl fun ρ hρ => ⟨rfl, opv_move rfl rfl ((hρ 15 (lmem rfl)).trans rfl)⟩) rfl rfl
      (fc 117 (.int .u32 (IntKind.u32.wrap ((IntKind.u32.wrap ((Int.tmod (Int.tmod (IntKind.u32.wrap u_1) 10000) 100) * 2)) + 1))) (hd_v rfl fun ρ hρ => ⟨rfl, opv_add rfl rfl rfl ((hρ 116 (lmem rfl)).trans rfl) rfl⟩) rfl rfl
      (fc 118 (.int .u8 c221) (hd_v rfl fun ρ hρ => ⟨rfl, ov_chr rfl rfl rfl underlying9 rfl ((hρ 117 (lmem rfl)).trans rfl) h0222 hj223 hv224⟩) rfl rfl
      (fc 119 (.int .u32 (IntKind.u32.wrap ((Int.tmod (Int.tmod (IntKind.u32.wrap u_1) 10000) 100) * 2))) (hd_v rfl fun ρ hρ => ⟨rfl, opv_move rfl rfl ((hρ 15 (lmem rfl)).trans rfl)⟩) rfl rfl
      (fc 120 (.int .u8 c225) (hd_v rfl fun ρ hρ => ⟨rfl, ov_chr rfl rfl rfl underlying9 rfl ((hρ 119 (lmem rfl)).trans rfl) h0226 hj227 hv228⟩) rfl rfl
      (fc 121 p229 (hd_v rfl fun ρ hρ => ⟨rfl, ov_ixS rfl rfl rfl underlying73 sz5 ((hρ 110 (lmem rfl)).trans rfl) ((hρ 112 (lmem rfl)).trans rfl) hp234 h0235 hj236 hv237⟩) rfl rfl
      ffn)))))))))))) ?_
    obtain ⟨b239, i240, aw238, hp241, hw242, ho243, ha244, H⟩ := H
    refine lt_val (dt := none) (v := undef) rfl rfl (fun ρ hρ => ⟨rfl, ov_st rfl rfl rfl ((hρ 121 (lmem rfl)).trans rfl) ((hρ 118 (lmem rfl)).trans rfl) rfl sz5 hp241 hw242 ho243 ha244⟩) ?_
    obtain ⟨b246, i247, l248, c249, p245, hp250, h0251, hj252, hv253, H⟩ := H
    refine lt_next (l := [3, 4, 5, 9, 10, 13]) (hv := [(13, p245)]) rfl rfl (pv_cons rfl (pv_nil _))
      (fc 113 a_0 (hd_v rfl fun ρ hρ => ⟨rfl, opv_move rfl rfl ((hρ 0 (lmem rfl)).trans h0)⟩) rfl rfl
      (fc 114 (.int .i64 nd_4) (hd_v rfl fun ρ hρ => ⟨rfl, opv_move rfl rfl ((hρ 4 (lmem rfl)).trans h4)⟩) rfl rfl
      (fc 115 (.int .i64 (IntKind.i64.wrap (nd_4 - 2))) (hd_v rfl fun ρ hρ => ⟨rfl, opv_sub rfl rfl rfl ((hρ 114 (lmem rfl)).trans rfl) rfl⟩) rfl rfl
      (fc 119 (.int .u32 (IntKind.u32.wrap ((Int.tmod (Int.tmod (IntKind.u32.wrap u_1) 10000) 100) * 2))) (hd_v rfl fun ρ hρ => ⟨rfl, opv_move rfl rfl ((hρ 15 (lmem rfl)).trans rfl)⟩) rfl rfl
      (fc 120 (.int .u8 c225) (hd_v rfl fun ρ hρ => ⟨rfl, ov_chr rfl rfl rfl underlying9 rfl ((hρ 119 (lmem rfl)).trans rfl) h0226 hj227 hv228⟩) rfl rfl
      (fc 122 p245 (hd_v rfl fun ρ hρ => ⟨rfl, ov_ixS rfl rfl rfl underlying73 sz5 ((hρ 113 (lmem rfl)).trans rfl) ((hρ 115 (lmem rfl)).trans rfl) hp250 h0251 hj252 hv253⟩) rfl rfl
      ffn)))))) ?_
    obtain ⟨b255, i256, aw254, hp257, hw258, ho259, ha260, H⟩ := H
    refine lt_val (dt := none) (v := undef) rfl rfl (fun ρ hρ => ⟨rfl, ov_st rfl rfl rfl ((hρ 122 (lmem rfl)).trans rfl) ((hρ 120 (lmem rfl)).trans rfl) rfl sz5 hp257 hw258 ho259 ha260⟩) ?_
    refine lt_next (l := []) (hv := []) rfl rfl (pv_nil _)
      ffn ?_
    refine lt_end ?_
    refine ago_seqE (rfl : C95_45 = .seq C95_46 C95_47) ?_
    refine ago_cut (fun ρ => ρ 0 = a_0 ∧ ρ 4 = .int .i64 nd_4 ∧ ρ 12 = .int .u32 (IntKind.u32.wrap (Int.tdiv (IntKind.u32.wrap u_1) 10000)) ∧ ρ 14 = .int .u32 (IntKind.u32.wrap ((IntKind.u32.wrap (Int.tdiv (Int.tmod (IntKind.u32.wrap u_1) 10000) 100)) * 2)) ∧ True) ⟨h0, h4, h12, rfl, trivial⟩ (fun ρ ⟨h0, h4, h12, h14, _⟩ => ?_)
    obtain ⟨c261, h0262, hj263, hv264, H⟩ := H
    obtain ⟨c265, h0266, hj267, hv268, H⟩ := H
    obtain ⟨b270, i271, l272, c273, p269, hp274, h0275, hj276, hv277, H⟩ := H
    refine ago_drawH (p := [0, 1, 2, 3, 4, 5, 6, 7, 8, 9, 10, 11]) (tl := [(12, [3, 4, 5, 9, 10], [13]), (14, [], [])]) (hv := [(0, a_0), (1, Value.int .i64 nd_4), (2, Value.int .i64 (IntKind.i64.wrap (nd_4 - 3))), (3, a_0), (4, Value.int .i64 nd_4), (5, Value.int .i64 (IntKind.i64.wrap (nd_4 - 4))), (6, Value.int .u32 (IntKind.u32.wrap ((IntKind.u32.wrap (Int.tdiv (Int.tmod (IntKind.u32.wrap u_1) 10000) 100)) * 2))), (7, Value.int .u32 (IntKind.u32.wrap ((IntKind.u32.wrap ((IntKind.u32.wrap (Int.tdiv (Int.tmod (IntKind.u32.wrap u_1) 10000) 100)) * 2)) + 1))), (8, Value.int .u8 c261), (9, Value.int .u32 (IntKind.u32.wrap ((IntKind.u32.wrap (Int.tdiv (Int.tmod (IntKind.u32.wrap u_1) 10000) 100)) * 2))), (10, Value.int .u8 c265), (11, p269)]) (rfl : C95_46 = .region 18 R95_18 true) mixed R95_18_N R95_18_O rfl (pv_cons rfl (pv_cons rfl (pv_cons rfl (pv_cons rfl (pv_cons rfl (pv_cons rfl (pv_cons rfl (pv_cons rfl (pv_cons rfl (pv_cons rfl (pv_cons rfl (pv_cons rfl (pv_nil _)))))))))))))
      (fc 123 a_0 (hd_v rfl fun ρ hρ => ⟨rfl, opv_move rfl rfl ((hρ 0 (lmem rfl)).trans h0)⟩) rfl rfl
      (fc 124 (.int .i64 nd_4) (hd_v rfl fun ρ hρ => ⟨rfl, opv_move rfl rfl ((hρ 4 (lmem rfl)).trans h4)⟩) rfl rfl
      (fc 125 (.int .i64 (IntKind.i64.wrap (nd_4 - 3))) (hd_v rfl fun ρ hρ => ⟨rfl, opv_sub rfl rfl rfl ((hρ 124 (lmem rfl)).trans rfl) rfl⟩) rfl rfl
      (fc 126 a_0 (hd_v rfl fun ρ hρ => ⟨rfl, opv_move rfl rfl ((hρ 0 (lmem rfl)).trans h0)⟩) rfl rfl
      (fc 127 (.int .i64 nd_4) (hd_v rfl fun ρ hρ => ⟨rfl, opv_move rfl rfl ((hρ 4 (lmem rfl)).trans h4)⟩) rfl rfl
      (fc 128 (.int .i64 (IntKind.i64.wrap (nd_4 - 4))) (hd_v rfl fun ρ hρ => ⟨rfl, opv_sub rfl rfl rfl ((hρ 127 (lmem rfl)).trans rfl) rfl⟩) rfl rfl
      (fc 129 (.int .u32 (IntKind.u32.wrap ((IntKind.u32.wrap (Int.tdiv (Int.tmod (IntKind.u32.wrap u_1) 10000) 100)) * 2))) (hd_v rfl fun ρ hρ => ⟨rfl, opv_move rfl rfl ((hρ 14 (lmem rfl)).trans h14)⟩) rfl rfl
      (fc 130 (.int .u32 (IntKind.u32.wrap ((IntKind.u32.wrap ((IntKind.u32.wrap (Int.tdiv (Int.tmod (IntKind.u32.wrap u_1) 10000) 100)) * 2)) + 1))) (hd_v rfl fun ρ hρ => ⟨rfl, opv_add rfl rfl rfl ((hρ 129 (lmem rfl)).trans rfl) rfl⟩) rfl rfl
      (fc 131 (.int .u8 c261) (hd_v rfl fun ρ hρ => ⟨rfl, ov_chr rfl rfl rfl underlying9 rfl ((hρ 130 (lmem rfl)).trans rfl) h0262 hj263 hv264⟩) rfl rfl
      (fc 132 (.int .u32 (IntKind.u32.wrap ((IntKind.u32.wrap (Int.tdiv (Int.tmod (IntKind.u32.wrap u_1) 10000) 100)) * 2))) (hd_v rfl fun ρ hρ => ⟨rfl, opv_move rfl rfl ((hρ 14 (lmem rfl)).trans h14)⟩) rfl rfl
      (fc 133 (.int .u8 c265) (hd_v rfl fun ρ hρ => ⟨rfl, ov_chr rfl rfl rfl underlying9 rfl ((hρ 132 (lmem rfl)).trans rfl) h0266 hj267 hv268⟩) rfl rfl
      (fc 134 p269 (hd_v rfl fun ρ hρ => ⟨rfl, ov_ixS rfl rfl rfl underlying73 sz5 ((hρ 123 (lmem rfl)).trans rfl) ((hρ 125 (lmem rfl)).trans rfl) hp274 h0275 hj276 hv277⟩) rfl rfl
      ffn)))))))))))) ?_
    obtain ⟨b279, i280, aw278, hp281, hw282, ho283, ha284, H⟩ := H
    refine lt_val (dt := none) (v := undef) rfl rfl (fun ρ hρ => ⟨rfl, ov_st rfl rfl rfl ((hρ 134 (lmem rfl)).trans rfl) ((hρ 131 (lmem rfl)).trans rfl) rfl sz5 hp281 hw282 ho283 ha284⟩) ?_
    obtain ⟨b286, i287, l288, c289, p285, hp290, h0291, hj292, hv293, H⟩ := H
    refine lt_next (l := [3, 4, 5, 9, 10, 13]) (hv := [(13, p285)]) rfl rfl (pv_cons rfl (pv_nil _))
      (fc 126 a_0 (hd_v rfl fun ρ hρ => ⟨rfl, opv_move rfl rfl ((hρ 0 (lmem rfl)).trans h0)⟩) rfl rfl
      (fc 127 (.int .i64 nd_4) (hd_v rfl fun ρ hρ => ⟨rfl, opv_move rfl rfl ((hρ 4 (lmem rfl)).trans h4)⟩) rfl rfl
      (fc 128 (.int .i64 (IntKind.i64.wrap (nd_4 - 4))) (hd_v rfl fun ρ hρ => ⟨rfl, opv_sub rfl rfl rfl ((hρ 127 (lmem rfl)).trans rfl) rfl⟩) rfl rfl
      (fc 132 (.int .u32 (IntKind.u32.wrap ((IntKind.u32.wrap (Int.tdiv (Int.tmod (IntKind.u32.wrap u_1) 10000) 100)) * 2))) (hd_v rfl fun ρ hρ => ⟨rfl, opv_move rfl rfl ((hρ 14 (lmem rfl)).trans h14)⟩) rfl rfl
      (fc 133 (.int .u8 c265) (hd_v rfl fun ρ hρ => ⟨rfl, ov_chr rfl rfl rfl underlying9 rfl ((hρ 132 (lmem rfl)).trans rfl) h0266 hj267 hv268⟩) rfl rfl
      (fc 135 p285 (hd_v rfl fun ρ hρ => ⟨rfl, ov_ixS rfl rfl rfl underlying73 sz5 ((hρ 126 (lmem rfl)).trans rfl) ((hρ 128 (lmem rfl)).trans rfl) hp290 h0291 hj292 hv293⟩) rfl rfl
      ffn)))))) ?_
    obtain ⟨b295, i296, aw294, hp297, hw298, ho299, ha300, H⟩ := H
    refine lt_val (dt := none) (v := undef) rfl rfl (fun ρ hρ => ⟨rfl, ov_st rfl rfl rfl ((hρ 135 (lmem rfl)).trans rfl) ((hρ 133 (lmem rfl)).trans rfl) rfl sz5 hp297 hw298 ho299 ha300⟩) ?_
    refine lt_next (l := []) (hv := []) rfl rfl (pv_nil _)
      ffn ?_
    refine lt_end ?_
    refine ago_cut (fun ρ => ρ 0 = a_0 ∧ ρ 4 = .int .i64 nd_4 ∧ ρ 12 = .int .u32 (IntKind.u32.wrap (Int.tdiv (IntKind.u32.wrap u_1) 10000)) ∧ True) ⟨h0, h4, h12, trivial⟩ (fun ρ ⟨h0, h4, h12, _⟩ => ?_)
    refine ago_regE (rfl : C95_47 = .region 19 R95_19 false) (l := [0, 1, 2]) rfl ?_
    refine lj 136 R95_19_N rfl rfl rfl (opv_move rfl rfl h4) ?_
    refine lj 137 R95_19_N rfl rfl rfl (opv_sub rfl rfl rfl rfl rfl) ?_
    refine lj 4 R95_19_N rfl rfl rfl (opv_assign rfl rfl rfl) ?_
    refine aops_nil ?_
    exact S95_2_ok Q E  _ a_0 (IntKind.i64.wrap (nd_4 - 4)) (IntKind.u32.wrap (Int.tdiv (IntKind.u32.wrap u_1) 10000)) aw294 h0 rfl h12 H
  replace H := cnd_f H hb220
  refine ago_skipE (rfl : C95_48 = .skip) ?_
  exact S95_2_ok Q E  _ a_0 nd_4 (IntKind.u32.wrap u_1) aw h0 h4 rfl H
theorem S95_1_ok (Q : Unit → AW → Prop) (E : List PanicEntry → AW → Prop)  : ∀ (n : Nat) (ρ : Env) (a_0 : Value) (u_1 : Int) (nd_4 : Int) (aw : AW) (h0 : ρ 0 = a_0) (h1 : ρ 1 = .int .u64 u_1) (h4 : ρ 4 = .int .i64 nd_4), S95_1 Q E  n a_0 u_1 nd_4 aw →
    AGo prog 167 [.code C95_5, .inLoop C95_5, .inBlock 0, .code C95_31] ρ [] aw (RR prog f95 167 sh95 Q E)
  | 0, _, _, _, _, _, _, _, _ => fun H => H.elim
  | n + 1, ρ, a_0, u_1, nd_4, aw, h0, h1, h4 => fun H => S95_1s_ok Q E  _ (S95_1_ok Q E  n) ρ a_0 u_1 nd_4 aw h0 h1 h4 H
theorem S95_0_ok (Q : Unit → AW → Prop) (E : List PanicEntry → AW → Prop)  (ρ : Env) (a_0 : Value) (u_1 : Int) (aw : AW) (h0 : ρ 0 = a_0) (h1 : ρ 1 = .int .u64 u_1) (H : S95_0 Q E  a_0 u_1 aw) :
    AGo prog 167 [.code C95_0] ρ [] aw (RR prog f95 167 sh95 Q E) := by
  unfold S95_0 at H
  refine ago_seqE (rfl : C95_0 = .seq C95_1 C95_2) ?_
  refine ago_regE (rfl : C95_1 = .region 0 R95_0 false) (l := [0, 1, 2]) rfl ?_
  refine lj 17 R95_0_N rfl rfl rfl (opv_move rfl rfl h0) ?_
  obtain ⟨q302, l303, c304, n301, hv305, hn306, H⟩ := H
  refine lj 18 R95_0_N rfl rfl rfl (ov_len rfl rfl rfl underlying73 rfl hv305 hn306) ?_
  refine lj 4 R95_0_N rfl rfl rfl (opv_assign rfl rfl rfl) ?_
  refine aops_nil ?_
  refine ago_seqE (rfl : C95_2 = .seq C95_3 C95_31) ?_
  refine ago_blockE (rfl : C95_3 = .block 0 C95_4) ?_
  refine ago_loopE (rfl : C95_4 = .loop C95_5) ?_
  obtain ⟨n, H⟩ := H
  exact S95_1_ok Q E  n _ a_0 u_1 n301 aw h0 h1 rfl H
theorem F95_ok {Q : Unit → AW → Prop} {E : List PanicEntry → AW → Prop} (a_0 : Value) (u_1 : Int) (aw : AW) (H : S95_0 Q E a_0 u_1 aw) : CallP prog 95 [a_0, .int .u64 u_1] aw sh95 Q E :=
  callP_of func95 C95_is rfl (Nat.le_of_ble_eq_true rfl) (S95_0_ok Q E _ a_0 u_1 aw rfl rfl H)
def C98_0 := bodyOf f98
theorem C98_is : f98.body = some C98_0 := by kernel_rfl
def C98_1 := cl C98_0
def R98_0 := regOps C98_1
def C98_2 := cr C98_0
def C98_3 := cl C98_2
def R98_1 := regOps C98_3
def C98_4 := cr C98_2
theorem R98_0_N : dstsOk 6 R98_0 = true := by decide +kernel
theorem R98_1_N : dstsOk 6 R98_1 = true := by decide +kernel
def S98_0 (Q : Int → AW → Prop) (E : List PanicEntry → AW → Prop)  (x_0 : Int) (aw : AW) : Prop :=
  Q (Int.fdiv (IntKind.i64.wrap (x_0 * 78913)) (2 ^ (min (18 : Int).toNat IntKind.i64.bits))) aw
theorem S98_0_ok (Q : Int → AW → Prop) (E : List PanicEntry → AW → Prop)  (ρ : Env) (x_0 : Int) (aw : AW) (h0 : ρ 0 = .int .i64 x_0) (H : S98_0 Q E  x_0 aw) :
    AGo prog 6 [.code C98_0] ρ [] aw (RR prog f98 6 sh98 Q E) := by
  unfold S98_0 at H
  refine ago_seqE (rfl : C98_0 = .seq C98_1 C98_2) ?_
  refine ago_regE (rfl : C98_1 = .region 0 R98_0 false) (l := [0]) rfl ?_
  refine lj 2 R98_0_N rfl rfl rfl (opv_assign rfl rfl rfl) ?_
  refine aops_nil ?_
  refine ago_seqE (rfl : C98_2 = .seq C98_3 C98_4) ?_
  refine ago_regE (rfl : C98_3 = .region 1 R98_1 false) (l := [0, 1, 2, 3]) rfl ?_
  refine lj 3 R98_1_N rfl rfl rfl (opv_move rfl rfl h0) ?_
  refine lj 4 R98_1_N rfl rfl rfl (opv_mul rfl rfl rfl rfl rfl) ?_
  refine lj 5 R98_1_N rfl rfl rfl (opv_shr rfl rfl rfl rfl rfl (by decide)) ?_
  refine lj 2 R98_1_N rfl rfl rfl (opv_assign rfl rfl rfl) ?_
  refine aops_nil ?_
  exact ago_retE (rfl : C98_4 = .ret) (r := (Int.fdiv (IntKind.i64.wrap (x_0 * 78913)) (2 ^ (min (18 : Int).toNat IntKind.i64.bits)))) (ares_1 rfl (oneT rfl)) rfl H
theorem F98_ok {Q : Int → AW → Prop} {E : List PanicEntry → AW → Prop} (x_0 : Int) (aw : AW) (H : S98_0 Q E x_0 aw) : CallP prog 98 [.int .i64 x_0] aw sh98 Q E :=
  callP_of func98 C98_is rfl (Nat.le_of_ble_eq_true rfl) (S98_0_ok Q E _ x_0 aw rfl H)
def C99_0 := bodyOf f99
theorem C99_is : f99.body = some C99_0 := by kernel_rfl
def C99_1 := cl C99_0
def R99_0 := regOps C99_1
def C99_2 := cr C99_0
def C99_3 := cl C99_2
def C99_4 := cl C99_3
def R99_1 := regOps C99_4
def C99_5 := cr C99_3
def C99_6 := cl C99_5
def C99_7 := cl C99_6
def R99_2 := regOps C99_7
def C99_8 := cr C99_6
def R99_3 := regOps C99_8
def C99_9 := cr C99_5
def C99_10 := cr C99_2
def C99_11 := cl C99_10
def C99_12 := cl C99_11
def R99_4 := regOps C99_12
def C99_13 := cr C99_11
def C99_14 := cl C99_13
def C99_15 := cl C99_14
def R99_5 := regOps C99_15
def C99_16 := cr C99_14
def R99_6 := regOps C99_16
def C99_17 := cr C99_13
def C99_18 := cr C99_10
def C99_19 := cl C99_18
def C99_20 := cl C99_19
def R99_7 := regOps C99_20
def C99_21 := cr C99_19
def C99_22 := cl C99_21
def C99_23 := cl C99_22
def R99_8 := regOps C99_23
def C99_24 := cr C99_22
def R99_9 := regOps C99_24
def C99_25 := cr C99_21
def C99_26 := cr C99_18
def C99_27 := cl C99_26
def R99_10 := regOps C99_27
def C99_28 := cr C99_26
theorem R99_0_N : dstsOk 25 R99_0 = true := by decide +kernel
theorem R99_1_N : dstsOk 25 R99_1 = true := by decide +kernel
theorem R99_2_N : dstsOk 25 R99_2 = true := by decide +kernel
theorem R99_3_N : dstsOk 25 R99_3 = true := by decide +kernel
theorem R99_4_N : dstsOk 25 R99_4 = true := by decide +kernel
theorem R99_5_N : dstsOk 25 R99_5 = true := by decide +kernel
theorem R99_6_N : dstsOk 25 R99_6 = true := by decide +kernel
theorem R99_7_N : dstsOk 25 R99_7 = true := by decide +kernel
theorem R99_8_N : dstsOk 25 R99_8 = true := by decide +kernel
theorem R99_9_N : dstsOk 25 R99_9 = true := by decide +kernel
theorem R99_10_N : dstsOk 25 R99_10 = true := by decide +kernel
def S99_3 (Q : Int → AW → Prop) (E : List PanicEntry → AW → Prop)  (x_0 : Int) (n_2 : Int) (aw : AW) : Prop :=
  chr (⟨#[0, 1, 2, 2, 3, 3, 3, 3, 4, 4, 4, 4, 4, 4, 4, 4, 5, 5, 5, 5, 5, 5, 5, 5, 5, 5, 5, 5, 5, 5, 5, 5, 6, 6, 6, 6, 6, 6, 6, 6, 6, 6, 6, 6, 6, 6, 6, 6, 6, 6, 6, 6, 6, 6, 6, 6, 6, 6, 6, 6, 6, 6, 6, 6, 7, 7, 7, 7, 7, 7, 7, 7, 7, 7, 7, 7, 7, 7, 7, 7, 7, 7, 7, 7, 7, 7, 7, 7, 7, 7, 7, 7, 7, 7, 7, 7, 7, 7, 7, 7, 7, 7, 7, 7, 7, 7, 7, 7, 7, 7, 7, 7, 7, 7, 7, 7, 7, 7, 7, 7, 7, 7, 7, 7, 7, 7, 7, 7, 8, 8, 8, 8, 8, 8, 8, 8, 8, 8, 8, 8, 8, 8, 8, 8, 8, 8, 8, 8, 8, 8, 8, 8, 8, 8, 8, 8, 8, 8, 8, 8, 8, 8, 8, 8, 8, 8, 8, 8, 8, 8, 8, 8, 8, 8, 8, 8, 8, 8, 8, 8, 8, 8, 8, 8, 8, 8, 8, 8, 8, 8, 8, 8, 8, 8, 8, 8, 8, 8, 8, 8, 8, 8, 8, 8, 8, 8, 8, 8, 8, 8, 8, 8, 8, 8, 8, 8, 8, 8, 8, 8, 8, 8, 8, 8, 8, 8, 8, 8, 8, 8, 8, 8, 8, 8, 8, 8, 8, 8, 8, 8, 8, 8, 8, 8, 8, 8, 8, 8, 8, 8, 8, 8, 8, 8, 8, 8]⟩ : ByteArray) (IntKind.u8.wrap x_0) fun c1 =>
  Q (IntKind.i64.wrap (n_2 + (IntKind.i64.wrap c1))) aw
def S99_2 (Q : Int → AW → Prop) (E : List PanicEntry → AW → Prop)  (x_0 : Int) (n_2 : Int) (aw : AW) : Prop :=
  cnd (decide (256 ≤ x_0)) (S99_3 Q E  (Int.fdiv x_0 (2 ^ (min (8 : Int).toNat IntKind.u64.bits))) (IntKind.i64.wrap (n_2 + 8)) aw) (S99_3 Q E  x_0 n_2 aw)
def S99_1 (Q : Int → AW → Prop) (E : List PanicEntry → AW → Prop)  (x_0 : Int) (n_2 : Int) (aw : AW) : Prop :=
  cnd (decide (65536 ≤ x_0)) (S99_2 Q E  (Int.fdiv x_0 (2 ^ (min (16 : Int).toNat IntKind.u64.bits))) (IntKind.i64.wrap (n_2 + 16)) aw) (S99_2 Q E  x_0 n_2 aw)
def S99_0 (Q : Int → AW → Prop) (E : List PanicEntry → AW → Prop)  (x_0 : Int) (aw : AW) : Prop :=
  cnd (decide (4294967296 ≤ x_0)) (S99_1 Q E  (Int.fdiv x_0 (2 ^ (min (32 : Int).toNat IntKind.u64.bits))) 32 aw) (S99_1 Q E  x_0 0 aw)
theorem S99_3_ok (Q : Int → AW → Prop) (E : List PanicEntry → AW → Prop)  (ρ : Env) (x_0 : Int) (n_2 : Int) (aw : AW) (h0 : ρ 0 = .int .u64 x_0) (h2 : ρ 2 = .int .i64 n_2) (H : S99_3 Q E  x_0 n_2 aw) :
    AGo prog 25 [.code C99_26] ρ [] aw (RR prog f99 25 sh99 Q E) := by
  unfold S99_3 at H
  refine ago_seqE (rfl : C99_26 = .seq C99_27 C99_28) ?_
  refine ago_regE (rfl : C99_27 = .region 10 R99_10 false) (l := [0, 1, 2, 3, 4, 5, 6]) rfl ?_
  refine lj 19 R99_10_N rfl rfl rfl (opv_move rfl rfl h2) ?_
  refine lj 20 R99_10_N rfl rfl rfl (opv_move rfl rfl h0) ?_
  refine lj 21 R99_10_N rfl rfl rfl (opv_conv rfl rfl underlying25 underlying5 rfl) ?_
  obtain ⟨c1, h02, hj3, hv4, H⟩ := H
  refine lj 22 R99_10_N rfl rfl rfl (ov_chr rfl rfl rfl underlying9 rfl rfl h02 hj3 hv4) ?_
  refine lj 23 R99_10_N rfl rfl rfl (opv_conv rfl rfl underlying5 underlying3 rfl) ?_
  refine lj 24 R99_10_N rfl rfl rfl (opv_add rfl rfl rfl rfl rfl) ?_
  refine lj 2 R99_10_N rfl rfl rfl (opv_assign rfl rfl rfl) ?_
  refine aops_nil ?_
  exact ago_retE (rfl : C99_28 = .ret) (r := (IntKind.i64.wrap (n_2 + (IntKind.i64.wrap c1)))) (ares_1 rfl (oneT rfl)) rfl H
theorem S99_2_ok (Q : Int → AW → Prop) (E : List PanicEntry → AW → Prop)  (ρ : Env) (x_0 : Int) (n_2 : Int) (aw : AW) (h0 : ρ 0 = .int .u64 x_0) (h2 : ρ 2 = .int .i64 n_2) (H : S99_2 Q E  x_0 n_2 aw) :
    AGo prog 25 [.code C99_18] ρ [] aw (RR prog f99 25 sh99 Q E) := by
  unfold S99_2 at H
  refine ago_seqE (rfl : C99_18 = .seq C99_19 C99_26) ?_
  refine ago_seqE (rfl : C99_19 = .seq C99_20 C99_21) ?_
  refine ago_regE (rfl : C99_20 = .region 7 R99_7 false) (l := [0, 1]) rfl ?_
  refine lj 13 R99_7_N rfl rfl rfl (opv_move rfl rfl h0) ?_
  refine lj 14 R99_7_N rfl rfl rfl (opv_ge rfl rfl rfl rfl rfl) ?_
  refine aops_nil ?_
  refine ago_condE  (rfl : C99_21 = .cond (.tmp 14) C99_22 C99_25) rfl rfl (fun hb5 => ?_) (fun hb5 => ?_)
  · replace H := cnd_t H hb5
    refine ago_seqE (rfl : C99_22 = .seq C99_23 C99_24) ?_
    refine ago_regE (rfl : C99_23 = .region 8 R99_8 false) (l := [0, 1, 2]) rfl ?_
    refine lj 15 R99_8_N rfl rfl rfl (opv_move rfl rfl h0) ?_
    refine lj 16 R99_8_N rfl rfl rfl (opv_shr rfl rfl rfl rfl rfl (by decide)) ?_
    refine lj 0 R99_8_N rfl rfl rfl (opv_assign rfl rfl rfl) ?_
    refine aops_nil ?_
    refine ago_regE (rfl : C99_24 = .region 9 R99_9 false) (l := [0, 1, 2]) rfl ?_
    refine lj 17 R99_9_N rfl rfl rfl (opv_move rfl rfl h2) ?_
    refine lj 18 R99_9_N rfl rfl rfl (opv_add rfl rfl rfl rfl rfl) ?_
    refine lj 2 R99_9_N rfl rfl rfl (opv_assign rfl rfl rfl) ?_
    refine aops_nil ?_
    exact S99_3_ok Q E  _ (Int.fdiv x_0 (2 ^ (min (8 : Int).toNat IntKind.u64.bits))) (IntKind.i64.wrap (n_2 + 8)) aw rfl rfl H
  replace H := cnd_f H hb5
  refine ago_skipE (rfl : C99_25 = .skip) ?_
  exact S99_3_ok Q E  _ x_0 n_2 aw h0 h2 H
theorem S99_1_ok (Q : Int → AW → Prop) (E : List PanicEntry → AW → Prop)  (ρ : Env) (x_0 : Int) (n_2 : Int) (aw : AW) (h0 : ρ 0 = .int .u64 x_0) (h2 : ρ 2 = .int .i64 n_2) (H : S99_1 Q E  x_0 n_2 aw) :
    AGo prog 25 [.code C99_10] ρ [] aw (RR prog f99 25 sh99 Q E) := by
  unfold S99_1 at H
  refine ago_seqE (rfl : C99_10 = .seq C99_11 C99_18) ?_
  refine ago_seqE (rfl : C99_11 = .seq C99_12 C99_13) ?_
  refine ago_regE (rfl : C99_12 = .region 4 R99_4 false) (l := [0, 1]) rfl ?_
  refine lj 7 R99_4_N rfl rfl rfl (opv_move rfl rfl h0) ?_
  refine lj 8 R99_4_N rfl rfl rfl (opv_ge rfl rfl rfl rfl rfl) ?_
  refine aops_nil ?_
  refine ago_condE  (rfl : C99_13 = .cond (.tmp 8) C99_14 C99_17) rfl rfl (fun hb6 => ?_) (fun hb6 => ?_)
  · replace H := cnd_t H hb6
    refine ago_seqE (rfl : C99_14 = .seq C99_15 C99_16) ?_
    refine ago_regE (rfl : C99_15 = .region 5 R99_5 false) (l := [0, 1, 2]) rfl ?_
    refine lj 9 R99_5_N rfl rfl rfl (opv_move rfl rfl h0) ?_
    refine lj 10 R99_5_N rfl rfl rfl (opv_shr rfl rfl rfl rfl rfl (by decide)) ?_
    refine lj 0 R99_5_N rfl rfl rfl (opv_assign rfl rfl rfl) ?_
    refine aops_nil ?_
    refine ago_regE (rfl : C99_16 = .region 6 R99_6 false) (l := [0, 1, 2]) rfl ?_
    refine lj 11 R99_6_N rfl rfl rfl (opv_move rfl rfl h2) ?_
    refine lj 12 R99_6_N rfl rfl rfl (opv_add rfl rfl rfl rfl rfl) ?_
    refine lj 2 R99_6_N rfl rfl rfl (opv_assign rfl rfl rfl) ?_
    refine aops_nil ?_
    exact S99_2_ok Q E  _ (Int.fdiv x_0 (2 ^ (min (16 : Int).toNat IntKind.u64.bits))) (IntKind.i64.wrap (n_2 + 16)) aw rfl rfl H
  replace H := cnd_f H hb6
  refine ago_skipE (rfl : C99_17 = .skip) ?_
  exact S99_2_ok Q E  _ x_0 n_2 aw h0 h2 H
theorem S99_0_ok (Q : Int → AW → Prop) (E : List PanicEntry → AW → Prop)  (ρ : Env) (x_0 : Int) (aw : AW) (h0 : ρ 0 = .int .u64 x_0) (H : S99_0 Q E  x_0 aw) :
    AGo prog 25 [.code C99_0] ρ [] aw (RR prog f99 25 sh99 Q E) := by
  unfold S99_0 at H
  refine ago_seqE (rfl : C99_0 = .seq C99_1 C99_2) ?_
  refine ago_regE (rfl : C99_1 = .region 0 R99_0 false) (l := [0]) rfl ?_
  refine lj 2 R99_0_N rfl rfl rfl (opv_assign rfl rfl rfl) ?_
  refine aops_nil ?_
  refine ago_seqE (rfl : C99_2 = .seq C99_3 C99_10) ?_
  refine ago_seqE (rfl : C99_3 = .seq C99_4 C99_5) ?_
  refine ago_regE (rfl : C99_4 = .region 1 R99_1 false) (l := [0, 1]) rfl ?_
  refine lj 3 R99_1_N rfl rfl rfl (opv_move rfl rfl h0) ?_
  refine lj 4 R99_1_N rfl rfl rfl (opv_ge rfl rfl rfl rfl rfl) ?_
  refine aops_nil ?_
  refine ago_condE  (rfl : C99_5 = .cond (.tmp 4) C99_6 C99_9) rfl rfl (fun hb7 => ?_) (fun hb7 => ?_)
  · replace H := cnd_t H hb7
    refine ago_seqE (rfl : C99_6 = .seq C99_7 C99_8) ?_
    refine ago_regE (rfl : C99_7 = .region 2 R99_2 false) (l := [0, 1, 2]) rfl ?_
    refine lj 5 R99_2_N rfl rfl rfl (opv_move rfl rfl h0) ?_
    refine lj 6 R99_2_N rfl rfl rfl (opv_shr rfl rfl rfl rfl rfl (by decide)) ?_
    refine lj 0 R99_2_N rfl rfl rfl (opv_assign rfl rfl rfl) ?_
    refine aops_nil ?_
    refine ago_regE (rfl : C99_8 = .region 3 R99_3 false) (l := [0]) rfl ?_
    refine lj 2 R99_3_N rfl rfl rfl (opv_assign rfl rfl rfl) ?_
    refine aops_nil ?_
    exact S99_1_ok Q E  _ (Int.fdiv x_0 (2 ^ (min (32 : Int).toNat IntKind.u64.bits))) 32 aw rfl rfl H
  replace H := cnd_f H hb7
  refine ago_skipE (rfl : C99_9 = .skip) ?_
  exact S99_1_ok Q E  _ x_0 0 aw h0 rfl H
theorem F99_ok {Q : Int → AW → Prop} {E : List PanicEntry → AW → Prop} (x_0 : Int) (aw : AW) (H : S99_0 Q E x_0 aw) : CallP prog 99 [.int .u64 x_0] aw sh99 Q E :=
  callP_of func99 C99_is rfl (Nat.le_of_ble_eq_true rfl) (S99_0_ok Q E _ x_0 aw rfl H)
def C100_0 := bodyOf f100
theorem C100_is : f100.body = some C100_0 := by kernel_rfl
def C100_1 := cl C100_0
def R100_0 := regOps C100_1
def C100_2 := cr C100_0
def C100_3 := cl C100_2
def C100_4 := cl C100_3
def R100_1 := regOps C100_4
def C100_5 := cr C100_3
def C100_6 := cl C100_5
def C100_7 := cl C100_6
def R100_2 := regOps C100_7
def C100_8 := cr C100_6
def C100_9 := cr C100_5
def C100_10 := cr C100_2
def C100_11 := cl C100_10
def R100_3 := regOps C100_11
def C100_12 := cr C100_10
theorem R100_0_N : dstsOk 4 R100_0 = true := by decide +kernel
theorem R100_1_N : dstsOk 4 R100_1 = true := by decide +kernel
theorem R100_2_N : dstsOk 4 R100_2 = true := by decide +kernel
theorem R100_3_N : dstsOk 4 R100_3 = true := by decide +kernel
def S100_0 (Q : Int → AW → Prop) (E : List PanicEntry → AW → Prop)  (b_0 : Bool) (aw : AW) : Prop :=
  cnd b_0 (Q 1 aw) (Q 0 aw)
theorem S100_0_ok (Q : Int → AW → Prop) (E : List PanicEntry → AW → Prop)  (ρ : Env) (b_0 : Bool) (aw : AW) (h0 : ρ 0 = .bool b_0) (H : S100_0 Q E  b_0 aw) :
    AGo prog 4 [.code C100_0] ρ [] aw (RR prog f100 4 sh100 Q E) := by
  unfold S100_0 at H
  refine ago_seqE (rfl : C100_0 = .seq C100_1 C100_2) ?_
  refine ago_regE (rfl : C100_1 = .region 0 R100_0 false) (l := [0]) rfl ?_
  refine lj 2 R100_0_N rfl rfl rfl (opv_assign rfl rfl rfl) ?_
  refine aops_nil ?_
  refine ago_seqE (rfl : C100_2 = .seq C100_3 C100_10) ?_
  refine ago_seqE (rfl : C100_3 = .seq C100_4 C100_5) ?_
  refine ago_regE (rfl : C100_4 = .region 1 R100_1 false) (l := [0]) rfl ?_
  refine lj 3 R100_1_N rfl rfl rfl (opv_move rfl rfl h0) ?_
  refine aops_nil ?_
  refine ago_condE  (rfl : C100_5 = .cond (.tmp 3) C100_6 C100_9) rfl rfl (fun hb1 => ?_) (fun hb1 => ?_)
  · replace H := cnd_t H hb1
    refine ago_seqE (rfl : C100_6 = .seq C100_7 C100_8) ?_
    refine ago_regE (rfl : C100_7 = .region 2 R100_2 false) (l := [0]) rfl ?_
    refine lj 2 R100_2_N rfl rfl rfl (opv_assign rfl rfl rfl) ?_
    refine aops_nil ?_
    exact ago_retE (rfl : C100_8 = .ret) (r := 1) (ares_1 rfl (oneT rfl)) rfl H
  replace H := cnd_f H hb1
  refine ago_skipE (rfl : C100_9 = .skip) ?_
  refine ago_seqE (rfl : C100_10 = .seq C100_11 C100_12) ?_
  refine ago_regE (rfl : C100_11 = .region 3 R100_3 false) (l := [0]) rfl ?_
  refine lj 2 R100_3_N rfl rfl rfl (opv_assign rfl rfl rfl) ?_
  refine aops_nil ?_
  exact ago_retE (rfl : C100_12 = .ret) (r := 0) (ares_1 rfl (oneT rfl)) rfl H
theorem F100_ok {Q : Int → AW → Prop} {E : List PanicEntry → AW → Prop} (b_0 : Bool) (aw : AW) (H : S100_0 Q E b_0 aw) : CallP prog 100 [.bool b_0] aw sh100 Q E :=
  callP_of func100 C100_is rfl (Nat.le_of_ble_eq_true rfl) (S100_0_ok Q E _ b_0 aw rfl H)
end
end Go.Proofs.Tryd
