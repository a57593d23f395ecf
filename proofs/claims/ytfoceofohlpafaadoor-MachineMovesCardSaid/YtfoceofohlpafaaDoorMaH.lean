/- Printed by a program of the prover: what the Go functions of this seat do, in steps. -/
import Derived.Test.YtfoceofohlpafaaDoorMaF
set_option linter.unusedSectionVars false
set_option linter.unusedSimpArgs false
set_option linter.unusedVariables false
namespace Go.Proofs.Tryd
open Go Go.Am Go.RowKit
set_option maxHeartbeats 4000000
set_option maxRecDepth 100000
noncomputable section
variable [SymE]
def C32_0 := bodyOf f32
theorem C32_is : f32.body = some C32_0 := by kernel_rfl
def C32_1 := cl C32_0
def R32_0 := regOps C32_1
def C32_2 := cr C32_0
def C32_3 := cl C32_2
def R32_1 := regOps C32_3
def C32_4 := cr C32_2
def C32_5 := cl C32_4
def C32_6 := cl C32_5
def R32_2 := regOps C32_6
def C32_7 := cr C32_5
def C32_8 := cl C32_7
def C32_9 := cl C32_8
def C32_10 := cl C32_9
def R32_3 := regOps C32_10
def C32_11 := cr C32_9
def C32_12 := cl C32_11
def C32_13 := cl C32_12
def C32_14 := cr C32_12
def C32_15 := cr C32_11
def C32_16 := cl C32_15
def C32_17 := cl C32_16
def C32_18 := cl C32_17
def R32_4 := regOps C32_18
def C32_19 := cr C32_17
def C32_20 := cl C32_19
def R32_5 := regOps C32_20
def C32_21 := cr C32_19
def C32_22 := cl C32_21
def R32_6 := regOps C32_22
def C32_23 := cr C32_21
def C32_24 := cl C32_23
def R32_7 := regOps C32_24
def C32_25 := cr C32_23
def C32_26 := cr C32_15
def R32_8 := regOps C32_26
def C32_27 := cr C32_4
def C32_28 := cl C32_27
def R32_9 := regOps C32_28
def C32_29 := cr C32_27
def C32_30 := cl C32_29
def C32_31 := cl C32_30
def R32_10 := regOps C32_31
def C32_32 := cr C32_30
def C32_33 := cl C32_32
def C32_34 := cl C32_33
def C32_35 := cl C32_34
def R32_11 := regOps C32_35
def C32_36 := cr C32_34
def C32_37 := cl C32_36
def C32_38 := cl C32_37
def C32_39 := cr C32_37
def C32_40 := cr C32_36
def C32_41 := cl C32_40
def C32_42 := cl C32_41
def C32_43 := cl C32_42
def R32_12 := regOps C32_43
def C32_44 := cr C32_42
def R32_13 := regOps C32_44
def C32_45 := cr C32_40
def R32_14 := regOps C32_45
def C32_46 := cr C32_29
def C32_47 := cl C32_46
def R32_15 := regOps C32_47
def C32_48 := cr C32_46
theorem R32_0_N : dstsOk 36 R32_0 = true := by decide +kernel
theorem R32_1_N : dstsOk 36 R32_1 = true := by decide +kernel
theorem R32_2_N : dstsOk 36 R32_2 = true := by decide +kernel
theorem R32_3_N : dstsOk 36 R32_3 = true := by decide +kernel
theorem R32_4_N : dstsOk 36 R32_4 = true := by decide +kernel
theorem R32_5_N : dstsOk 36 R32_5 = true := by decide +kernel
theorem R32_6_N : dstsOk 36 R32_6 = true := by decide +kernel
theorem R32_7_N : dstsOk 36 R32_7 = true := by decide +kernel
theorem R32_8_N : dstsOk 36 R32_8 = true := by decide +kernel
theorem R32_9_N : dstsOk 36 R32_9 = true := by decide +kernel
theorem R32_10_N : dstsOk 36 R32_10 = true := by decide +kernel
theorem R32_11_N : dstsOk 36 R32_11 = true := by decide +kernel
theorem R32_12_N : dstsOk 36 R32_12 = true := by decide +kernel
theorem R32_13_N : dstsOk 36 R32_13 = true := by decide +kernel
theorem R32_14_N : dstsOk 36 R32_14 = true := by decide +kernel
theorem R32_15_N : dstsOk 36 R32_15 = true := by decide +kernel
def S32_2s (Q : Value → AW → Prop) (E : List PanicEntry → AW → Prop)  (nx2 : Value → Value → Int → Int → AW → Prop) (newslice_6 : Value) (t_25 : Value) (t_26 : Int) (t_27 : Int) (aw : AW) : Prop :=
  cnd (decide (t_27 < t_26)) (ixS t_25 t_27 1 fun p2 =>
  ldV aw p2 fun x14 =>
  app aw 43 2 32 newslice_6 x14 fun v16 aw17 =>
  nx2 v16 t_25 t_26 (IntKind.i64.wrap (t_27 + 1)) aw17) (Q newslice_6 aw)
def S32_2 (Q : Value → AW → Prop) (E : List PanicEntry → AW → Prop)  : Nat → Value → Value → Int → Int → AW → Prop
  | 0 => fun _ _ _ _ _ => False
  | n + 1 => S32_2s Q E  (S32_2 Q E  n)
def S32_1s (Q : Value → AW → Prop) (E : List PanicEntry → AW → Prop)  (nx1 : Value → Int → Value → Int → Int → AW → Prop) (slices_0 : Value) (size_3 : Int) (t_9 : Value) (t_10 : Int) (t_11 : Int) (aw : AW) : Prop :=
  cnd (decide (t_11 < t_10)) (ixS t_9 t_11 1 fun p20 =>
  ldV aw p20 fun x32 =>
  slen x32 fun n34 =>
  cnd (decide ((IntKind.i64.wrap (size_3 + n34)) < 0)) (E [⟨(.iface 9 (.string (⟨#[108, 101, 110, 32, 111, 117, 116, 32, 111, 102, 32, 114, 97, 110, 103, 101]⟩ : ByteArray))), false, false⟩] aw) (nx1 slices_0 (IntKind.i64.wrap (size_3 + n34)) t_9 t_10 (IntKind.i64.wrap (t_11 + 1)) aw)) (CallP prog 55 [(.slice none 0 0), .int .i64 size_3] aw sh55 (fun r41 aw42 =>
  slen slices_0 fun n43 =>
  ∃ n, S32_2 Q E  n r41 slices_0 n43 0 aw42) E)
def S32_1 (Q : Value → AW → Prop) (E : List PanicEntry → AW → Prop)  : Nat → Value → Int → Value → Int → Int → AW → Prop
  | 0 => fun _ _ _ _ _ _ => False
  | n + 1 => S32_1s Q E  (S32_1 Q E  n)
def S32_0 (Q : Value → AW → Prop) (E : List PanicEntry → AW → Prop)  (slices_0 : Value) (aw : AW) : Prop :=
  slen slices_0 fun n49 =>
  ∃ n, S32_1 Q E  n slices_0 0 slices_0 n49 0 aw
theorem S32_2s_ok (Q : Value → AW → Prop) (E : List PanicEntry → AW → Prop)  (nx2 : Value → Value → Int → Int → AW → Prop) (L2 : ∀ (ρ : Env) (newslice_6 : Value) (t_25 : Value) (t_26 : Int) (t_27 : Int) (aw : AW) (h6 : ρ 6 = newslice_6) (h25 : ρ 25 = t_25) (h26 : ρ 26 = .int .i64 t_26) (h27 : ρ 27 = .int .i64 t_27), nx2 newslice_6 t_25 t_26 t_27 aw → AGo prog 36 [.code C32_34, .inLoop C32_34, .inBlock 2, .code C32_46] ρ [] aw (RR prog f32 36 sh32 Q E)) (ρ : Env) (newslice_6 : Value) (t_25 : Value) (t_26 : Int) (t_27 : Int) (aw : AW) (h6 : ρ 6 = newslice_6) (h25 : ρ 25 = t_25) (h26 : ρ 26 = .int .i64 t_26) (h27 : ρ 27 = .int .i64 t_27) (H : S32_2s Q E  nx2 newslice_6 t_25 t_26 t_27 aw) :
    AGo prog 36 [.code C32_34, .inLoop C32_34, .inBlock 2, .code C32_46] ρ [] aw (RR prog f32 36 sh32 Q E) := by
  unfold S32_2s at H
  refine ago_seqE (rfl : C32_34 = .seq C32_35 C32_36) ?_
  refine ago_regE (rfl : C32_35 = .region 11 R32_11 false) (l := [0]) rfl ?_
  refine lj 28 R32_11_N rfl rfl rfl (opv_lt rfl rfl rfl h27 h26) ?_
  refine aops_nil ?_
  refine ago_seqE (rfl : C32_36 = .seq C32_37 C32_40) ?_
  refine ago_condE  (rfl : C32_37 = .cond (.tmp 28) C32_38 C32_39) rfl rfl (fun hb1 => ?_) (fun hb1 => ?_)
  · replace H := cnd_t H hb1
    refine ago_skipE (rfl : C32_38 = .skip) ?_
    refine ago_seqE (rfl : C32_40 = .seq C32_41 C32_45) ?_
    refine ago_blockE (rfl : C32_41 = .block 3 C32_42) ?_
    refine ago_seqE (rfl : C32_42 = .seq C32_43 C32_44) ?_
    refine ago_regE (rfl : C32_43 = .region 12 R32_12 false) (l := [0, 1, 2]) rfl ?_
    obtain ⟨b3, i4, l5, c6, p2, hp7, h08, hj9, hv10, H⟩ := H
    refine lj 29 R32_12_N rfl rfl rfl (ov_ixS rfl rfl rfl underlying111 sz44 h25 h27 hp7 h08 hj9 hv10) ?_
    obtain ⟨b11, i12, x14, hp13, hg15, H⟩ := H
    refine lj 30 R32_12_N rfl rfl rfl (ov_ldV rfl underlying44 rfl rfl rfl hp13 hg15) ?_
    refine lj 8 R32_12_N rfl rfl rfl (opv_assign rfl rfl rfl) ?_
    refine aops_nil ?_
    refine ago_regE (rfl : C32_44 = .region 13 R32_13 false) (l := [0, 1, 2, 3]) rfl ?_
    refine lj 31 R32_13_N rfl rfl rfl (opv_move rfl rfl h6) ?_
    refine lj 32 R32_13_N rfl rfl rfl (opv_move rfl rfl rfl) ?_
    obtain ⟨v16, aw17, hq18, H⟩ := H
    refine lj 33 R32_13_N rfl rfl rfl (ov_app rfl rfl rfl rfl underlying44 sz43 by43 underlying44 rfl z43 rfl (by decide) (by decide) rfl rfl hq18) ?_
    refine lj 6 R32_13_N rfl rfl rfl (opv_assign rfl rfl rfl) ?_
    refine aops_nil ?_
    refine ago_inBlock ?_
    refine ago_regE (rfl : C32_45 = .region 14 R32_14 false) (l := [0, 1]) rfl ?_
    refine lj 34 R32_14_N rfl rfl rfl (opv_add rfl rfl rfl h27 rfl) ?_
    refine lj 27 R32_14_N rfl rfl rfl (opv_move rfl rfl rfl) ?_
    refine aops_nil ?_
    refine ago_inLoop ?_
    exact L2 _ v16 t_25 t_26 (IntKind.i64.wrap (t_27 + 1)) aw17 rfl h25 h26 rfl H
  replace H := cnd_f H hb1
  refine ago_exitE (rfl : C32_39 = .exit 2) rfl ?_
  refine ago_seqE (rfl : C32_46 = .seq C32_47 C32_48) ?_
  refine ago_regE (rfl : C32_47 = .region 15 R32_15 false) (l := [0, 1]) rfl ?_
  refine lj 35 R32_15_N rfl rfl rfl (opv_move rfl rfl h6) ?_
  refine lj 2 R32_15_N rfl rfl rfl (opv_assign rfl rfl rfl) ?_
  refine aops_nil ?_
  exact ago_retE (rfl : C32_48 = .ret) (r := newslice_6) (ares_1 rfl (oneT rfl)) rfl H
theorem S32_2_ok (Q : Value → AW → Prop) (E : List PanicEntry → AW → Prop)  : ∀ (n : Nat) (ρ : Env) (newslice_6 : Value) (t_25 : Value) (t_26 : Int) (t_27 : Int) (aw : AW) (h6 : ρ 6 = newslice_6) (h25 : ρ 25 = t_25) (h26 : ρ 26 = .int .i64 t_26) (h27 : ρ 27 = .int .i64 t_27), S32_2 Q E  n newslice_6 t_25 t_26 t_27 aw →
    AGo prog 36 [.code C32_34, .inLoop C32_34, .inBlock 2, .code C32_46] ρ [] aw (RR prog f32 36 sh32 Q E)
  | 0, _, _, _, _, _, _, _, _, _, _ => fun H => H.elim
  | n + 1, ρ, newslice_6, t_25, t_26, t_27, aw, h6, h25, h26, h27 => fun H => S32_2s_ok Q E  _ (S32_2_ok Q E  n) ρ newslice_6 t_25 t_26 t_27 aw h6 h25 h26 h27 H
theorem S32_1s_ok (Q : Value → AW → Prop) (E : List PanicEntry → AW → Prop)  (nx1 : Value → Int → Value → Int → Int → AW → Prop) (L1 : ∀ (ρ : Env) (slices_0 : Value) (size_3 : Int) (t_9 : Value) (t_10 : Int) (t_11 : Int) (aw : AW) (h0 : ρ 0 = slices_0) (h3 : ρ 3 = .int .i64 size_3) (h9 : ρ 9 = t_9) (h10 : ρ 10 = .int .i64 t_10) (h11 : ρ 11 = .int .i64 t_11), nx1 slices_0 size_3 t_9 t_10 t_11 aw → AGo prog 36 [.code C32_9, .inLoop C32_9, .inBlock 0, .code C32_27] ρ [] aw (RR prog f32 36 sh32 Q E)) (ρ : Env) (slices_0 : Value) (size_3 : Int) (t_9 : Value) (t_10 : Int) (t_11 : Int) (aw : AW) (h0 : ρ 0 = slices_0) (h3 : ρ 3 = .int .i64 size_3) (h9 : ρ 9 = t_9) (h10 : ρ 10 = .int .i64 t_10) (h11 : ρ 11 = .int .i64 t_11) (H : S32_1s Q E  nx1 slices_0 size_3 t_9 t_10 t_11 aw) :
    AGo prog 36 [.code C32_9, .inLoop C32_9, .inBlock 0, .code C32_27] ρ [] aw (RR prog f32 36 sh32 Q E) := by
  unfold S32_1s at H
  refine ago_seqE (rfl : C32_9 = .seq C32_10 C32_11) ?_
  refine ago_regE (rfl : C32_10 = .region 3 R32_3 false) (l := [0]) rfl ?_
  refine lj 12 R32_3_N rfl rfl rfl (opv_lt rfl rfl rfl h11 h10) ?_
  refine aops_nil ?_
  refine ago_seqE (rfl : C32_11 = .seq C32_12 C32_15) ?_
  refine ago_condE  (rfl : C32_12 = .cond (.tmp 12) C32_13 C32_14) rfl rfl (fun hb19 => ?_) (fun hb19 => ?_)
  · replace H := cnd_t H hb19
    refine ago_skipE (rfl : C32_13 = .skip) ?_
    refine ago_seqE (rfl : C32_15 = .seq C32_16 C32_26) ?_
    refine ago_blockE (rfl : C32_16 = .block 1 C32_17) ?_
    refine ago_seqE (rfl : C32_17 = .seq C32_18 C32_19) ?_
    refine ago_regE (rfl : C32_18 = .region 4 R32_4 false) (l := [0, 1, 2]) rfl ?_
    obtain ⟨b21, i22, l23, c24, p20, hp25, h026, hj27, hv28, H⟩ := H
    refine lj 13 R32_4_N rfl rfl rfl (ov_ixS rfl rfl rfl underlying111 sz44 h9 h11 hp25 h026 hj27 hv28) ?_
    obtain ⟨b29, i30, x32, hp31, hg33, H⟩ := H
    refine lj 14 R32_4_N rfl rfl rfl (ov_ldV rfl underlying44 rfl rfl rfl hp31 hg33) ?_
    refine lj 5 R32_4_N rfl rfl rfl (opv_assign rfl rfl rfl) ?_
    refine aops_nil ?_
    refine ago_seqE (rfl : C32_19 = .seq C32_20 C32_21) ?_
    refine ago_regE (rfl : C32_20 = .region 5 R32_5 false) (l := [0, 1, 2, 3, 4]) rfl ?_
    refine lj 15 R32_5_N rfl rfl rfl (opv_move rfl rfl h3) ?_
    refine lj 16 R32_5_N rfl rfl rfl (opv_move rfl rfl rfl) ?_
    obtain ⟨q35, l36, c37, n34, hv38, hn39, H⟩ := H
    refine lj 17 R32_5_N rfl rfl rfl (ov_len rfl rfl rfl underlying44 rfl hv38 hn39) ?_
    refine lj 18 R32_5_N rfl rfl rfl (opv_add rfl rfl rfl rfl rfl) ?_
    refine lj 3 R32_5_N rfl rfl rfl (opv_assign rfl rfl rfl) ?_
    refine aops_nil ?_
    refine ago_seqE (rfl : C32_21 = .seq C32_22 C32_23) ?_
    refine ago_regE (rfl : C32_22 = .region 6 R32_6 false) (l := [0, 1]) rfl ?_
    refine lj 19 R32_6_N rfl rfl rfl (opv_move rfl rfl rfl) ?_
    refine lj 20 R32_6_N rfl rfl rfl (opv_lt rfl rfl rfl rfl rfl) ?_
    refine aops_nil ?_
    refine ago_condE  (rfl : C32_23 = .cond (.tmp 20) C32_24 C32_25) rfl rfl (fun hb40 => ?_) (fun hb40 => ?_)
    · replace H := cnd_t H hb40
      refine ago_regE (rfl : C32_24 = .region 7 R32_7 false) (l := [0, 1]) rfl ?_
      refine lj 21 R32_7_N rfl rfl rfl (opv_mkIface rfl rfl underlying9 rfl rfl) ?_
      exact aops_panic R32_7_N rfl rfl (opp_panic rfl rfl rfl) ⟨rfl, H⟩
    replace H := cnd_f H hb40
    refine ago_skipE (rfl : C32_25 = .skip) ?_
    refine ago_inBlock ?_
    refine ago_regE (rfl : C32_26 = .region 8 R32_8 false) (l := [0, 1]) rfl ?_
    refine lj 22 R32_8_N rfl rfl rfl (opv_add rfl rfl rfl h11 rfl) ?_
    refine lj 11 R32_8_N rfl rfl rfl (opv_move rfl rfl rfl) ?_
    refine aops_nil ?_
    refine ago_inLoop ?_
    exact L1 _ slices_0 (IntKind.i64.wrap (size_3 + n34)) t_9 t_10 (IntKind.i64.wrap (t_11 + 1)) aw h0 rfl h9 h10 rfl H
  replace H := cnd_f H hb19
  refine ago_exitE (rfl : C32_14 = .exit 0) rfl ?_
  refine ago_seqE (rfl : C32_27 = .seq C32_28 C32_29) ?_
  refine ago_regE (rfl : C32_28 = .region 9 R32_9 false) (l := [0, 1, 2]) rfl ?_
  refine lj 23 R32_9_N rfl rfl rfl (opv_move rfl rfl h3) ?_
  refine lc 24 R32_9_N rfl rfl rfl (opc_of rfl rfl is55 (ma_cons rfl (ma_cons rfl rfl))) H (fun _ _ h => ⟨rfl, h⟩) fun r41 aw42 H => ?_
  refine lj 6 R32_9_N rfl rfl rfl (opv_assign rfl rfl rfl) ?_
  refine aops_nil ?_
  refine ago_seqE (rfl : C32_29 = .seq C32_30 C32_46) ?_
  refine ago_seqE (rfl : C32_30 = .seq C32_31 C32_32) ?_
  refine ago_regE (rfl : C32_31 = .region 10 R32_10 false) (l := [0, 1, 2]) rfl ?_
  refine lj 25 R32_10_N rfl rfl rfl (opv_move rfl rfl h0) ?_
  obtain ⟨q44, l45, c46, n43, hv47, hn48, H⟩ := H
  refine lj 26 R32_10_N rfl rfl rfl (ov_len rfl rfl rfl underlying111 rfl hv47 hn48) ?_
  refine lj 27 R32_10_N rfl rfl rfl (opv_move rfl rfl rfl) ?_
  refine aops_nil ?_
  refine ago_blockE (rfl : C32_32 = .block 2 C32_33) ?_
  refine ago_loopE (rfl : C32_33 = .loop C32_34) ?_
  obtain ⟨n, H⟩ := H
  exact S32_2_ok Q E  n _ r41 slices_0 n43 0 aw42 rfl rfl rfl rfl H
theorem S32_1_ok (Q : Value → AW → Prop) (E : List PanicEntry → AW → Prop)  : ∀ (n : Nat) (ρ : Env) (slices_0 : Value) (size_3 : Int) (t_9 : Value) (t_10 : Int) (t_11 : Int) (aw : AW) (h0 : ρ 0 = slices_0) (h3 : ρ 3 = .int .i64 size_3) (h9 : ρ 9 = t_9) (h10 : ρ 10 = .int .i64 t_10) (h11 : ρ 11 = .int .i64 t_11), S32_1 Q E  n slices_0 size_3 t_9 t_10 t_11 aw →
    AGo prog 36 [.code C32_9, .inLoop C32_9, .inBlock 0, .code C32_27] ρ [] aw (RR prog f32 36 sh32 Q E)
  | 0, _, _, _, _, _, _, _, _, _, _, _, _ => fun H => H.elim
  | n + 1, ρ, slices_0, size_3, t_9, t_10, t_11, aw, h0, h3, h9, h10, h11 => fun H => S32_1s_ok Q E  _ (S32_1_ok Q E  n) ρ slices_0 size_3 t_9 t_10 t_11 aw h0 h3 h9 h10 h11 H
theorem S32_0_ok (Q : Value → AW → Prop) (E : List PanicEntry → AW → Prop)  (ρ : Env) (slices_0 : Value) (aw : AW) (h0 : ρ 0 = slices_0) (H : S32_0 Q E  slices_0 aw) :
    AGo prog 36 [.code C32_0] ρ [] aw (RR prog f32 36 sh32 Q E) := by
  unfold S32_0 at H
  refine ago_seqE (rfl : C32_0 = .seq C32_1 C32_2) ?_
  refine ago_regE (rfl : C32_1 = .region 0 R32_0 false) (l := [0]) rfl ?_
  refine lj 2 R32_0_N rfl rfl rfl (opv_assign rfl rfl rfl) ?_
  refine aops_nil ?_
  refine ago_seqE (rfl : C32_2 = .seq C32_3 C32_4) ?_
  refine ago_regE (rfl : C32_3 = .region 1 R32_1 false) (l := [0]) rfl ?_
  refine lj 3 R32_1_N rfl rfl rfl (opv_assign rfl rfl rfl) ?_
  refine aops_nil ?_
  refine ago_seqE (rfl : C32_4 = .seq C32_5 C32_27) ?_
  refine ago_seqE (rfl : C32_5 = .seq C32_6 C32_7) ?_
  refine ago_regE (rfl : C32_6 = .region 2 R32_2 false) (l := [0, 1, 2]) rfl ?_
  refine lj 9 R32_2_N rfl rfl rfl (opv_move rfl rfl h0) ?_
  obtain ⟨q50, l51, c52, n49, hv53, hn54, H⟩ := H
  refine lj 10 R32_2_N rfl rfl rfl (ov_len rfl rfl rfl underlying111 rfl hv53 hn54) ?_
  refine lj 11 R32_2_N rfl rfl rfl (opv_move rfl rfl rfl) ?_
  refine aops_nil ?_
  refine ago_blockE (rfl : C32_7 = .block 0 C32_8) ?_
  refine ago_loopE (rfl : C32_8 = .loop C32_9) ?_
  obtain ⟨n, H⟩ := H
  exact S32_1_ok Q E  n _ slices_0 0 slices_0 n49 0 aw h0 rfl rfl rfl rfl H
theorem F32_ok {Q : Value → AW → Prop} {E : List PanicEntry → AW → Prop} (slices_0 : Value) (aw : AW) (H : S32_0 Q E slices_0 aw) : CallP prog 32 [slices_0] aw sh32 Q E :=
  callP_of func32 C32_is rfl (Nat.le_of_ble_eq_true rfl) (S32_0_ok Q E _ slices_0 aw rfl H)
def C88_0 := bodyOf f88
theorem C88_is : f88.body = some C88_0 := by kernel_rfl
def C88_1 := cl C88_0
def R88_0 := regOps C88_1
def C88_2 := cr C88_0
def C88_3 := cl C88_2
def R88_1 := regOps C88_3
def C88_4 := cr C88_2
def C88_5 := cl C88_4
def R88_2 := regOps C88_5
def C88_6 := cr C88_4
def C88_7 := cl C88_6
def R88_3 := regOps C88_7
def C88_8 := cr C88_6
theorem R88_0_N : dstsOk 19 R88_0 = true := by decide +kernel
theorem R88_1_N : dstsOk 19 R88_1 = true := by decide +kernel
theorem R88_2_N : dstsOk 19 R88_2 = true := by decide +kernel
theorem R88_3_N : dstsOk 19 R88_3 = true := by decide +kernel
def S88_0 (Q : (Int × Value) → AW → Prop) (E : List PanicEntry → AW → Prop)  (b_0 : Value) (s_1 : ByteArray) (aw : AW) : Prop :=
  CallP prog 92 [b_0] aw sh92 (fun r1 aw2 =>
  nck b_0 (fldA b_0 1 fun p4 =>
  ldV aw2 p4 fun x12 =>
  app aw2 5 1 1 x12 (.string s_1) fun v14 aw15 =>
  nck b_0 (fldA b_0 1 fun p18 =>
  st aw15 p18 [v14] fun aw23 =>
  Q ((s_1.size : Int), (.nilIface )) aw23))) E
theorem S88_0_ok (Q : (Int × Value) → AW → Prop) (E : List PanicEntry → AW → Prop)  (ρ : Env) (b_0 : Value) (s_1 : ByteArray) (aw : AW) (h0 : ρ 0 = b_0) (h1 : ρ 1 = .string s_1) (H : S88_0 Q E  b_0 s_1 aw) :
    AGo prog 19 [.code C88_0] ρ [] aw (RR prog f88 19 sh88 Q E) := by
  unfold S88_0 at H
  refine ago_seqE (rfl : C88_0 = .seq C88_1 C88_2) ?_
  refine ago_regE (rfl : C88_1 = .region 0 R88_0 false) (l := [0, 1]) rfl ?_
  refine lj 4 R88_0_N rfl rfl rfl (opv_assign rfl rfl rfl) ?_
  refine lj 5 R88_0_N rfl rfl rfl (opv_assign rfl rfl rfl) ?_
  refine aops_nil ?_
  refine ago_seqE (rfl : C88_2 = .seq C88_3 C88_4) ?_
  refine ago_regE (rfl : C88_3 = .region 1 R88_1 false) (l := [0, 1]) rfl ?_
  refine lj 6 R88_1_N rfl rfl rfl (opv_move rfl rfl h0) ?_
  refine lc 7 R88_1_N rfl rfl rfl (opc_of rfl rfl is92 (ma_cons rfl rfl)) H (fun _ _ h => ⟨rfl, h⟩) fun r1 aw2 H => ?_
  refine aops_nil ?_
  refine ago_seqE (rfl : C88_4 = .seq C88_5 C88_6) ?_
  refine ago_regE (rfl : C88_5 = .region 2 R88_2 false) (l := [0, 1, 2, 3, 4, 5, 6, 7, 8, 9]) rfl ?_
  refine lj 8 R88_2_N rfl rfl rfl (opv_move rfl rfl h0) ?_
  refine lj 9 R88_2_N rfl rfl rfl (opv_move rfl rfl h0) ?_
  obtain ⟨hp3, H⟩ := H
  refine lj 10 R88_2_N rfl rfl rfl (ov_nck rfl rfl rfl hp3) ?_
  obtain ⟨b5, i6, p4, hp7, hv8, H⟩ := H
  refine lj 11 R88_2_N rfl rfl rfl (ov_fldA rfl rfl underlying75 rfl sz73 (by decide) rfl hp7 rfl hv8) ?_
  obtain ⟨b9, i10, x12, hp11, hg13, H⟩ := H
  refine lj 12 R88_2_N rfl rfl rfl (ov_ldV rfl underlying73 rfl rfl rfl hp11 hg13) ?_
  refine lj 13 R88_2_N rfl rfl rfl (opv_move rfl rfl h1) ?_
  obtain ⟨v14, aw15, hq16, H⟩ := H
  refine lj 14 R88_2_N rfl rfl rfl (ov_app rfl rfl rfl rfl underlying73 sz5 by5 underlying9 rfl z5 rfl (by decide) (by decide) rfl rfl hq16) ?_
  obtain ⟨hp17, H⟩ := H
  refine lj 15 R88_2_N rfl rfl rfl (ov_nck rfl rfl rfl hp17) ?_
  obtain ⟨b19, i20, p18, hp21, hv22, H⟩ := H
  refine lj 16 R88_2_N rfl rfl rfl (ov_fldA rfl rfl underlying75 rfl sz73 (by decide) rfl hp21 rfl hv22) ?_
  obtain ⟨b24, i25, aw23, hp26, hw27, ho28, ha29, H⟩ := H
  refine lk (dt := none) R88_2_N rfl rfl rfl (ov_st rfl rfl rfl rfl rfl (cells_all ho28) sz73 hp26 hw27 ho28 ha29) ?_
  refine aops_nil ?_
  refine ago_seqE (rfl : C88_6 = .seq C88_7 C88_8) ?_
  refine ago_cut (fun ρ => ρ 1 = .string s_1 ∧ True) ⟨h1, trivial⟩ (fun ρ ⟨h1, _⟩ => ?_)
  refine ago_regE (rfl : C88_7 = .region 3 R88_3 false) (l := [0, 1, 2, 3]) rfl ?_
  refine lj 17 R88_3_N rfl rfl rfl (opv_move rfl rfl h1) ?_
  refine lj 18 R88_3_N rfl rfl rfl (opv_lenS rfl rfl rfl underlying9 rfl) ?_
  refine lj 4 R88_3_N rfl rfl rfl (opv_assign rfl rfl rfl) ?_
  refine lj 5 R88_3_N rfl rfl rfl (opv_assign rfl rfl rfl) ?_
  refine aops_nil ?_
  exact ago_retE (rfl : C88_8 = .ret) (r := ((s_1.size : Int), (.nilIface ))) (ares_2 rfl (oneT rfl) (oneT rfl)) rfl H
theorem F88_ok {Q : (Int × Value) → AW → Prop} {E : List PanicEntry → AW → Prop} (b_0 : Value) (s_1 : ByteArray) (aw : AW) (H : S88_0 Q E b_0 s_1 aw) : CallP prog 88 [b_0, .string s_1] aw sh88 Q E :=
  callP_of func88 C88_is rfl (Nat.le_of_ble_eq_true rfl) (S88_0_ok Q E _ b_0 s_1 aw rfl rfl H)
def C89_0 := bodyOf f89
theorem C89_is : f89.body = some C89_0 := by kernel_rfl
def C89_1 := cl C89_0
def R89_0 := regOps C89_1
def C89_2 := cr C89_0
def C89_3 := cl C89_2
def R89_1 := regOps C89_3
def C89_4 := cr C89_2
theorem R89_0_N : dstsOk 8 R89_0 = true := by decide +kernel
theorem R89_1_N : dstsOk 8 R89_1 = true := by decide +kernel
def S89_0 (Q : Int → AW → Prop) (E : List PanicEntry → AW → Prop)  (b_0 : Value) (aw : AW) : Prop :=
  nck b_0 (fldA b_0 1 fun p2 =>
  ldV aw p2 fun x10 =>
  slen x10 fun n12 =>
  Q n12 aw)
theorem S89_0_ok (Q : Int → AW → Prop) (E : List PanicEntry → AW → Prop)  (ρ : Env) (b_0 : Value) (aw : AW) (h0 : ρ 0 = b_0) (H : S89_0 Q E  b_0 aw) :
    AGo prog 8 [.code C89_0] ρ [] aw (RR prog f89 8 sh89 Q E) := by
  unfold S89_0 at H
  refine ago_seqE (rfl : C89_0 = .seq C89_1 C89_2) ?_
  refine ago_regE (rfl : C89_1 = .region 0 R89_0 false) (l := [0]) rfl ?_
  refine lj 2 R89_0_N rfl rfl rfl (opv_assign rfl rfl rfl) ?_
  refine aops_nil ?_
  refine ago_seqE (rfl : C89_2 = .seq C89_3 C89_4) ?_
  refine ago_regE (rfl : C89_3 = .region 1 R89_1 false) (l := [0, 1, 2, 3, 4, 5]) rfl ?_
  refine lj 3 R89_1_N rfl rfl rfl (opv_move rfl rfl h0) ?_
  obtain ⟨hp1, H⟩ := H
  refine lj 4 R89_1_N rfl rfl rfl (ov_nck rfl rfl rfl hp1) ?_
  obtain ⟨b3, i4, p2, hp5, hv6, H⟩ := H
  refine lj 5 R89_1_N rfl rfl rfl (ov_fldA rfl rfl underlying75 rfl sz73 (by decide) rfl hp5 rfl hv6) ?_
  obtain ⟨b7, i8, x10, hp9, hg11, H⟩ := H
  refine lj 6 R89_1_N rfl rfl rfl (ov_ldV rfl underlying73 rfl rfl rfl hp9 hg11) ?_
  obtain ⟨q13, l14, c15, n12, hv16, hn17, H⟩ := H
  refine lj 7 R89_1_N rfl rfl rfl (ov_len rfl rfl rfl underlying73 rfl hv16 hn17) ?_
  refine lj 2 R89_1_N rfl rfl rfl (opv_assign rfl rfl rfl) ?_
  refine aops_nil ?_
  exact ago_retE (rfl : C89_4 = .ret) (r := n12) (ares_1 rfl (oneT rfl)) rfl H
theorem F89_ok {Q : Int → AW → Prop} {E : List PanicEntry → AW → Prop} (b_0 : Value) (aw : AW) (H : S89_0 Q E b_0 aw) : CallP prog 89 [b_0] aw sh89 Q E :=
  callP_of func89 C89_is rfl (Nat.le_of_ble_eq_true rfl) (S89_0_ok Q E _ b_0 aw rfl H)
def C92_0 := bodyOf f92
theorem C92_is : f92.body = some C92_0 := by kernel_rfl
def C92_1 := cl C92_0
def R92_0 := regOps C92_1
def C92_2 := cr C92_0
def C92_3 := cl C92_2
def R92_1 := regOps C92_3
def C92_4 := cr C92_2
def C92_5 := cl C92_4
def R92_2 := regOps C92_5
def C92_6 := cr C92_4
def C92_7 := cl C92_6
def C92_8 := cr C92_6
theorem R92_0_N : dstsOk 20 R92_0 = true := by decide +kernel
theorem R92_1_N : dstsOk 20 R92_1 = true := by decide +kernel
theorem R92_2_N : dstsOk 20 R92_2 = true := by decide +kernel
def S92_0 (Q : Unit → AW → Prop) (E : List PanicEntry → AW → Prop)  (b_0 : Value) (aw : AW) : Prop :=
  nck b_0 (fldA b_0 0 fun p2 =>
  ldV aw p2 fun x10 =>
  nilB (.pointer 75) x10 (.pointer none) fun q12 =>
  cnd q12 (Lies prog aw 75 2 b_0 ∧ Lies prog aw 75 2 b_0 ∧ nck b_0 (fldA b_0 0 fun p19 =>
  st aw p19 [b_0] fun aw24 =>
  Q () aw24)) (nck b_0 (fldA b_0 0 fun p32 =>
  ldV aw p32 fun x40 =>
  (x40 = b_0 ∧ ∃ b i, x40 = .pointer (some ⟨b, i, none⟩)) ∧ Q () aw)))
theorem S92_0_ok (Q : Unit → AW → Prop) (E : List PanicEntry → AW → Prop)  (ρ : Env) (b_0 : Value) (aw : AW) (h0 : ρ 0 = b_0) (H : S92_0 Q E  b_0 aw) :
    AGo prog 20 [.code C92_0] ρ [] aw (RR prog f92 20 sh92 Q E) := by
  unfold S92_0 at H
  refine ago_seqE (rfl : C92_0 = .seq C92_1 C92_2) ?_
  refine ago_regE (rfl : C92_1 = .region 0 R92_0 false) (l := [0, 1, 2, 3, 4]) rfl ?_
  refine lj 2 R92_0_N rfl rfl rfl (opv_move rfl rfl h0) ?_
  obtain ⟨hp1, H⟩ := H
  refine lj 3 R92_0_N rfl rfl rfl (ov_nck rfl rfl rfl hp1) ?_
  obtain ⟨b3, i4, p2, hp5, hv6, H⟩ := H
  refine lj 4 R92_0_N rfl rfl rfl (ov_fldA rfl rfl underlying75 rfl sz72 (by decide) rfl hp5 rfl hv6) ?_
  obtain ⟨b7, i8, x10, hp9, hg11, H⟩ := H
  refine lj 5 R92_0_N rfl rfl rfl (ov_ldV rfl underlying72 rfl rfl rfl hp9 hg11) ?_
  obtain ⟨q12, hf13, hq14, H⟩ := H
  refine lj 6 R92_0_N rfl rfl rfl (ov_eqNil rfl rfl underlying72 rfl hf13 hq14) ?_
  refine aops_nil ?_
  refine ago_condE  (rfl : C92_2 = .cond (.tmp 6) C92_3 C92_4) rfl rfl (fun hb15 => ?_) (fun hb15 => ?_)
  · replace H := cnd_t H hb15
    refine ago_regE (rfl : C92_3 = .region 1 R92_1 false) (l := [0, 1, 2, 3, 4, 5, 6, 7]) rfl ?_
    refine lj 7 R92_1_N rfl rfl rfl (opv_move rfl rfl h0) ?_
    refine lj 8 R92_1_N rfl rfl rfl (opv_move rfl rfl h0) ?_
    obtain ⟨hp16, H⟩ := H
    refine lj 9 R92_1_N rfl rfl rfl (ov_toL rfl rfl underlying72 underlying159 sz75 rfl hp16) ?_
    refine lj 10 R92_1_N rfl rfl rfl (ov_noEsc rfl rfl ext97 (ma_cons rfl rfl)) ?_
    obtain ⟨hp17, H⟩ := H
    refine lj 11 R92_1_N rfl rfl rfl (ov_fromL rfl rfl underlying159 underlying72 sz75 rfl hp17) ?_
    obtain ⟨hp18, H⟩ := H
    refine lj 12 R92_1_N rfl rfl rfl (ov_nck rfl rfl rfl hp18) ?_
    obtain ⟨b20, i21, p19, hp22, hv23, H⟩ := H
    refine lj 13 R92_1_N rfl rfl rfl (ov_fldA rfl rfl underlying75 rfl sz72 (by decide) rfl hp22 rfl hv23) ?_
    obtain ⟨b25, i26, aw24, hp27, hw28, ho29, ha30, H⟩ := H
    refine lk (dt := none) R92_1_N rfl rfl rfl (ov_st rfl rfl rfl rfl rfl (cells_all ho29) sz72 hp27 hw28 ho29 ha30) ?_
    refine aops_nil ?_
    exact ago_nilR (r := ()) (ares_0 rfl ) rfl H
  replace H := cnd_f H hb15
  refine ago_seqE (rfl : C92_4 = .seq C92_5 C92_6) ?_
  refine ago_regE (rfl : C92_5 = .region 2 R92_2 false) (l := [0, 1, 2, 3, 4, 5]) rfl ?_
  refine lj 14 R92_2_N rfl rfl rfl (opv_move rfl rfl h0) ?_
  obtain ⟨hp31, H⟩ := H
  refine lj 15 R92_2_N rfl rfl rfl (ov_nck rfl rfl rfl hp31) ?_
  obtain ⟨b33, i34, p32, hp35, hv36, H⟩ := H
  refine lj 16 R92_2_N rfl rfl rfl (ov_fldA rfl rfl underlying75 rfl sz72 (by decide) rfl hp35 rfl hv36) ?_
  obtain ⟨b37, i38, x40, hp39, hg41, H⟩ := H
  refine lj 17 R92_2_N rfl rfl rfl (ov_ldV rfl underlying72 rfl rfl rfl hp39 hg41) ?_
  refine lj 18 R92_2_N rfl rfl rfl (opv_move rfl rfl h0) ?_
  obtain ⟨hq42, H⟩ := H
  refine lj 19 R92_2_N rfl rfl rfl (ov_nePS rfl rfl rfl underlying72 sz75 rfl rfl hq42) ?_
  refine aops_nil ?_
  refine ago_condE  (rfl : C92_6 = .cond (.tmp 19) C92_7 C92_8) rfl rfl (fun h => ft h) (fun h => ?_)
  refine ago_skipE (rfl : C92_8 = .skip) ?_
  exact ago_nilR (r := ()) (ares_0 rfl ) rfl H
theorem F92_ok {Q : Unit → AW → Prop} {E : List PanicEntry → AW → Prop} (b_0 : Value) (aw : AW) (H : S92_0 Q E b_0 aw) : CallP prog 92 [b_0] aw sh92 Q E :=
  callP_of func92 C92_is rfl (Nat.le_of_ble_eq_true rfl) (S92_0_ok Q E _ b_0 aw rfl H)
end
end Go.Proofs.Tryd
