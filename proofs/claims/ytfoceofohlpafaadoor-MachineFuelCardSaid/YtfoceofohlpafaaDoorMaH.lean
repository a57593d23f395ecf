/- Printed by a program of the prover: what the Go functions of this seat do, in steps. -/
import Derived.Test.YtfoceofohlpafaaDoorMaF
set_option linter.unusedSectionVars false
set_option linter.unusedSimpArgs false
set_option linter.unusedVariables false
namespace Go.Proofs.Tryd
open Go Go.Am Go.RowKit
set_option maxHeartbeats 4000000
set_option maxRecDepth 100000
noncomputable section
variable [SymE]
def C32_0 : Code := bodyOf f32
theorem C32_is : f32.body = some C32_0 := by kernel_rfl
def C32_1 : Code := cl C32_0
def R32_0 : Array Oper := regOps C32_1
def C32_2 : Code := cr C32_0
def C32_3 : Code := cl C32_2
def R32_1 : Array Oper := regOps C32_3
def C32_4 : Code := cr C32_2
def C32_5 : Code := cl C32_4
def C32_6 : Code := cl C32_5
def R32_2 : Array Oper := regOps C32_6
def C32_7 : Code := cr C32_5
def C32_8 : Code := cl C32_7
def C32_9 : Code := cl C32_8
def C32_10 : Code := cl C32_9
def R32_3 : Array Oper := regOps C32_10
def C32_11 : Code := cr C32_9
def C32_12 : Code := cl C32_11
def C32_13 : Code := cl C32_12
def C32_14 : Code := cr C32_12
def C32_15 : Code := cr C32_11
def C32_16 : Code := cl C32_15
def C32_17 : Code := cl C32_16
def C32_18 : Code := cl C32_17
def R32_4 : Array Oper := regOps C32_18
def C32_19 : Code := cr C32_17
def C32_20 : Code := cl C32_19
def R32_5 : Array Oper := regOps C32_20
def C32_21 : Code := cr C32_19
def C32_22 : Code := cl C32_21
def R32_6 : Array Oper := regOps C32_22
def C32_23 : Code := cr C32_21
def C32_24 : Code := cl C32_23
def R32_7 : Array Oper := regOps C32_24
def C32_25 : Code := cr C32_23
def C32_26 : Code := cr C32_15
def R32_8 : Array Oper := regOps C32_26
def C32_27 : Code := cr C32_4
def C32_28 : Code := cl C32_27
def R32_9 : Array Oper := regOps C32_28
def C32_29 : Code := cr C32_27
def C32_30 : Code := cl C32_29
def C32_31 : Code := cl C32_30
def R32_10 : Array Oper := regOps C32_31
def C32_32 : Code := cr C32_30
def C32_33 : Code := cl C32_32
def C32_34 : Code := cl C32_33
def C32_35 : Code := cl C32_34
def R32_11 : Array Oper := regOps C32_35
def C32_36 : Code := cr C32_34
def C32_37 : Code := cl C32_36
def C32_38 : Code := cl C32_37
def C32_39 : Code := cr C32_37
def C32_40 : Code := cr C32_36
def C32_41 : Code := cl C32_40
def C32_42 : Code := cl C32_41
def C32_43 : Code := cl C32_42
def R32_12 : Array Oper := regOps C32_43
def C32_44 : Code := cr C32_42
def R32_13 : Array Oper := regOps C32_44
def C32_45 : Code := cr C32_40
def R32_14 : Array Oper := regOps C32_45
def C32_46 : Code := cr C32_29
def C32_47 : Code := cl C32_46
def R32_15 : Array Oper := regOps C32_47
def C32_48 : Code := cr C32_46
theorem R32_0_N : dstsOk 36 R32_0 = true := by decide +kernel
theorem E32_1 : C32_1 = .region 0 R32_0 false := rfl
theorem R32_1_N : dstsOk 36 R32_1 = true := by decide +kernel
theorem E32_3 : C32_3 = .region 1 R32_1 false := rfl
theorem R32_2_N : dstsOk 36 R32_2 = true := by decide +kernel
theorem E32_6 : C32_6 = .region 2 R32_2 false := rfl
theorem R32_3_N : dstsOk 36 R32_3 = true := by decide +kernel
theorem E32_10 : C32_10 = .region 3 R32_3 false := rfl
theorem E32_13 : C32_13 = .skip := rfl
theorem E32_14 : C32_14 = .exit 0 := rfl
theorem E32_12 : C32_12 = .cond (.tmp 12) C32_13 C32_14 := rfl
theorem R32_4_N : dstsOk 36 R32_4 = true := by decide +kernel
theorem E32_18 : C32_18 = .region 4 R32_4 false := rfl
theorem R32_5_N : dstsOk 36 R32_5 = true := by decide +kernel
theorem E32_20 : C32_20 = .region 5 R32_5 false := rfl
theorem R32_6_N : dstsOk 36 R32_6 = true := by decide +kernel
theorem E32_22 : C32_22 = .region 6 R32_6 false := rfl
theorem R32_7_N : dstsOk 36 R32_7 = true := by decide +kernel
theorem E32_24 : C32_24 = .region 7 R32_7 false := rfl
theorem E32_25 : C32_25 = .skip := rfl
theorem E32_23 : C32_23 = .cond (.tmp 20) C32_24 C32_25 := rfl
theorem E32_21 : C32_21 = .seq C32_22 C32_23 := rfl
theorem E32_19 : C32_19 = .seq C32_20 C32_21 := rfl
theorem E32_17 : C32_17 = .seq C32_18 C32_19 := rfl
theorem E32_16 : C32_16 = .block 1 C32_17 := rfl
theorem R32_8_N : dstsOk 36 R32_8 = true := by decide +kernel
theorem E32_26 : C32_26 = .region 8 R32_8 false := rfl
theorem E32_15 : C32_15 = .seq C32_16 C32_26 := rfl
theorem E32_11 : C32_11 = .seq C32_12 C32_15 := rfl
theorem E32_9 : C32_9 = .seq C32_10 C32_11 := rfl
theorem E32_8 : C32_8 = .loop C32_9 := rfl
theorem E32_7 : C32_7 = .block 0 C32_8 := rfl
theorem E32_5 : C32_5 = .seq C32_6 C32_7 := rfl
theorem R32_9_N : dstsOk 36 R32_9 = true := by decide +kernel
theorem E32_28 : C32_28 = .region 9 R32_9 false := rfl
theorem R32_10_N : dstsOk 36 R32_10 = true := by decide +kernel
theorem E32_31 : C32_31 = .region 10 R32_10 false := rfl
theorem R32_11_N : dstsOk 36 R32_11 = true := by decide +kernel
theorem E32_35 : C32_35 = .region 11 R32_11 false := rfl
theorem E32_38 : C32_38 = .skip := rfl
theorem E32_39 : C32_39 = .exit 2 := rfl
theorem E32_37 : C32_37 = .cond (.tmp 28) C32_38 C32_39 := rfl
theorem R32_12_N : dstsOk 36 R32_12 = true := by decide +kernel
theorem E32_43 : C32_43 = .region 12 R32_12 false := rfl
theorem R32_13_N : dstsOk 36 R32_13 = true := by decide +kernel
theorem E32_44 : C32_44 = .region 13 R32_13 false := rfl
theorem E32_42 : C32_42 = .seq C32_43 C32_44 := rfl
theorem E32_41 : C32_41 = .block 3 C32_42 := rfl
theorem R32_14_N : dstsOk 36 R32_14 = true := by decide +kernel
theorem E32_45 : C32_45 = .region 14 R32_14 false := rfl
theorem E32_40 : C32_40 = .seq C32_41 C32_45 := rfl
theorem E32_36 : C32_36 = .seq C32_37 C32_40 := rfl
theorem E32_34 : C32_34 = .seq C32_35 C32_36 := rfl
theorem E32_33 : C32_33 = .loop C32_34 := rfl
theorem E32_32 : C32_32 = .block 2 C32_33 := rfl
theorem E32_30 : C32_30 = .seq C32_31 C32_32 := rfl
theorem R32_15_N : dstsOk 36 R32_15 = true := by decide +kernel
theorem E32_47 : C32_47 = .region 15 R32_15 false := rfl
theorem E32_48 : C32_48 = .ret := rfl
theorem E32_46 : C32_46 = .seq C32_47 C32_48 := rfl
theorem E32_29 : C32_29 = .seq C32_30 C32_46 := rfl
theorem E32_27 : C32_27 = .seq C32_28 C32_29 := rfl
theorem E32_4 : C32_4 = .seq C32_5 C32_27 := rfl
theorem E32_2 : C32_2 = .seq C32_3 C32_4 := rfl
theorem E32_0 : C32_0 = .seq C32_1 C32_2 := rfl
def S32_2s (Q : Value → AW → Prop) (E : List PanicEntry → AW → Prop)  (nx2 : Value → Value → Int → Int → AW → Prop) (newslice_6 : Value) (t_25 : Value) (t_26 : Int) (t_27 : Int) (aw : AW) : Prop :=
  cnd (decide (t_27 < t_26)) (ixS t_25 t_27 1 fun p2 =>
  ldV aw p2 fun x14 =>
  app aw 43 2 32 newslice_6 x14 fun v16 aw17 =>
  nx2 v16 t_25 t_26 (IntKind.i64.wrap (t_27 + 1)) aw17) (Q newslice_6 aw)
def S32_2 (Q : Value → AW → Prop) (E : List PanicEntry → AW → Prop)  : Nat → Value → Value → Int → Int → AW → Prop
  | 0 => fun _ _ _ _ _ => False
  | n + 1 => S32_2s Q E  (S32_2 Q E  n)
def S32_1s (Q : Value → AW → Prop) (E : List PanicEntry → AW → Prop)  (nx1 : Value → Int → Value → Int → Int → AW → Prop) (slices_0 : Value) (size_3 : Int) (t_9 : Value) (t_10 : Int) (t_11 : Int) (aw : AW) : Prop :=
  cnd (decide (t_11 < t_10)) (ixS t_9 t_11 1 fun p20 =>
  ldV aw p20 fun x32 =>
  slen x32 fun n34 =>
  cnd (decide ((IntKind.i64.wrap (size_3 + n34)) < 0)) (E [⟨(.iface 9 (.string (⟨#[108, 101, 110, 32, 111, 117, 116, 32, 111, 102, 32, 114, 97, 110, 103, 101]⟩ : ByteArray))), false, false⟩] aw) (nx1 slices_0 (IntKind.i64.wrap (size_3 + n34)) t_9 t_10 (IntKind.i64.wrap (t_11 + 1)) aw)) (CallP prog 55 [(.slice none 0 0), .int .i64 size_3] aw sh55 (fun r41 aw42 =>
  slen slices_0 fun n43 =>
  ∃ n, S32_2 Q E  n r41 slices_0 n43 0 aw42) E)
def S32_1 (Q : Value → AW → Prop) (E : List PanicEntry → AW → Prop)  : Nat → Value → Int → Value → Int → Int → AW → Prop
  | 0 => fun _ _ _ _ _ _ => False
  | n + 1 => S32_1s Q E  (S32_1 Q E  n)
def S32_0 (Q : Value → AW → Prop) (E : List PanicEntry → AW → Prop)  (slices_0 : Value) (aw : AW) : Prop :=
  slen slices_0 fun n49 =>
  ∃ n, S32_1 Q E  n slices_0 0 slices_0 n49 0 aw
theorem S32_2s_ok (Q : Value → AW → Prop) (E : List PanicEntry → AW → Prop)  (nx2 : Value → Value → Int → Int → AW → Prop) (L2 : ∀ (ρ : Env) (newslice_6 : Value) (t_25 : Value) (t_26 : Int) (t_27 : Int) (aw : AW) (h6 : ρ 6 = newslice_6) (h25 : ρ 25 = t_25) (h26 : ρ 26 = .int .i64 t_26) (h27 : ρ 27 = .int .i64 t_27), nx2 newslice_6 t_25 t_26 t_27 aw → AGo prog 36 [.code C32_34, .inLoop C32_34, .inBlock 2, .code C32_46] ρ [] aw (RR prog f32 36 sh32 Q E)) (ρ : Env) (newslice_6 : Value) (t_25 : Value) (t_26 : Int) (t_27 : Int) (aw : AW) (h6 : ρ 6 = newslice_6) (h25 : ρ 25 = t_25) (h26 : ρ 26 = .int .i64 t_26) (h27 : ρ 27 = .int .i64 t_27) (H : S32_2s Q E  nx2 newslice_6 t_25 t_26 t_27 aw) :
    AGo prog 36 [.code C32_34, .inLoop C32_34, .inBlock 2, .code C32_46] ρ [] aw (RR prog f32 36 sh32 Q E) := by
  unfold S32_2s at H
  refine ago_seqE E32_34 ?_
  refine ago_regE E32_35 (l := [0]) rfl ?_
  refine lk (dt := some 28) R32_11_N rfl rfl rfl (opv_lt rfl rfl rfl h27 h26) ?_
  refine aops_nil ?_
  refine ago_seqE E32_36 ?_
  refine ago_condE  E32_37 rfl rfl (fun hb1 => ?_) (fun hb1 => ?_)
  · replace H := cnd_t H hb1
    refine ago_skipE E32_38 ?_
    refine ago_seqE E32_40 ?_
    refine ago_blockE E32_41 ?_
    refine ago_seqE E32_42 ?_
    refine ago_regE E32_43 (l := [0, 1, 2]) rfl ?_
    obtain ⟨b3, i4, l5, c6, p2, hp7, h08, hj9, hv10, H⟩ := H
    refine lk (dt := some 29) R32_12_N rfl rfl rfl (ov_ixS rfl rfl rfl underlying111 sz44 h25 h27 hp7 h08 hj9 hv10) ?_
    obtain ⟨b11, i12, x14, hp13, hg15, H⟩ := H
    refine lk (dt := some 30) R32_12_N rfl rfl rfl (ov_ldV rfl underlying44 rfl rfl rfl hp13 hg15) ?_
    refine lk (dt := some 8) R32_12_N rfl rfl rfl (opv_assign rfl rfl rfl) ?_
    refine aops_nil ?_
    refine ago_regE E32_44 (l := [0, 1, 2, 3]) rfl ?_
    refine lk (dt := some 31) R32_13_N rfl rfl rfl (opv_move rfl rfl h6) ?_
    refine lk (dt := some 32) R32_13_N rfl rfl rfl (opv_move rfl rfl rfl) ?_
    obtain ⟨v16, aw17, hq18, H⟩ := H
    refine lk (dt := some 33) R32_13_N rfl rfl rfl (ov_app rfl rfl rfl rfl underlying44 sz43 by43 underlying44 rfl z43 rfl (by decide) (by decide) rfl rfl hq18) ?_
    refine lk (dt := some 6) R32_13_N rfl rfl rfl (opv_assign rfl rfl rfl) ?_
    refine aops_nil ?_
    refine ago_inBlock ?_
    refine ago_regE E32_45 (l := [0, 1]) rfl ?_
    refine lk (dt := some 34) R32_14_N rfl rfl rfl (opv_add rfl rfl rfl h27 rfl) ?_
    refine lk (dt := some 27) R32_14_N rfl rfl rfl (opv_move rfl rfl rfl) ?_
    refine aops_nil ?_
    refine ago_inLoop ?_
    exact L2 _ v16 t_25 t_26 (IntKind.i64.wrap (t_27 + 1)) aw17 rfl h25 h26 rfl H
  · replace H := cnd_f H hb1
    refine ago_exitE E32_39 rfl ?_
    refine ago_seqE E32_46 ?_
    refine ago_regE E32_47 (l := [0, 1]) rfl ?_
    refine lk (dt := some 35) R32_15_N rfl rfl rfl (opv_move rfl rfl h6) ?_
    refine lk (dt := some 2) R32_15_N rfl rfl rfl (opv_assign rfl rfl rfl) ?_
    refine aops_nil ?_
    exact ago_retE E32_48 (r := newslice_6) (ares_1 rfl (oneT rfl)) rfl H
theorem S32_2_ok (Q : Value → AW → Prop) (E : List PanicEntry → AW → Prop)  : ∀ (n : Nat) (ρ : Env) (newslice_6 : Value) (t_25 : Value) (t_26 : Int) (t_27 : Int) (aw : AW) (h6 : ρ 6 = newslice_6) (h25 : ρ 25 = t_25) (h26 : ρ 26 = .int .i64 t_26) (h27 : ρ 27 = .int .i64 t_27), S32_2 Q E  n newslice_6 t_25 t_26 t_27 aw →
    AGo prog 36 [.code C32_34, .inLoop C32_34, .inBlock 2, .code C32_46] ρ [] aw (RR prog f32 36 sh32 Q E)
  | 0, _, _, _, _, _, _, _, _, _, _ => fun H => H.elim
  | n + 1, ρ, newslice_6, t_25, t_26, t_27, aw, h6, h25, h26, h27 => fun H => S32_2s_ok Q E  _ (S32_2_ok Q E  n) ρ newslice_6 t_25 t_26 t_27 aw h6 h25 h26 h27 H
theorem S32_1s_ok (Q : Value → AW → Prop) (E : List PanicEntry → AW → Prop)  (nx1 : Value → Int → Value → Int → Int → AW → Prop) (L1 : ∀ (ρ : Env) (slices_0 : Value) (size_3 : Int) (t_9 : Value) (t_10 : Int) (t_11 : Int) (aw : AW) (h0 : ρ 0 = slices_0) (h3 : ρ 3 = .int .i64 size_3) (h9 : ρ 9 = t_9) (h10 : ρ 10 = .int .i64 t_10) (h11 : ρ 11 = .int .i64 t_11), nx1 slices_0 size_3 t_9 t_10 t_11 aw → AGo prog 36 [.code C32_9, .inLoop C32_9, .inBlock 0, .code C32_27] ρ [] aw (RR prog f32 36 sh32 Q E)) (ρ : Env) (slices_0 : Value) (size_3 : Int) (t_9 : Value) (t_10 : Int) (t_11 : Int) (aw : AW) (h0 : ρ 0 = slices_0) (h3 : ρ 3 = .int .i64 size_3) (h9 : ρ 9 = t_9) (h10 : ρ 10 = .int .i64 t_10) (h11 : ρ 11 = .int .i64 t_11) (H : S32_1s Q E  nx1 slices_0 size_3 t_9 t_10 t_11 aw) :
    AGo prog 36 [.code C32_9, .inLoop C32_9, .inBlock 0, .code C32_27] ρ [] aw (RR prog f32 36 sh32 Q E) := by
  unfold S32_1s at H
  refine ago_seqE E32_9 ?_
  refine ago_regE E32_10 (l := [0]) rfl ?_
  refine lk (dt := some 12) R32_3_N rfl rfl rfl (opv_lt rfl rfl rfl h11 h10) ?_
  refine aops_nil ?_
  refine ago_seqE E32_11 ?_
  refine ago_condE  E32_12 rfl rfl (fun hb19 => ?_) (fun hb19 => ?_)
  · replace H := cnd_t H hb19
    refine ago_skipE E32_13 ?_
    refine ago_seqE E32_15 ?_
    refine ago_blockE E32_16 ?_
    refine ago_seqE E32_17 ?_
    refine ago_regE E32_18 (l := [0, 1, 2]) rfl ?_
    obtain ⟨b21, i22, l23, c24, p20, hp25, h026, hj27, hv28, H⟩ := H
    refine lk (dt := some 13) R32_4_N rfl rfl rfl (ov_ixS rfl rfl rfl underlying111 sz44 h9 h11 hp25 h026 hj27 hv28) ?_
    obtain ⟨b29, i30, x32, hp31, hg33, H⟩ := H
    refine lk (dt := some 14) R32_4_N rfl rfl rfl (ov_ldV rfl underlying44 rfl rfl rfl hp31 hg33) ?_
    refine lk (dt := some 5) R32_4_N rfl rfl rfl (opv_assign rfl rfl rfl) ?_
    refine aops_nil ?_
    refine ago_seqE E32_19 ?_
    refine ago_regE E32_20 (l := [0, 1, 2, 3, 4]) rfl ?_
    refine lk (dt := some 15) R32_5_N rfl rfl rfl (opv_move rfl rfl h3) ?_
    refine lk (dt := some 16) R32_5_N rfl rfl rfl (opv_move rfl rfl rfl) ?_
    obtain ⟨q35, l36, c37, n34, hv38, hn39, H⟩ := H
    refine lk (dt := some 17) R32_5_N rfl rfl rfl (ov_len rfl rfl rfl underlying44 rfl hv38 hn39) ?_
    refine lk (dt := some 18) R32_5_N rfl rfl rfl (opv_add rfl rfl rfl rfl rfl) ?_
    refine lk (dt := some 3) R32_5_N rfl rfl rfl (opv_assign rfl rfl rfl) ?_
    refine aops_nil ?_
    refine ago_seqE E32_21 ?_
    refine ago_regE E32_22 (l := [0, 1]) rfl ?_
    refine lk (dt := some 19) R32_6_N rfl rfl rfl (opv_move rfl rfl rfl) ?_
    refine lk (dt := some 20) R32_6_N rfl rfl rfl (opv_lt rfl rfl rfl rfl rfl) ?_
    refine aops_nil ?_
    refine ago_condE  E32_23 rfl rfl (fun hb40 => ?_) (fun hb40 => ?_)
    · replace H := cnd_t H hb40
      refine ago_regE E32_24 (l := [0, 1]) rfl ?_
      refine lk (dt := some 21) R32_7_N rfl rfl rfl (opv_mkIface rfl rfl underlying9 rfl rfl) ?_
      exact aops_panic R32_7_N rfl rfl (opp_panic rfl rfl rfl) ⟨rfl, H⟩
    · replace H := cnd_f H hb40
      refine ago_skipE E32_25 ?_
      refine ago_inBlock ?_
      refine ago_regE E32_26 (l := [0, 1]) rfl ?_
      refine lk (dt := some 22) R32_8_N rfl rfl rfl (opv_add rfl rfl rfl h11 rfl) ?_
      refine lk (dt := some 11) R32_8_N rfl rfl rfl (opv_move rfl rfl rfl) ?_
      refine aops_nil ?_
      refine ago_inLoop ?_
      exact L1 _ slices_0 (IntKind.i64.wrap (size_3 + n34)) t_9 t_10 (IntKind.i64.wrap (t_11 + 1)) aw h0 rfl h9 h10 rfl H
  · replace H := cnd_f H hb19
    refine ago_exitE E32_14 rfl ?_
    refine ago_seqE E32_27 ?_
    refine ago_regE E32_28 (l := [0, 1, 2]) rfl ?_
    refine lk (dt := some 23) R32_9_N rfl rfl rfl (opv_move rfl rfl h3) ?_
    refine lk_call (dt := some 24) R32_9_N rfl rfl rfl (opc_of rfl rfl is55 (ma_cons rfl (ma_cons rfl rfl))) H (fun _ _ h => ⟨rfl, h⟩) fun r41 aw42 H => ?_
    refine lk (dt := some 6) R32_9_N rfl rfl rfl (opv_assign rfl rfl rfl) ?_
    refine aops_nil ?_
    refine ago_seqE E32_29 ?_
    refine ago_seqE E32_30 ?_
    refine ago_regE E32_31 (l := [0, 1, 2]) rfl ?_
    refine lk (dt := some 25) R32_10_N rfl rfl rfl (opv_move rfl rfl h0) ?_
    obtain ⟨q44, l45, c46, n43, hv47, hn48, H⟩ := H
    refine lk (dt := some 26) R32_10_N rfl rfl rfl (ov_len rfl rfl rfl underlying111 rfl hv47 hn48) ?_
    refine lk (dt := some 27) R32_10_N rfl rfl rfl (opv_move rfl rfl rfl) ?_
    refine aops_nil ?_
    refine ago_blockE E32_32 ?_
    refine ago_loopE E32_33 ?_
    obtain ⟨n, H⟩ := H
    exact S32_2_ok Q E  n _ r41 slices_0 n43 0 aw42 rfl rfl rfl rfl H
theorem S32_1_ok (Q : Value → AW → Prop) (E : List PanicEntry → AW → Prop)  : ∀ (n : Nat) (ρ : Env) (slices_0 : Value) (size_3 : Int) (t_9 : Value) (t_10 : Int) (t_11 : Int) (aw : AW) (h0 : ρ 0 = slices_0) (h3 : ρ 3 = .int .i64 size_3) (h9 : ρ 9 = t_9) (h10 : ρ 10 = .int .i64 t_10) (h11 : ρ 11 = .int .i64 t_11), S32_1 Q E  n slices_0 size_3 t_9 t_10 t_11 aw →
    AGo prog 36 [.code C32_9, .inLoop C32_9, .inBlock 0, .code C32_27] ρ [] aw (RR prog f32 36 sh32 Q E)
  | 0, _, _, _, _, _, _, _, _, _, _, _, _ => fun H => H.elim
  | n + 1, ρ, slices_0, size_3, t_9, t_10, t_11, aw, h0, h3, h9, h10, h11 => fun H => S32_1s_ok Q E  _ (S32_1_ok Q E  n) ρ slices_0 size_3 t_9 t_10 t_11 aw h0 h3 h9 h10 h11 H
theorem S32_0_ok (Q : Value → AW → Prop) (E : List PanicEntry → AW → Prop)  (ρ : Env) (slices_0 : Value) (aw : AW) (h0 : ρ 0 = slices_0) (H : S32_0 Q E  slices_0 aw) :
    AGo prog 36 [.code C32_0] ρ [] aw (RR prog f32 36 sh32 Q E) := by
  unfold S32_0 at H
  refine ago_seqE E32_0 ?_
  refine ago_regE E32_1 (l := [0]) rfl ?_
  refine lk (dt := some 2) R32_0_N rfl rfl rfl (opv_assign rfl rfl rfl) ?_
  refine aops_nil ?_
  refine ago_seqE E32_2 ?_
  refine ago_regE E32_3 (l := [0]) rfl ?_
  refine lk (dt := some 3) R32_1_N rfl rfl rfl (opv_assign rfl rfl rfl) ?_
  refine aops_nil ?_
  refine ago_seqE E32_4 ?_
  refine ago_seqE E32_5 ?_
  refine ago_regE E32_6 (l := [0, 1, 2]) rfl ?_
  refine lk (dt := some 9) R32_2_N rfl rfl rfl (opv_move rfl rfl h0) ?_
  obtain ⟨q50, l51, c52, n49, hv53, hn54, H⟩ := H
  refine lk (dt := some 10) R32_2_N rfl rfl rfl (ov_len rfl rfl rfl underlying111 rfl hv53 hn54) ?_
  refine lk (dt := some 11) R32_2_N rfl rfl rfl (opv_move rfl rfl rfl) ?_
  refine aops_nil ?_
  refine ago_blockE E32_7 ?_
  refine ago_loopE E32_8 ?_
  obtain ⟨n, H⟩ := H
  exact S32_1_ok Q E  n _ slices_0 0 slices_0 n49 0 aw h0 rfl rfl rfl rfl H
theorem F32_ok {Q : Value → AW → Prop} {E : List PanicEntry → AW → Prop} (slices_0 : Value) (aw : AW) (H : S32_0 Q E slices_0 aw) : CallP prog 32 [slices_0] aw sh32 Q E :=
  callP_of func32 C32_is rfl (Nat.le_of_ble_eq_true rfl) (S32_0_ok Q E _ slices_0 aw rfl H)
end
end Go.Proofs.Tryd
