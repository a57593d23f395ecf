/- Printed by a program of the prover: what the Go functions of this seat do, in steps. -/
import Derived.Test.YtfdfakapkhflcaaBaF
set_option linter.unusedSectionVars false
set_option linter.unusedSimpArgs false
set_option linter.unusedVariables false
namespace Go.Proofs.Try
open Go Go.Am Go.RowKit
set_option maxHeartbeats 4000000
set_option maxRecDepth 100000
noncomputable section
variable [SymE]
def C51_0 : Code := bodyOf f51
theorem C51_is : f51.body = some C51_0 := by kernel_rfl
def C51_1 : Code := cl C51_0
def R51_0 : Array Oper := regOps C51_1
def C51_2 : Code := cr C51_0
def C51_3 : Code := cl C51_2
def R51_1 : Array Oper := regOps C51_3
def C51_4 : Code := cr C51_2
def C51_5 : Code := cl C51_4
def C51_6 : Code := cl C51_5
def C51_7 : Code := cl C51_6
def C51_8 : Code := cl C51_7
def C51_9 : Code := cl C51_8
def R51_2 : Array Oper := regOps C51_9
def C51_10 : Code := cr C51_8
def C51_11 : Code := cl C51_10
def C51_12 : Code := cr C51_10
def C51_13 : Code := cr C51_7
def C51_14 : Code := cl C51_13
def C51_15 : Code := cl C51_14
def R51_3 : Array Oper := regOps C51_15
def C51_16 : Code := cr C51_14
def R51_4 : Array Oper := regOps C51_16
def C51_17 : Code := cr C51_4
def C51_18 : Code := cl C51_17
def R51_5 : Array Oper := regOps C51_18
def C51_19 : Code := cr C51_17
def C51_20 : Code := cl C51_19
def C51_21 : Code := cl C51_20
def R51_6 : Array Oper := regOps C51_21
def C51_22 : Code := cr C51_20
def C51_23 : Code := cl C51_22
def C51_24 : Code := cl C51_23
def C51_25 : Code := cl C51_24
def C51_26 : Code := cl C51_25
def R51_7 : Array Oper := regOps C51_26
def C51_27 : Code := cr C51_25
def C51_28 : Code := cl C51_27
def C51_29 : Code := cr C51_27
def C51_30 : Code := cr C51_24
def C51_31 : Code := cl C51_30
def C51_32 : Code := cl C51_31
def R51_9 : Array Oper := regOps C51_32
def C51_33 : Code := cr C51_30
def R51_8 : Array Oper := regOps C51_33
def C51_34 : Code := cr C51_19
def C51_35 : Code := cl C51_34
def R51_10 : Array Oper := regOps C51_35
def C51_36 : Code := cr C51_34
theorem R51_0_N : dstsOk 35 R51_0 = true := by decide +kernel
theorem E51_1 : C51_1 = .region 0 R51_0 false := rfl
theorem R51_1_N : dstsOk 35 R51_1 = true := by decide +kernel
theorem E51_3 : C51_3 = .region 1 R51_1 false := rfl
theorem R51_2_N : dstsOk 35 R51_2 = true := by decide +kernel
theorem E51_9 : C51_9 = .region 2 R51_2 false := rfl
theorem E51_11 : C51_11 = .skip := rfl
theorem E51_12 : C51_12 = .exit 0 := rfl
theorem E51_10 : C51_10 = .cond (.tmp 7) C51_11 C51_12 := rfl
theorem E51_8 : C51_8 = .seq C51_9 C51_10 := rfl
theorem R51_3_N : dstsOk 35 R51_3 = true := by decide +kernel
theorem E51_15 : C51_15 = .region 3 R51_3 false := rfl
theorem R51_4_N : dstsOk 35 R51_4 = true := by decide +kernel
theorem E51_16 : C51_16 = .region 4 R51_4 false := rfl
theorem E51_14 : C51_14 = .seq C51_15 C51_16 := rfl
theorem E51_13 : C51_13 = .block 1 C51_14 := rfl
theorem E51_7 : C51_7 = .seq C51_8 C51_13 := rfl
theorem E51_6 : C51_6 = .loop C51_7 := rfl
theorem E51_5 : C51_5 = .block 0 C51_6 := rfl
theorem R51_5_N : dstsOk 35 R51_5 = true := by decide +kernel
theorem E51_18 : C51_18 = .region 5 R51_5 false := rfl
theorem R51_6_N : dstsOk 35 R51_6 = true := by decide +kernel
theorem E51_21 : C51_21 = .region 6 R51_6 false := rfl
theorem R51_7_N : dstsOk 35 R51_7 = true := by decide +kernel
theorem E51_26 : C51_26 = .region 7 R51_7 false := rfl
theorem E51_28 : C51_28 = .skip := rfl
theorem E51_29 : C51_29 = .exit 2 := rfl
theorem E51_27 : C51_27 = .cond (.tmp 24) C51_28 C51_29 := rfl
theorem E51_25 : C51_25 = .seq C51_26 C51_27 := rfl
theorem R51_9_N : dstsOk 35 R51_9 = true := by decide +kernel
theorem E51_32 : C51_32 = .region 9 R51_9 false := rfl
theorem E51_31 : C51_31 = .block 3 C51_32 := rfl
theorem R51_8_N : dstsOk 35 R51_8 = true := by decide +kernel
theorem E51_33 : C51_33 = .region 8 R51_8 false := rfl
theorem E51_30 : C51_30 = .seq C51_31 C51_33 := rfl
theorem E51_24 : C51_24 = .seq C51_25 C51_30 := rfl
theorem E51_23 : C51_23 = .loop C51_24 := rfl
theorem E51_22 : C51_22 = .block 2 C51_23 := rfl
theorem E51_20 : C51_20 = .seq C51_21 C51_22 := rfl
theorem R51_10_N : dstsOk 35 R51_10 = true := by decide +kernel
theorem E51_35 : C51_35 = .region 10 R51_10 false := rfl
theorem E51_36 : C51_36 = .ret := rfl
theorem E51_34 : C51_34 = .seq C51_35 C51_36 := rfl
theorem E51_19 : C51_19 = .seq C51_20 C51_34 := rfl
theorem E51_17 : C51_17 = .seq C51_18 C51_19 := rfl
theorem E51_4 : C51_4 = .seq C51_5 C51_17 := rfl
theorem E51_2 : C51_2 = .seq C51_3 C51_4 := rfl
theorem E51_0 : C51_0 = .seq C51_1 C51_2 := rfl
def S51_2s (Q : Value → AW → Prop) (E : List PanicEntry → AW → Prop)  (nx2 : Value → Value → Int → AW → Prop) (low_3 : Value) (p_4 : Value) (i_5 : Int) (aw : AW) : Prop :=
  cnd (decide (0 ≤ i_5)) (ixS low_3 i_5 1 fun p2 =>
  ldI .u8 aw p2 fun x14 =>
  alcS aw [.int .u8 x14] 5 1 1 fun p16 aw17 =>
  app aw17 5 1 1 p_4 p16 fun v20 aw21 =>
  nx2 low_3 v20 (IntKind.i64.wrap (i_5 - 1)) aw21) (Q p_4 aw)
def S51_2 (Q : Value → AW → Prop) (E : List PanicEntry → AW → Prop)  : Nat → Value → Value → Int → AW → Prop
  | 0 => fun _ _ _ _ => False
  | n + 1 => S51_2s Q E  (S51_2 Q E  n)
def S51_1s (Q : Value → AW → Prop) (E : List PanicEntry → AW → Prop)  (nx1 : Int → Value → AW → Prop) (n_0 : Int) (low_3 : Value) (aw : AW) : Prop :=
  cnd (decide (0 < n_0)) (alcS aw [.int .u8 (IntKind.u8.wrap (Int.tmod n_0 256))] 5 1 1 fun p24 aw25 =>
  app aw25 5 1 1 low_3 p24 fun v28 aw29 =>
  nx1 (IntKind.u64.wrap (Int.tdiv n_0 256)) v28 aw29) (slen low_3 fun n31 =>
  alcS aw [.int .u8 (IntKind.u8.wrap n31)] 5 1 1 fun p37 aw38 =>
  slen low_3 fun n41 =>
  ∃ n, S51_2 Q E  n low_3 p37 (IntKind.i64.wrap (n41 - 1)) aw38)
def S51_1 (Q : Value → AW → Prop) (E : List PanicEntry → AW → Prop)  : Nat → Int → Value → AW → Prop
  | 0 => fun _ _ _ => False
  | n + 1 => S51_1s Q E  (S51_1 Q E  n)
def S51_0 (Q : Value → AW → Prop) (E : List PanicEntry → AW → Prop)  (n_0 : Int) (aw : AW) : Prop :=
  ∃ n, S51_1 Q E  n n_0 (.slice none 0 0) aw
theorem S51_2s_ok (Q : Value → AW → Prop) (E : List PanicEntry → AW → Prop)  (nx2 : Value → Value → Int → AW → Prop) (L2 : ∀ (ρ : Env) (low_3 : Value) (p_4 : Value) (i_5 : Int) (aw : AW) (h3 : ρ 3 = low_3) (h4 : ρ 4 = p_4) (h5 : ρ 5 = .int .i64 i_5), nx2 low_3 p_4 i_5 aw → AGo prog 35 [.code C51_24, .inLoop C51_24, .inBlock 2, .code C51_34] ρ [] aw (RR prog f51 35 sh51 Q E)) (ρ : Env) (low_3 : Value) (p_4 : Value) (i_5 : Int) (aw : AW) (h3 : ρ 3 = low_3) (h4 : ρ 4 = p_4) (h5 : ρ 5 = .int .i64 i_5) (H : S51_2s Q E  nx2 low_3 p_4 i_5 aw) :
    AGo prog 35 [.code C51_24, .inLoop C51_24, .inBlock 2, .code C51_34] ρ [] aw (RR prog f51 35 sh51 Q E) := by
  unfold S51_2s at H
  refine ago_seqE E51_24 ?_
  refine ago_seqE E51_25 ?_
  refine ago_regE E51_26 (l := [0, 1]) rfl ?_
  refine lk (dt := some 23) R51_7_N rfl rfl rfl (opv_move rfl rfl h5) ?_
  refine lk (dt := some 24) R51_7_N rfl rfl rfl (opv_ge rfl rfl rfl rfl rfl) ?_
  refine aops_nil ?_
  refine ago_condE  E51_27 rfl rfl (fun hb1 => ?_) (fun hb1 => ?_)
  · replace H := cnd_t H hb1
    refine ago_skipE E51_28 ?_
    refine ago_seqE E51_30 ?_
    refine ago_blockE E51_31 ?_
    refine ago_regE E51_32 (l := [0, 1, 2, 3, 4, 5, 6, 7]) rfl ?_
    refine lk (dt := some 27) R51_9_N rfl rfl rfl (opv_move rfl rfl h4) ?_
    refine lk (dt := some 28) R51_9_N rfl rfl rfl (opv_move rfl rfl h3) ?_
    refine lk (dt := some 29) R51_9_N rfl rfl rfl (opv_move rfl rfl h5) ?_
    obtain ⟨b3, i4, l5, c6, p2, hp7, h08, hj9, hv10, H⟩ := H
    refine lk (dt := some 30) R51_9_N rfl rfl rfl (ov_ixS rfl rfl rfl underlying25 sz5 rfl rfl hp7 h08 hj9 hv10) ?_
    obtain ⟨b11, i12, x14, hp13, hg15, H⟩ := H
    refine lk (dt := some 31) R51_9_N rfl rfl rfl (ov_ldI rfl underlying5 rfl rfl hp13 hg15) ?_
    obtain ⟨p16, aw17, hp18, ha19, H⟩ := H
    refine lk (dt := some 32) R51_9_N rfl rfl rfl (ov_bsA (r := [.int .u8 x14]) (vs := [.int .u8 x14]) rfl rfl underlying25 sz5 z5 rfl rfl rfl rfl rfl (mp_cons rfl rfl) (.one rfl .nil) hp18 ha19) ?_
    obtain ⟨v20, aw21, hq22, H⟩ := H
    refine lk (dt := some 33) R51_9_N rfl rfl rfl (ov_app rfl rfl rfl rfl underlying25 sz5 by5 underlying25 rfl z5 rfl (by decide) (by decide) rfl rfl hq22) ?_
    refine lk (dt := some 4) R51_9_N rfl rfl rfl (opv_assign rfl rfl rfl) ?_
    refine aops_nil ?_
    refine ago_inBlock ?_
    refine ago_regE E51_33 (l := [0, 1, 2]) rfl ?_
    refine lk (dt := some 25) R51_8_N rfl rfl rfl (opv_move rfl rfl h5) ?_
    refine lk (dt := some 26) R51_8_N rfl rfl rfl (opv_sub rfl rfl rfl rfl rfl) ?_
    refine lk (dt := some 5) R51_8_N rfl rfl rfl (opv_assign rfl rfl rfl) ?_
    refine aops_nil ?_
    refine ago_inLoop ?_
    exact L2 _ low_3 v20 (IntKind.i64.wrap (i_5 - 1)) aw21 h3 rfl rfl H
  · replace H := cnd_f H hb1
    refine ago_exitE E51_29 rfl ?_
    refine ago_seqE E51_34 ?_
    refine ago_regE E51_35 (l := [0, 1]) rfl ?_
    refine lk (dt := some 34) R51_10_N rfl rfl rfl (opv_move rfl rfl h4) ?_
    refine lk (dt := some 2) R51_10_N rfl rfl rfl (opv_assign rfl rfl rfl) ?_
    refine aops_nil ?_
    exact ago_retE E51_36 (r := p_4) (ares_1 rfl (oneT rfl)) rfl H
theorem S51_2_ok (Q : Value → AW → Prop) (E : List PanicEntry → AW → Prop)  : ∀ (n : Nat) (ρ : Env) (low_3 : Value) (p_4 : Value) (i_5 : Int) (aw : AW) (h3 : ρ 3 = low_3) (h4 : ρ 4 = p_4) (h5 : ρ 5 = .int .i64 i_5), S51_2 Q E  n low_3 p_4 i_5 aw →
    AGo prog 35 [.code C51_24, .inLoop C51_24, .inBlock 2, .code C51_34] ρ [] aw (RR prog f51 35 sh51 Q E)
  | 0, _, _, _, _, _, _, _, _ => fun H => H.elim
  | n + 1, ρ, low_3, p_4, i_5, aw, h3, h4, h5 => fun H => S51_2s_ok Q E  _ (S51_2_ok Q E  n) ρ low_3 p_4 i_5 aw h3 h4 h5 H
theorem S51_1s_ok (Q : Value → AW → Prop) (E : List PanicEntry → AW → Prop)  (nx1 : Int → Value → AW → Prop) (L1 : ∀ (ρ : Env) (n_0 : Int) (low_3 : Value) (aw : AW) (h0 : ρ 0 = .int .u64 n_0) (h3 : ρ 3 = low_3), nx1 n_0 low_3 aw → AGo prog 35 [.code C51_7, .inLoop C51_7, .inBlock 0, .code C51_17] ρ [] aw (RR prog f51 35 sh51 Q E)) (ρ : Env) (n_0 : Int) (low_3 : Value) (aw : AW) (h0 : ρ 0 = .int .u64 n_0) (h3 : ρ 3 = low_3) (H : S51_1s Q E  nx1 n_0 low_3 aw) :
    AGo prog 35 [.code C51_7, .inLoop C51_7, .inBlock 0, .code C51_17] ρ [] aw (RR prog f51 35 sh51 Q E) := by
  unfold S51_1s at H
  refine ago_seqE E51_7 ?_
  refine ago_seqE E51_8 ?_
  refine ago_regE E51_9 (l := [0, 1]) rfl ?_
  refine lk (dt := some 6) R51_2_N rfl rfl rfl (opv_move rfl rfl h0) ?_
  refine lk (dt := some 7) R51_2_N rfl rfl rfl (opv_gt rfl rfl rfl rfl rfl) ?_
  refine aops_nil ?_
  refine ago_condE  E51_10 rfl rfl (fun hb23 => ?_) (fun hb23 => ?_)
  · replace H := cnd_t H hb23
    refine ago_skipE E51_11 ?_
    refine ago_blockE E51_13 ?_
    refine ago_seqE E51_14 ?_
    refine ago_regE E51_15 (l := [0, 1, 2, 3, 4, 5, 6]) rfl ?_
    refine lk (dt := some 8) R51_3_N rfl rfl rfl (opv_move rfl rfl h3) ?_
    refine lk (dt := some 9) R51_3_N rfl rfl rfl (opv_move rfl rfl h0) ?_
    refine lk (dt := some 10) R51_3_N rfl rfl rfl (opv_rem rfl rfl rfl rfl rfl (by decide)) ?_
    refine lk (dt := some 11) R51_3_N rfl rfl rfl (opv_conv rfl rfl underlying24 underlying5 rfl) ?_
    obtain ⟨p24, aw25, hp26, ha27, H⟩ := H
    refine lk (dt := some 12) R51_3_N rfl rfl rfl (ov_bsA (r := [.int .u8 (IntKind.u8.wrap (Int.tmod n_0 256))]) (vs := [.int .u8 (IntKind.u8.wrap (Int.tmod n_0 256))]) rfl rfl underlying25 sz5 z5 rfl rfl rfl rfl rfl (mp_cons rfl rfl) (.one rfl .nil) hp26 ha27) ?_
    obtain ⟨v28, aw29, hq30, H⟩ := H
    refine lk (dt := some 13) R51_3_N rfl rfl rfl (ov_app rfl rfl rfl rfl underlying25 sz5 by5 underlying25 rfl z5 rfl (by decide) (by decide) rfl rfl hq30) ?_
    refine lk (dt := some 3) R51_3_N rfl rfl rfl (opv_assign rfl rfl rfl) ?_
    refine aops_nil ?_
    refine ago_regE E51_16 (l := [0, 1, 2]) rfl ?_
    refine lk (dt := some 14) R51_4_N rfl rfl rfl (opv_move rfl rfl h0) ?_
    refine lk (dt := some 15) R51_4_N rfl rfl rfl (opv_quo rfl rfl rfl rfl rfl (by decide)) ?_
    refine lk (dt := some 0) R51_4_N rfl rfl rfl (opv_assign rfl rfl rfl) ?_
    refine aops_nil ?_
    refine ago_inBlock ?_
    refine ago_inLoop ?_
    exact L1 _ (IntKind.u64.wrap (Int.tdiv n_0 256)) v28 aw29 rfl rfl H
  · replace H := cnd_f H hb23
    refine ago_exitE E51_12 rfl ?_
    refine ago_seqE E51_17 ?_
    refine ago_regE E51_18 (l := [0, 1, 2, 3, 4]) rfl ?_
    refine lk (dt := some 16) R51_5_N rfl rfl rfl (opv_move rfl rfl h3) ?_
    obtain ⟨q32, l33, c34, n31, hv35, hn36, H⟩ := H
    refine lk (dt := some 17) R51_5_N rfl rfl rfl (ov_len rfl rfl rfl underlying25 rfl hv35 hn36) ?_
    refine lk (dt := some 18) R51_5_N rfl rfl rfl (opv_conv rfl rfl underlying3 underlying5 rfl) ?_
    obtain ⟨p37, aw38, hp39, ha40, H⟩ := H
    refine lk (dt := some 19) R51_5_N rfl rfl rfl (ov_bsA (r := [.int .u8 (IntKind.u8.wrap n31)]) (vs := [.int .u8 (IntKind.u8.wrap n31)]) rfl rfl underlying25 sz5 z5 rfl rfl rfl rfl rfl (mp_cons rfl rfl) (.one rfl .nil) hp39 ha40) ?_
    refine lk (dt := some 4) R51_5_N rfl rfl rfl (opv_assign rfl rfl rfl) ?_
    refine aops_nil ?_
    refine ago_seqE E51_19 ?_
    refine ago_seqE E51_20 ?_
    refine ago_regE E51_21 (l := [0, 1, 2, 3]) rfl ?_
    refine lk (dt := some 20) R51_6_N rfl rfl rfl (opv_move rfl rfl h3) ?_
    obtain ⟨q42, l43, c44, n41, hv45, hn46, H⟩ := H
    refine lk (dt := some 21) R51_6_N rfl rfl rfl (ov_len rfl rfl rfl underlying25 rfl hv45 hn46) ?_
    refine lk (dt := some 22) R51_6_N rfl rfl rfl (opv_sub rfl rfl rfl rfl rfl) ?_
    refine lk (dt := some 5) R51_6_N rfl rfl rfl (opv_assign rfl rfl rfl) ?_
    refine aops_nil ?_
    refine ago_blockE E51_22 ?_
    refine ago_loopE E51_23 ?_
    obtain ⟨n, H⟩ := H
    exact S51_2_ok Q E  n _ low_3 p37 (IntKind.i64.wrap (n41 - 1)) aw38 h3 rfl rfl H
theorem S51_1_ok (Q : Value → AW → Prop) (E : List PanicEntry → AW → Prop)  : ∀ (n : Nat) (ρ : Env) (n_0 : Int) (low_3 : Value) (aw : AW) (h0 : ρ 0 = .int .u64 n_0) (h3 : ρ 3 = low_3), S51_1 Q E  n n_0 low_3 aw →
    AGo prog 35 [.code C51_7, .inLoop C51_7, .inBlock 0, .code C51_17] ρ [] aw (RR prog f51 35 sh51 Q E)
  | 0, _, _, _, _, _, _ => fun H => H.elim
  | n + 1, ρ, n_0, low_3, aw, h0, h3 => fun H => S51_1s_ok Q E  _ (S51_1_ok Q E  n) ρ n_0 low_3 aw h0 h3 H
theorem S51_0_ok (Q : Value → AW → Prop) (E : List PanicEntry → AW → Prop)  (ρ : Env) (n_0 : Int) (aw : AW) (h0 : ρ 0 = .int .u64 n_0) (H : S51_0 Q E  n_0 aw) :
    AGo prog 35 [.code C51_0] ρ [] aw (RR prog f51 35 sh51 Q E) := by
  unfold S51_0 at H
  refine ago_seqE E51_0 ?_
  refine ago_regE E51_1 (l := [0]) rfl ?_
  refine lk (dt := some 2) R51_0_N rfl rfl rfl (opv_assign rfl rfl rfl) ?_
  refine aops_nil ?_
  refine ago_seqE E51_2 ?_
  refine ago_regE E51_3 (l := [0]) rfl ?_
  refine lk (dt := some 3) R51_1_N rfl rfl rfl (opv_assign rfl rfl rfl) ?_
  refine aops_nil ?_
  refine ago_seqE E51_4 ?_
  refine ago_blockE E51_5 ?_
  refine ago_loopE E51_6 ?_
  obtain ⟨n, H⟩ := H
  exact S51_1_ok Q E  n _ n_0 (.slice none 0 0) aw h0 rfl H
theorem F51_ok {Q : Value → AW → Prop} {E : List PanicEntry → AW → Prop} (n_0 : Int) (aw : AW) (H : S51_0 Q E n_0 aw) : CallP prog 51 [.int .u64 n_0] aw sh51 Q E :=
  callP_of func51 C51_is rfl (Nat.le_of_ble_eq_true rfl) (S51_0_ok Q E _ n_0 aw rfl H)
def C66_0 : Code := bodyOf f66
theorem C66_is : f66.body = some C66_0 := by kernel_rfl
def C66_1 : Code := cl C66_0
def R66_0 : Array Oper := regOps C66_1
def C66_2 : Code := cr C66_0
def C66_3 : Code := cl C66_2
def R66_1 : Array Oper := regOps C66_3
def C66_4 : Code := cr C66_2
def C66_5 : Code := cl C66_4
def C66_6 : Code := cl C66_5
def R66_2 : Array Oper := regOps C66_6
def C66_7 : Code := cr C66_5
def C66_8 : Code := cl C66_7
def C66_9 : Code := cl C66_8
def C66_10 : Code := cl C66_9
def C66_11 : Code := cl C66_10
def R66_3 : Array Oper := regOps C66_11
def C66_12 : Code := cr C66_10
def C66_13 : Code := cl C66_12
def C66_14 : Code := cr C66_12
def C66_15 : Code := cr C66_9
def C66_16 : Code := cl C66_15
def C66_17 : Code := cl C66_16
def C66_18 : Code := cl C66_17
def R66_5 : Array Oper := regOps C66_18
def C66_19 : Code := cr C66_17
def C66_20 : Code := cl C66_19
def C66_21 : Code := cl C66_20
def C66_22 : Code := cl C66_21
def C66_23 : Code := cl C66_22
def R66_6 : Array Oper := regOps C66_23
def C66_24 : Code := cr C66_22
def C66_25 : Code := cl C66_24
def C66_26 : Code := cr C66_24
def C66_27 : Code := cr C66_21
def C66_28 : Code := cl C66_27
def C66_29 : Code := cl C66_28
def C66_30 : Code := cl C66_29
def R66_8 : Array Oper := regOps C66_30
def C66_31 : Code := cr C66_29
def C66_32 : Code := cl C66_31
def R66_9 : Array Oper := regOps C66_32
def C66_33 : Code := cr C66_31
def C66_34 : Code := cl C66_33
def R66_10 : Array Oper := regOps C66_34
def C66_35 : Code := cr C66_33
def C66_36 : Code := cl C66_35
def R66_11 : Array Oper := regOps C66_36
def C66_37 : Code := cr C66_35
def C66_38 : Code := cr C66_27
def R66_7 : Array Oper := regOps C66_38
def C66_39 : Code := cr C66_15
def R66_4 : Array Oper := regOps C66_39
def C66_40 : Code := cr C66_4
def C66_41 : Code := cl C66_40
def R66_12 : Array Oper := regOps C66_41
def C66_42 : Code := cr C66_40
theorem R66_0_N : dstsOk 36 R66_0 = true := by decide +kernel
theorem E66_1 : C66_1 = .region 0 R66_0 false := rfl
theorem R66_1_N : dstsOk 36 R66_1 = true := by decide +kernel
theorem E66_3 : C66_3 = .region 1 R66_1 false := rfl
theorem R66_2_N : dstsOk 36 R66_2 = true := by decide +kernel
theorem E66_6 : C66_6 = .region 2 R66_2 false := rfl
theorem R66_3_N : dstsOk 36 R66_3 = true := by decide +kernel
theorem E66_11 : C66_11 = .region 3 R66_3 false := rfl
theorem E66_13 : C66_13 = .skip := rfl
theorem E66_14 : C66_14 = .exit 0 := rfl
theorem E66_12 : C66_12 = .cond (.tmp 10) C66_13 C66_14 := rfl
theorem E66_10 : C66_10 = .seq C66_11 C66_12 := rfl
theorem R66_5_N : dstsOk 36 R66_5 = true := by decide +kernel
theorem E66_18 : C66_18 = .region 5 R66_5 false := rfl
theorem R66_6_N : dstsOk 36 R66_6 = true := by decide +kernel
theorem E66_23 : C66_23 = .region 6 R66_6 false := rfl
theorem E66_25 : C66_25 = .skip := rfl
theorem E66_26 : C66_26 = .exit 2 := rfl
theorem E66_24 : C66_24 = .cond (.tmp 14) C66_25 C66_26 := rfl
theorem E66_22 : C66_22 = .seq C66_23 C66_24 := rfl
theorem R66_8_N : dstsOk 36 R66_8 = true := by decide +kernel
theorem E66_30 : C66_30 = .region 8 R66_8 false := rfl
theorem R66_9_N : dstsOk 36 R66_9 = true := by decide +kernel
theorem E66_32 : C66_32 = .region 9 R66_9 false := rfl
theorem R66_10_N : dstsOk 36 R66_10 = true := by decide +kernel
theorem E66_34 : C66_34 = .region 10 R66_10 false := rfl
theorem R66_11_N : dstsOk 36 R66_11 = true := by decide +kernel
theorem E66_36 : C66_36 = .region 11 R66_11 false := rfl
theorem E66_37 : C66_37 = .skip := rfl
theorem E66_35 : C66_35 = .cond (.tmp 31) C66_36 C66_37 := rfl
theorem E66_33 : C66_33 = .seq C66_34 C66_35 := rfl
theorem E66_31 : C66_31 = .seq C66_32 C66_33 := rfl
theorem E66_29 : C66_29 = .seq C66_30 C66_31 := rfl
theorem E66_28 : C66_28 = .block 3 C66_29 := rfl
theorem R66_7_N : dstsOk 36 R66_7 = true := by decide +kernel
theorem E66_38 : C66_38 = .region 7 R66_7 false := rfl
theorem E66_27 : C66_27 = .seq C66_28 C66_38 := rfl
theorem E66_21 : C66_21 = .seq C66_22 C66_27 := rfl
theorem E66_20 : C66_20 = .loop C66_21 := rfl
theorem E66_19 : C66_19 = .block 2 C66_20 := rfl
theorem E66_17 : C66_17 = .seq C66_18 C66_19 := rfl
theorem E66_16 : C66_16 = .block 1 C66_17 := rfl
theorem R66_4_N : dstsOk 36 R66_4 = true := by decide +kernel
theorem E66_39 : C66_39 = .region 4 R66_4 false := rfl
theorem E66_15 : C66_15 = .seq C66_16 C66_39 := rfl
theorem E66_9 : C66_9 = .seq C66_10 C66_15 := rfl
theorem E66_8 : C66_8 = .loop C66_9 := rfl
theorem E66_7 : C66_7 = .block 0 C66_8 := rfl
theorem E66_5 : C66_5 = .seq C66_6 C66_7 := rfl
theorem R66_12_N : dstsOk 36 R66_12 = true := by decide +kernel
theorem E66_41 : C66_41 = .region 12 R66_12 false := rfl
theorem E66_42 : C66_42 = .ret := rfl
theorem E66_40 : C66_40 = .seq C66_41 C66_42 := rfl
theorem E66_4 : C66_4 = .seq C66_5 C66_40 := rfl
theorem E66_2 : C66_2 = .seq C66_3 C66_4 := rfl
theorem E66_0 : C66_0 = .seq C66_1 C66_2 := rfl
def S66_3 (Q : Int → AW → Prop) (E : List PanicEntry → AW → Prop) (nx1 : Value → Int → Int → AW → Prop) (nx2 : Value → Int → Int → Int → AW → Prop) (p_0 : Value) (c_3 : Int) (i_4 : Int) (k_5 : Int) (aw : AW) : Prop :=
  nx2 p_0 c_3 i_4 (IntKind.i64.wrap (k_5 + 1)) aw
def S66_2s (Q : Int → AW → Prop) (E : List PanicEntry → AW → Prop) (nx1 : Value → Int → Int → AW → Prop) (nx2 : Value → Int → Int → Int → AW → Prop) (p_0 : Value) (c_3 : Int) (i_4 : Int) (k_5 : Int) (aw : AW) : Prop :=
  cnd (decide (k_5 < 8)) (ixS p_0 i_4 1 fun p2 =>
  ldI .u8 aw p2 fun x14 =>
  0 ≤ k_5 ∧ cnd (decide ((bitsOf .xor .u32 (bitsOf .and .u32 c_3 1) (bitsOf .and .u32 (IntKind.u32.wrap (Int.fdiv x14 (2 ^ (min k_5.toNat IntKind.u8.bits)))) 1)) = 1)) (S66_3 Q E nx1 nx2 p_0 (bitsOf .xor .u32 (Int.fdiv c_3 (2 ^ (min (1 : Int).toNat IntKind.u32.bits))) 2197175160) i_4 k_5 aw) (S66_3 Q E nx1 nx2 p_0 (Int.fdiv c_3 (2 ^ (min (1 : Int).toNat IntKind.u32.bits))) i_4 k_5 aw)) (nx1 p_0 c_3 (IntKind.i64.wrap (i_4 + 1)) aw)
def S66_2 (Q : Int → AW → Prop) (E : List PanicEntry → AW → Prop) (nx1 : Value → Int → Int → AW → Prop) : Nat → Value → Int → Int → Int → AW → Prop
  | 0 => fun _ _ _ _ _ => False
  | n + 1 => S66_2s Q E nx1 (S66_2 Q E nx1 n)
def S66_1s (Q : Int → AW → Prop) (E : List PanicEntry → AW → Prop)  (nx1 : Value → Int → Int → AW → Prop) (p_0 : Value) (c_3 : Int) (i_4 : Int) (aw : AW) : Prop :=
  slen p_0 fun n18 =>
  cnd (decide (i_4 < n18)) (∃ n, S66_2 Q E nx1 n p_0 c_3 i_4 0 aw) (Q (IntKind.u32.wrap (4294967295 - c_3)) aw)
def S66_1 (Q : Int → AW → Prop) (E : List PanicEntry → AW → Prop)  : Nat → Value → Int → Int → AW → Prop
  | 0 => fun _ _ _ _ => False
  | n + 1 => S66_1s Q E  (S66_1 Q E  n)
def S66_0 (Q : Int → AW → Prop) (E : List PanicEntry → AW → Prop)  (p_0 : Value) (aw : AW) : Prop :=
  ∃ n, S66_1 Q E  n p_0 4294967295 0 aw
theorem S66_3_ok (Q : Int → AW → Prop) (E : List PanicEntry → AW → Prop) (nx1 : Value → Int → Int → AW → Prop) (L1 : ∀ (ρ : Env) (p_0 : Value) (c_3 : Int) (i_4 : Int) (aw : AW) (h0 : ρ 0 = p_0) (h3 : ρ 3 = .int .u32 c_3) (h4 : ρ 4 = .int .i64 i_4), nx1 p_0 c_3 i_4 aw → AGo prog 36 [.code C66_9, .inLoop C66_9, .inBlock 0, .code C66_40] ρ [] aw (RR prog f66 36 sh66 Q E)) (nx2 : Value → Int → Int → Int → AW → Prop) (L2 : ∀ (ρ : Env) (p_0 : Value) (c_3 : Int) (i_4 : Int) (k_5 : Int) (aw : AW) (h0 : ρ 0 = p_0) (h3 : ρ 3 = .int .u32 c_3) (h4 : ρ 4 = .int .i64 i_4) (h5 : ρ 5 = .int .i64 k_5), nx2 p_0 c_3 i_4 k_5 aw → AGo prog 36 [.code C66_21, .inLoop C66_21, .inBlock 2, .inBlock 1, .code C66_39, .inLoop C66_9, .inBlock 0, .code C66_40] ρ [] aw (RR prog f66 36 sh66 Q E)) (ρ : Env) (p_0 : Value) (c_3 : Int) (i_4 : Int) (k_5 : Int) (aw : AW) (h0 : ρ 0 = p_0) (h3 : ρ 3 = .int .u32 c_3) (h4 : ρ 4 = .int .i64 i_4) (h5 : ρ 5 = .int .i64 k_5) (H : S66_3 Q E nx1 nx2 p_0 c_3 i_4 k_5 aw) :
    AGo prog 36 [.inBlock 3, .code C66_38, .inLoop C66_21, .inBlock 2, .inBlock 1, .code C66_39, .inLoop C66_9, .inBlock 0, .code C66_40] ρ [] aw (RR prog f66 36 sh66 Q E) := by
  unfold S66_3 at H
  refine ago_inBlock ?_
  refine ago_regE E66_38 (l := [0, 1, 2]) rfl ?_
  refine lk (dt := some 15) R66_7_N rfl rfl rfl (opv_move rfl rfl h5) ?_
  refine lk (dt := some 16) R66_7_N rfl rfl rfl (opv_add rfl rfl rfl rfl rfl) ?_
  refine lk (dt := some 5) R66_7_N rfl rfl rfl (opv_assign rfl rfl rfl) ?_
  refine aops_nil ?_
  refine ago_inLoop ?_
  exact L2 _ p_0 c_3 i_4 (IntKind.i64.wrap (k_5 + 1)) aw h0 h3 h4 rfl H
theorem S66_2s_ok (Q : Int → AW → Prop) (E : List PanicEntry → AW → Prop) (nx1 : Value → Int → Int → AW → Prop) (L1 : ∀ (ρ : Env) (p_0 : Value) (c_3 : Int) (i_4 : Int) (aw : AW) (h0 : ρ 0 = p_0) (h3 : ρ 3 = .int .u32 c_3) (h4 : ρ 4 = .int .i64 i_4), nx1 p_0 c_3 i_4 aw → AGo prog 36 [.code C66_9, .inLoop C66_9, .inBlock 0, .code C66_40] ρ [] aw (RR prog f66 36 sh66 Q E)) (nx2 : Value → Int → Int → Int → AW → Prop) (L2 : ∀ (ρ : Env) (p_0 : Value) (c_3 : Int) (i_4 : Int) (k_5 : Int) (aw : AW) (h0 : ρ 0 = p_0) (h3 : ρ 3 = .int .u32 c_3) (h4 : ρ 4 = .int .i64 i_4) (h5 : ρ 5 = .int .i64 k_5), nx2 p_0 c_3 i_4 k_5 aw → AGo prog 36 [.code C66_21, .inLoop C66_21, .inBlock 2, .inBlock 1, .code C66_39, .inLoop C66_9, .inBlock 0, .code C66_40] ρ [] aw (RR prog f66 36 sh66 Q E)) (ρ : Env) (p_0 : Value) (c_3 : Int) (i_4 : Int) (k_5 : Int) (aw : AW) (h0 : ρ 0 = p_0) (h3 : ρ 3 = .int .u32 c_3) (h4 : ρ 4 = .int .i64 i_4) (h5 : ρ 5 = .int .i64 k_5) (H : S66_2s Q E nx1 nx2 p_0 c_3 i_4 k_5 aw) :
    AGo prog 36 [.code C66_21, .inLoop C66_21, .inBlock 2, .inBlock 1, .code C66_39, .inLoop C66_9, .inBlock 0, .code C66_40] ρ [] aw (RR prog f66 36 sh66 Q E) := by
  unfold S66_2s at H
  refine ago_seqE E66_21 ?_
  refine ago_seqE E66_22 ?_
  refine ago_regE E66_23 (l := [0, 1]) rfl ?_
  refine lk (dt := some 13) R66_6_N rfl rfl rfl (opv_move rfl rfl h5) ?_
  refine lk (dt := some 14) R66_6_N rfl rfl rfl (opv_lt rfl rfl rfl rfl rfl) ?_
  refine aops_nil ?_
  refine ago_condE  E66_24 rfl rfl (fun hb1 => ?_) (fun hb1 => ?_)
  · replace H := cnd_t H hb1
    refine ago_skipE E66_25 ?_
    refine ago_seqE E66_27 ?_
    refine ago_blockE E66_28 ?_
    refine ago_seqE E66_29 ?_
    refine ago_regE E66_30 (l := [0, 1, 2, 3, 4, 5, 6, 7, 8, 9, 10, 11]) rfl ?_
    refine lk (dt := some 17) R66_8_N rfl rfl rfl (opv_move rfl rfl h3) ?_
    refine lk (dt := some 18) R66_8_N rfl rfl rfl (opv_and rfl rfl rfl rfl rfl) ?_
    refine lk (dt := some 19) R66_8_N rfl rfl rfl (opv_move rfl rfl h0) ?_
    refine lk (dt := some 20) R66_8_N rfl rfl rfl (opv_move rfl rfl h4) ?_
    obtain ⟨b3, i4, l5, c6, p2, hp7, h08, hj9, hv10, H⟩ := H
    refine lk (dt := some 21) R66_8_N rfl rfl rfl (ov_ixS rfl rfl rfl underlying25 sz5 rfl rfl hp7 h08 hj9 hv10) ?_
    obtain ⟨b11, i12, x14, hp13, hg15, H⟩ := H
    refine lk (dt := some 22) R66_8_N rfl rfl rfl (ov_ldI rfl underlying5 rfl rfl hp13 hg15) ?_
    refine lk (dt := some 23) R66_8_N rfl rfl rfl (opv_move rfl rfl h5) ?_
    obtain ⟨hz16, H⟩ := H
    refine lk (dt := some 24) R66_8_N rfl rfl rfl (opv_shr rfl rfl rfl rfl rfl hz16) ?_
    refine lk (dt := some 25) R66_8_N rfl rfl rfl (opv_conv rfl rfl underlying5 underlying119 rfl) ?_
    refine lk (dt := some 26) R66_8_N rfl rfl rfl (opv_and rfl rfl rfl rfl rfl) ?_
    refine lk (dt := some 27) R66_8_N rfl rfl rfl (opv_xor rfl rfl rfl rfl rfl) ?_
    refine lk (dt := some 6) R66_8_N rfl rfl rfl (opv_assign rfl rfl rfl) ?_
    refine aops_nil ?_
    refine ago_seqE E66_31 ?_
    refine ago_cut (fun ρ => ρ 0 = p_0 ∧ ρ 3 = .int .u32 c_3 ∧ ρ 4 = .int .i64 i_4 ∧ ρ 5 = .int .i64 k_5 ∧ ρ 6 = .int .u32 (bitsOf .xor .u32 (bitsOf .and .u32 c_3 1) (bitsOf .and .u32 (IntKind.u32.wrap (Int.fdiv x14 (2 ^ (min k_5.toNat IntKind.u8.bits)))) 1)) ∧ True) ⟨h0, h3, h4, h5, rfl, trivial⟩ (fun ρ ⟨h0, h3, h4, h5, h6, _⟩ => ?_)
    refine ago_regE E66_32 (l := [0, 1, 2]) rfl ?_
    refine lk (dt := some 28) R66_9_N rfl rfl rfl (opv_move rfl rfl h3) ?_
    refine lk (dt := some 29) R66_9_N rfl rfl rfl (opv_shr rfl rfl rfl rfl rfl (by decide)) ?_
    refine lk (dt := some 3) R66_9_N rfl rfl rfl (opv_assign rfl rfl rfl) ?_
    refine aops_nil ?_
    refine ago_seqE E66_33 ?_
    refine ago_regE E66_34 (l := [0, 1]) rfl ?_
    refine lk (dt := some 30) R66_10_N rfl rfl rfl (opv_move rfl rfl h6) ?_
    refine lk (dt := some 31) R66_10_N rfl rfl rfl (opv_eqI rfl rfl rfl rfl rfl) ?_
    refine aops_nil ?_
    refine ago_condE  E66_35 rfl rfl (fun hb17 => ?_) (fun hb17 => ?_)
    · replace H := cnd_t H hb17
      refine ago_regE E66_36 (l := [0, 1, 2]) rfl ?_
      refine lk (dt := some 32) R66_11_N rfl rfl rfl (opv_move rfl rfl rfl) ?_
      refine lk (dt := some 33) R66_11_N rfl rfl rfl (opv_xor rfl rfl rfl rfl rfl) ?_
      refine lk (dt := some 3) R66_11_N rfl rfl rfl (opv_assign rfl rfl rfl) ?_
      refine aops_nil ?_
      exact S66_3_ok Q E nx1 L1 nx2 L2 _ p_0 (bitsOf .xor .u32 (Int.fdiv c_3 (2 ^ (min (1 : Int).toNat IntKind.u32.bits))) 2197175160) i_4 k_5 aw h0 rfl h4 h5 H
    · replace H := cnd_f H hb17
      refine ago_skipE E66_37 ?_
      exact S66_3_ok Q E nx1 L1 nx2 L2 _ p_0 (Int.fdiv c_3 (2 ^ (min (1 : Int).toNat IntKind.u32.bits))) i_4 k_5 aw h0 rfl h4 h5 H
  · replace H := cnd_f H hb1
    refine ago_exitE E66_26 rfl ?_
    refine ago_inBlock ?_
    refine ago_regE E66_39 (l := [0, 1, 2]) rfl ?_
    refine lk (dt := some 11) R66_4_N rfl rfl rfl (opv_move rfl rfl h4) ?_
    refine lk (dt := some 12) R66_4_N rfl rfl rfl (opv_add rfl rfl rfl rfl rfl) ?_
    refine lk (dt := some 4) R66_4_N rfl rfl rfl (opv_assign rfl rfl rfl) ?_
    refine aops_nil ?_
    refine ago_inLoop ?_
    exact L1 _ p_0 c_3 (IntKind.i64.wrap (i_4 + 1)) aw h0 h3 rfl H
theorem S66_2_ok (Q : Int → AW → Prop) (E : List PanicEntry → AW → Prop) (nx1 : Value → Int → Int → AW → Prop) (L1 : ∀ (ρ : Env) (p_0 : Value) (c_3 : Int) (i_4 : Int) (aw : AW) (h0 : ρ 0 = p_0) (h3 : ρ 3 = .int .u32 c_3) (h4 : ρ 4 = .int .i64 i_4), nx1 p_0 c_3 i_4 aw → AGo prog 36 [.code C66_9, .inLoop C66_9, .inBlock 0, .code C66_40] ρ [] aw (RR prog f66 36 sh66 Q E)) : ∀ (n : Nat) (ρ : Env) (p_0 : Value) (c_3 : Int) (i_4 : Int) (k_5 : Int) (aw : AW) (h0 : ρ 0 = p_0) (h3 : ρ 3 = .int .u32 c_3) (h4 : ρ 4 = .int .i64 i_4) (h5 : ρ 5 = .int .i64 k_5), S66_2 Q E nx1 n p_0 c_3 i_4 k_5 aw →
    AGo prog 36 [.code C66_21, .inLoop C66_21, .inBlock 2, .inBlock 1, .code C66_39, .inLoop C66_9, .inBlock 0, .code C66_40] ρ [] aw (RR prog f66 36 sh66 Q E)
  | 0, _, _, _, _, _, _, _, _, _, _ => fun H => H.elim
  | n + 1, ρ, p_0, c_3, i_4, k_5, aw, h0, h3, h4, h5 => fun H => S66_2s_ok Q E nx1 L1 _ (S66_2_ok Q E nx1 L1 n) ρ p_0 c_3 i_4 k_5 aw h0 h3 h4 h5 H
theorem S66_1s_ok (Q : Int → AW → Prop) (E : List PanicEntry → AW → Prop)  (nx1 : Value → Int → Int → AW → Prop) (L1 : ∀ (ρ : Env) (p_0 : Value) (c_3 : Int) (i_4 : Int) (aw : AW) (h0 : ρ 0 = p_0) (h3 : ρ 3 = .int .u32 c_3) (h4 : ρ 4 = .int .i64 i_4), nx1 p_0 c_3 i_4 aw → AGo prog 36 [.code C66_9, .inLoop C66_9, .inBlock 0, .code C66_40] ρ [] aw (RR prog f66 36 sh66 Q E)) (ρ : Env) (p_0 : Value) (c_3 : Int) (i_4 : Int) (aw : AW) (h0 : ρ 0 = p_0) (h3 : ρ 3 = .int .u32 c_3) (h4 : ρ 4 = .int .i64 i_4) (H : S66_1s Q E  nx1 p_0 c_3 i_4 aw) :
    AGo prog 36 [.code C66_9, .inLoop C66_9, .inBlock 0, .code C66_40] ρ [] aw (RR prog f66 36 sh66 Q E) := by
  unfold S66_1s at H
  refine ago_seqE E66_9 ?_
  refine ago_seqE E66_10 ?_
  refine ago_regE E66_11 (l := [0, 1, 2, 3]) rfl ?_
  refine lk (dt := some 7) R66_3_N rfl rfl rfl (opv_move rfl rfl h4) ?_
  refine lk (dt := some 8) R66_3_N rfl rfl rfl (opv_move rfl rfl h0) ?_
  obtain ⟨q19, l20, c21, n18, hv22, hn23, H⟩ := H
  refine lk (dt := some 9) R66_3_N rfl rfl rfl (ov_len rfl rfl rfl underlying25 rfl hv22 hn23) ?_
  refine lk (dt := some 10) R66_3_N rfl rfl rfl (opv_lt rfl rfl rfl rfl rfl) ?_
  refine aops_nil ?_
  refine ago_condE  E66_12 rfl rfl (fun hb24 => ?_) (fun hb24 => ?_)
  · replace H := cnd_t H hb24
    refine ago_skipE E66_13 ?_
    refine ago_seqE E66_15 ?_
    refine ago_blockE E66_16 ?_
    refine ago_seqE E66_17 ?_
    refine ago_regE E66_18 (l := [0]) rfl ?_
    refine lk (dt := some 5) R66_5_N rfl rfl rfl (opv_assign rfl rfl rfl) ?_
    refine aops_nil ?_
    refine ago_blockE E66_19 ?_
    refine ago_loopE E66_20 ?_
    obtain ⟨n, H⟩ := H
    exact S66_2_ok Q E nx1 L1 n _ p_0 c_3 i_4 0 aw h0 h3 h4 rfl H
  · replace H := cnd_f H hb24
    refine ago_exitE E66_14 rfl ?_
    refine ago_seqE E66_40 ?_
    refine ago_regE E66_41 (l := [0, 1, 2]) rfl ?_
    refine lk (dt := some 34) R66_12_N rfl rfl rfl (opv_move rfl rfl h3) ?_
    refine lk (dt := some 35) R66_12_N rfl rfl rfl (opv_sub rfl rfl rfl rfl rfl) ?_
    refine lk (dt := some 2) R66_12_N rfl rfl rfl (opv_assign rfl rfl rfl) ?_
    refine aops_nil ?_
    exact ago_retE E66_42 (r := (IntKind.u32.wrap (4294967295 - c_3))) (ares_1 rfl (oneT rfl)) rfl H
theorem S66_1_ok (Q : Int → AW → Prop) (E : List PanicEntry → AW → Prop)  : ∀ (n : Nat) (ρ : Env) (p_0 : Value) (c_3 : Int) (i_4 : Int) (aw : AW) (h0 : ρ 0 = p_0) (h3 : ρ 3 = .int .u32 c_3) (h4 : ρ 4 = .int .i64 i_4), S66_1 Q E  n p_0 c_3 i_4 aw →
    AGo prog 36 [.code C66_9, .inLoop C66_9, .inBlock 0, .code C66_40] ρ [] aw (RR prog f66 36 sh66 Q E)
  | 0, _, _, _, _, _, _, _, _ => fun H => H.elim
  | n + 1, ρ, p_0, c_3, i_4, aw, h0, h3, h4 => fun H => S66_1s_ok Q E  _ (S66_1_ok Q E  n) ρ p_0 c_3 i_4 aw h0 h3 h4 H
theorem S66_0_ok (Q : Int → AW → Prop) (E : List PanicEntry → AW → Prop)  (ρ : Env) (p_0 : Value) (aw : AW) (h0 : ρ 0 = p_0) (H : S66_0 Q E  p_0 aw) :
    AGo prog 36 [.code C66_0] ρ [] aw (RR prog f66 36 sh66 Q E) := by
  unfold S66_0 at H
  refine ago_seqE E66_0 ?_
  refine ago_regE E66_1 (l := [0]) rfl ?_
  refine lk (dt := some 2) R66_0_N rfl rfl rfl (opv_assign rfl rfl rfl) ?_
  refine aops_nil ?_
  refine ago_seqE E66_2 ?_
  refine ago_regE E66_3 (l := [0]) rfl ?_
  refine lk (dt := some 3) R66_1_N rfl rfl rfl (opv_assign rfl rfl rfl) ?_
  refine aops_nil ?_
  refine ago_seqE E66_4 ?_
  refine ago_seqE E66_5 ?_
  refine ago_regE E66_6 (l := [0]) rfl ?_
  refine lk (dt := some 4) R66_2_N rfl rfl rfl (opv_assign rfl rfl rfl) ?_
  refine aops_nil ?_
  refine ago_blockE E66_7 ?_
  refine ago_loopE E66_8 ?_
  obtain ⟨n, H⟩ := H
  exact S66_1_ok Q E  n _ p_0 4294967295 0 aw h0 rfl rfl H
theorem F66_ok {Q : Int → AW → Prop} {E : List PanicEntry → AW → Prop} (p_0 : Value) (aw : AW) (H : S66_0 Q E p_0 aw) : CallP prog 66 [p_0] aw sh66 Q E :=
  callP_of func66 C66_is rfl (Nat.le_of_ble_eq_true rfl) (S66_0_ok Q E _ p_0 aw rfl H)
def C54_0 : Code := bodyOf f54
theorem C54_is : f54.body = some C54_0 := by kernel_rfl
def C54_1 : Code := cl C54_0
def R54_0 : Array Oper := regOps C54_1
def C54_2 : Code := cr C54_0
def C54_3 : Code := cl C54_2
def R54_1 : Array Oper := regOps C54_3
def C54_4 : Code := cr C54_2
def C54_5 : Code := cl C54_4
def R54_2 : Array Oper := regOps C54_5
def C54_6 : Code := cr C54_4
def C54_7 : Code := cl C54_6
def R54_3 : Array Oper := regOps C54_7
def C54_8 : Code := cr C54_6
def C54_9 : Code := cl C54_8
def C54_10 : Code := cl C54_9
def R54_4 : Array Oper := regOps C54_10
def C54_11 : Code := cr C54_9
def C54_12 : Code := cl C54_11
def C54_13 : Code := cl C54_12
def C54_14 : Code := cl C54_13
def C54_15 : Code := cl C54_14
def R54_5 : Array Oper := regOps C54_15
def C54_16 : Code := cr C54_14
def C54_17 : Code := cl C54_16
def C54_18 : Code := cr C54_16
def C54_19 : Code := cr C54_13
def C54_20 : Code := cl C54_19
def C54_21 : Code := cl C54_20
def R54_7 : Array Oper := regOps C54_21
def C54_22 : Code := cr C54_19
def R54_6 : Array Oper := regOps C54_22
def C54_23 : Code := cr C54_8
def C54_24 : Code := cl C54_23
def R54_8 : Array Oper := regOps C54_24
def C54_25 : Code := cr C54_23
theorem R54_0_N : dstsOk 24 R54_0 = true := by decide +kernel
theorem E54_1 : C54_1 = .region 0 R54_0 false := rfl
theorem R54_1_N : dstsOk 24 R54_1 = true := by decide +kernel
theorem E54_3 : C54_3 = .region 1 R54_1 false := rfl
theorem R54_2_N : dstsOk 24 R54_2 = true := by decide +kernel
theorem E54_5 : C54_5 = .region 2 R54_2 false := rfl
theorem R54_3_N : dstsOk 24 R54_3 = true := by decide +kernel
theorem E54_7 : C54_7 = .region 3 R54_3 false := rfl
theorem R54_4_N : dstsOk 24 R54_4 = true := by decide +kernel
theorem E54_10 : C54_10 = .region 4 R54_4 false := rfl
theorem R54_5_N : dstsOk 24 R54_5 = true := by decide +kernel
theorem E54_15 : C54_15 = .region 5 R54_5 false := rfl
theorem E54_17 : C54_17 = .skip := rfl
theorem E54_18 : C54_18 = .exit 0 := rfl
theorem E54_16 : C54_16 = .cond (.tmp 12) C54_17 C54_18 := rfl
theorem E54_14 : C54_14 = .seq C54_15 C54_16 := rfl
theorem R54_7_N : dstsOk 24 R54_7 = true := by decide +kernel
theorem E54_21 : C54_21 = .region 7 R54_7 false := rfl
theorem E54_20 : C54_20 = .block 1 C54_21 := rfl
theorem R54_6_N : dstsOk 24 R54_6 = true := by decide +kernel
theorem E54_22 : C54_22 = .region 6 R54_6 false := rfl
theorem E54_19 : C54_19 = .seq C54_20 C54_22 := rfl
theorem E54_13 : C54_13 = .seq C54_14 C54_19 := rfl
theorem E54_12 : C54_12 = .loop C54_13 := rfl
theorem E54_11 : C54_11 = .block 0 C54_12 := rfl
theorem E54_9 : C54_9 = .seq C54_10 C54_11 := rfl
theorem R54_8_N : dstsOk 24 R54_8 = true := by decide +kernel
theorem E54_24 : C54_24 = .region 8 R54_8 false := rfl
theorem E54_25 : C54_25 = .ret := rfl
theorem E54_23 : C54_23 = .seq C54_24 C54_25 := rfl
theorem E54_8 : C54_8 = .seq C54_9 C54_23 := rfl
theorem E54_6 : C54_6 = .seq C54_7 C54_8 := rfl
theorem E54_4 : C54_4 = .seq C54_5 C54_6 := rfl
theorem E54_2 : C54_2 = .seq C54_3 C54_4 := rfl
theorem E54_0 : C54_0 = .seq C54_1 C54_2 := rfl
def S54_1s (Q : Value → AW → Prop) (E : List PanicEntry → AW → Prop)  (nx1 : Value → Int → Int → AW → Prop) (out_3 : Value) (s_4 : Int) (i_5 : Int) (aw : AW) : Prop :=
  cnd (decide (i_5 < 4)) (0 ≤ (IntKind.i64.wrap (8 * i_5)) ∧ alcS aw [.int .u8 (IntKind.u8.wrap (Int.fdiv s_4 (2 ^ (min (IntKind.i64.wrap (8 * i_5)).toNat IntKind.u32.bits))))] 5 1 1 fun p3 aw4 =>
  app aw4 5 1 1 out_3 p3 fun v7 aw8 =>
  nx1 v7 s_4 (IntKind.i64.wrap (i_5 + 1)) aw8) (Q out_3 aw)
def S54_1 (Q : Value → AW → Prop) (E : List PanicEntry → AW → Prop)  : Nat → Value → Int → Int → AW → Prop
  | 0 => fun _ _ _ _ => False
  | n + 1 => S54_1s Q E  (S54_1 Q E  n)
def S54_0 (Q : Value → AW → Prop) (E : List PanicEntry → AW → Prop)  (p_0 : Value) (aw : AW) : Prop :=
  app aw 5 1 1 (.slice none 0 0) p_0 fun v10 aw11 =>
  CallP prog 66 [p_0] aw11 sh66 (fun r13 aw14 =>
  ∃ n, S54_1 Q E  n v10 r13 0 aw14) E
theorem S54_1s_ok (Q : Value → AW → Prop) (E : List PanicEntry → AW → Prop)  (nx1 : Value → Int → Int → AW → Prop) (L1 : ∀ (ρ : Env) (out_3 : Value) (s_4 : Int) (i_5 : Int) (aw : AW) (h3 : ρ 3 = out_3) (h4 : ρ 4 = .int .u32 s_4) (h5 : ρ 5 = .int .i64 i_5), nx1 out_3 s_4 i_5 aw → AGo prog 24 [.code C54_13, .inLoop C54_13, .inBlock 0, .code C54_23] ρ [] aw (RR prog f54 24 sh54 Q E)) (ρ : Env) (out_3 : Value) (s_4 : Int) (i_5 : Int) (aw : AW) (h3 : ρ 3 = out_3) (h4 : ρ 4 = .int .u32 s_4) (h5 : ρ 5 = .int .i64 i_5) (H : S54_1s Q E  nx1 out_3 s_4 i_5 aw) :
    AGo prog 24 [.code C54_13, .inLoop C54_13, .inBlock 0, .code C54_23] ρ [] aw (RR prog f54 24 sh54 Q E) := by
  unfold S54_1s at H
  refine ago_seqE E54_13 ?_
  refine ago_seqE E54_14 ?_
  refine ago_regE E54_15 (l := [0, 1]) rfl ?_
  refine lk (dt := some 11) R54_5_N rfl rfl rfl (opv_move rfl rfl h5) ?_
  refine lk (dt := some 12) R54_5_N rfl rfl rfl (opv_lt rfl rfl rfl rfl rfl) ?_
  refine aops_nil ?_
  refine ago_condE  E54_16 rfl rfl (fun hb1 => ?_) (fun hb1 => ?_)
  · replace H := cnd_t H hb1
    refine ago_skipE E54_17 ?_
    refine ago_seqE E54_19 ?_
    refine ago_blockE E54_20 ?_
    refine ago_regE E54_21 (l := [0, 1, 2, 3, 4, 5, 6, 7, 8]) rfl ?_
    refine lk (dt := some 15) R54_7_N rfl rfl rfl (opv_move rfl rfl h3) ?_
    refine lk (dt := some 16) R54_7_N rfl rfl rfl (opv_move rfl rfl h4) ?_
    refine lk (dt := some 17) R54_7_N rfl rfl rfl (opv_move rfl rfl h5) ?_
    refine lk (dt := some 18) R54_7_N rfl rfl rfl (opv_mul rfl rfl rfl rfl rfl) ?_
    obtain ⟨hz2, H⟩ := H
    refine lk (dt := some 19) R54_7_N rfl rfl rfl (opv_shr rfl rfl rfl rfl rfl hz2) ?_
    refine lk (dt := some 20) R54_7_N rfl rfl rfl (opv_conv rfl rfl underlying119 underlying5 rfl) ?_
    obtain ⟨p3, aw4, hp5, ha6, H⟩ := H
    refine lk (dt := some 21) R54_7_N rfl rfl rfl (ov_bsA (r := [.int .u8 (IntKind.u8.wrap (Int.fdiv s_4 (2 ^ (min (IntKind.i64.wrap (8 * i_5)).toNat IntKind.u32.bits))))]) (vs := [.int .u8 (IntKind.u8.wrap (Int.fdiv s_4 (2 ^ (min (IntKind.i64.wrap (8 * i_5)).toNat IntKind.u32.bits))))]) rfl rfl underlying25 sz5 z5 rfl rfl rfl rfl rfl (mp_cons rfl rfl) (.one rfl .nil) hp5 ha6) ?_
    obtain ⟨v7, aw8, hq9, H⟩ := H
    refine lk (dt := some 22) R54_7_N rfl rfl rfl (ov_app rfl rfl rfl rfl underlying25 sz5 by5 underlying25 rfl z5 rfl (by decide) (by decide) rfl rfl hq9) ?_
    refine lk (dt := some 3) R54_7_N rfl rfl rfl (opv_assign rfl rfl rfl) ?_
    refine aops_nil ?_
    refine ago_inBlock ?_
    refine ago_regE E54_22 (l := [0, 1, 2]) rfl ?_
    refine lk (dt := some 13) R54_6_N rfl rfl rfl (opv_move rfl rfl h5) ?_
    refine lk (dt := some 14) R54_6_N rfl rfl rfl (opv_add rfl rfl rfl rfl rfl) ?_
    refine lk (dt := some 5) R54_6_N rfl rfl rfl (opv_assign rfl rfl rfl) ?_
    refine aops_nil ?_
    refine ago_inLoop ?_
    exact L1 _ v7 s_4 (IntKind.i64.wrap (i_5 + 1)) aw8 rfl h4 rfl H
  · replace H := cnd_f H hb1
    refine ago_exitE E54_18 rfl ?_
    refine ago_seqE E54_23 ?_
    refine ago_regE E54_24 (l := [0, 1]) rfl ?_
    refine lk (dt := some 23) R54_8_N rfl rfl rfl (opv_move rfl rfl h3) ?_
    refine lk (dt := some 2) R54_8_N rfl rfl rfl (opv_assign rfl rfl rfl) ?_
    refine aops_nil ?_
    exact ago_retE E54_25 (r := out_3) (ares_1 rfl (oneT rfl)) rfl H
theorem S54_1_ok (Q : Value → AW → Prop) (E : List PanicEntry → AW → Prop)  : ∀ (n : Nat) (ρ : Env) (out_3 : Value) (s_4 : Int) (i_5 : Int) (aw : AW) (h3 : ρ 3 = out_3) (h4 : ρ 4 = .int .u32 s_4) (h5 : ρ 5 = .int .i64 i_5), S54_1 Q E  n out_3 s_4 i_5 aw →
    AGo prog 24 [.code C54_13, .inLoop C54_13, .inBlock 0, .code C54_23] ρ [] aw (RR prog f54 24 sh54 Q E)
  | 0, _, _, _, _, _, _, _, _ => fun H => H.elim
  | n + 1, ρ, out_3, s_4, i_5, aw, h3, h4, h5 => fun H => S54_1s_ok Q E  _ (S54_1_ok Q E  n) ρ out_3 s_4 i_5 aw h3 h4 h5 H
theorem S54_0_ok (Q : Value → AW → Prop) (E : List PanicEntry → AW → Prop)  (ρ : Env) (p_0 : Value) (aw : AW) (h0 : ρ 0 = p_0) (H : S54_0 Q E  p_0 aw) :
    AGo prog 24 [.code C54_0] ρ [] aw (RR prog f54 24 sh54 Q E) := by
  unfold S54_0 at H
  refine ago_seqE E54_0 ?_
  refine ago_regE E54_1 (l := [0]) rfl ?_
  refine lk (dt := some 2) R54_0_N rfl rfl rfl (opv_assign rfl rfl rfl) ?_
  refine aops_nil ?_
  refine ago_seqE E54_2 ?_
  refine ago_regE E54_3 (l := [0]) rfl ?_
  refine lk (dt := some 3) R54_1_N rfl rfl rfl (opv_assign rfl rfl rfl) ?_
  refine aops_nil ?_
  refine ago_seqE E54_4 ?_
  refine ago_regE E54_5 (l := [0, 1, 2, 3]) rfl ?_
  refine lk (dt := some 6) R54_2_N rfl rfl rfl (opv_move rfl rfl rfl) ?_
  refine lk (dt := some 7) R54_2_N rfl rfl rfl (opv_move rfl rfl h0) ?_
  obtain ⟨v10, aw11, hq12, H⟩ := H
  refine lk (dt := some 8) R54_2_N rfl rfl rfl (ov_app rfl rfl rfl rfl underlying25 sz5 by5 underlying25 rfl z5 rfl (by decide) (by decide) rfl rfl hq12) ?_
  refine lk (dt := some 3) R54_2_N rfl rfl rfl (opv_assign rfl rfl rfl) ?_
  refine aops_nil ?_
  refine ago_seqE E54_6 ?_
  refine ago_regE E54_7 (l := [0, 1, 2]) rfl ?_
  refine lk (dt := some 9) R54_3_N rfl rfl rfl (opv_move rfl rfl h0) ?_
  refine lk_call (dt := some 10) R54_3_N rfl rfl rfl (opc_of rfl rfl is66 (ma_cons rfl rfl)) H (fun _ _ h => ⟨rfl, h⟩) fun r13 aw14 H => ?_
  refine lk (dt := some 4) R54_3_N rfl rfl rfl (opv_assign rfl rfl rfl) ?_
  refine aops_nil ?_
  refine ago_seqE E54_8 ?_
  refine ago_seqE E54_9 ?_
  refine ago_regE E54_10 (l := [0]) rfl ?_
  refine lk (dt := some 5) R54_4_N rfl rfl rfl (opv_assign rfl rfl rfl) ?_
  refine aops_nil ?_
  refine ago_blockE E54_11 ?_
  refine ago_loopE E54_12 ?_
  obtain ⟨n, H⟩ := H
  exact S54_1_ok Q E  n _ v10 r13 0 aw14 rfl rfl rfl H
theorem F54_ok {Q : Value → AW → Prop} {E : List PanicEntry → AW → Prop} (p_0 : Value) (aw : AW) (H : S54_0 Q E p_0 aw) : CallP prog 54 [p_0] aw sh54 Q E :=
  callP_of func54 C54_is rfl (Nat.le_of_ble_eq_true rfl) (S54_0_ok Q E _ p_0 aw rfl H)
def C40_0 : Code := bodyOf f40
theorem C40_is : f40.body = some C40_0 := by kernel_rfl
def C40_1 : Code := cl C40_0
def R40_0 : Array Oper := regOps C40_1
def C40_2 : Code := cr C40_0
def C40_3 : Code := cl C40_2
def C40_4 : Code := cl C40_3
def R40_1 : Array Oper := regOps C40_4
def C40_5 : Code := cr C40_3
def C40_6 : Code := cl C40_5
def C40_7 : Code := cl C40_6
def R40_2 : Array Oper := regOps C40_7
def C40_8 : Code := cr C40_6
def C40_9 : Code := cr C40_5
def C40_10 : Code := cr C40_2
def C40_11 : Code := cl C40_10
def R40_3 : Array Oper := regOps C40_11
def C40_12 : Code := cr C40_10
def C40_13 : Code := cl C40_12
def C40_14 : Code := cl C40_13
def R40_4 : Array Oper := regOps C40_14
def C40_15 : Code := cr C40_13
def C40_16 : Code := cl C40_15
def C40_17 : Code := cl C40_16
def R40_5 : Array Oper := regOps C40_17
def C40_18 : Code := cr C40_16
def C40_19 : Code := cr C40_15
def C40_20 : Code := cr C40_12
def C40_21 : Code := cl C40_20
def R40_6 : Array Oper := regOps C40_21
def C40_22 : Code := cr C40_20
theorem R40_0_N : dstsOk 22 R40_0 = true := by decide +kernel
theorem E40_1 : C40_1 = .region 0 R40_0 false := rfl
theorem R40_1_N : dstsOk 22 R40_1 = true := by decide +kernel
theorem E40_4 : C40_4 = .region 1 R40_1 false := rfl
theorem R40_2_N : dstsOk 22 R40_2 = true := by decide +kernel
theorem E40_7 : C40_7 = .region 2 R40_2 false := rfl
theorem E40_8 : C40_8 = .ret := rfl
theorem E40_6 : C40_6 = .seq C40_7 C40_8 := rfl
theorem E40_9 : C40_9 = .skip := rfl
theorem E40_5 : C40_5 = .cond (.tmp 7) C40_6 C40_9 := rfl
theorem E40_3 : C40_3 = .seq C40_4 C40_5 := rfl
theorem R40_3_N : dstsOk 22 R40_3 = true := by decide +kernel
theorem E40_11 : C40_11 = .region 3 R40_3 false := rfl
theorem R40_4_N : dstsOk 22 R40_4 = true := by decide +kernel
theorem R40_4_O : linOk R40_4 [0, 1, 2, 5, 6] [(3, [5, 6], [4, 7])] = true := by decide +kernel
theorem E40_14 : C40_14 = .region 4 R40_4 true := rfl
theorem R40_5_N : dstsOk 22 R40_5 = true := by decide +kernel
theorem E40_17 : C40_17 = .region 5 R40_5 false := rfl
theorem E40_18 : C40_18 = .ret := rfl
theorem E40_16 : C40_16 = .seq C40_17 C40_18 := rfl
theorem E40_19 : C40_19 = .skip := rfl
theorem E40_15 : C40_15 = .cond (.tmp 18) C40_16 C40_19 := rfl
theorem E40_13 : C40_13 = .seq C40_14 C40_15 := rfl
theorem R40_6_N : dstsOk 22 R40_6 = true := by decide +kernel
theorem E40_21 : C40_21 = .region 6 R40_6 false := rfl
theorem E40_22 : C40_22 = .ret := rfl
theorem E40_20 : C40_20 = .seq C40_21 C40_22 := rfl
theorem E40_12 : C40_12 = .seq C40_13 C40_20 := rfl
theorem E40_10 : C40_10 = .seq C40_11 C40_12 := rfl
theorem E40_2 : C40_2 = .seq C40_3 C40_10 := rfl
theorem E40_0 : C40_0 = .seq C40_1 C40_2 := rfl
def S40_0 (Q : (Value × Int) → AW → Prop) (E : List PanicEntry → AW → Prop)  (p_0 : Value) (aw : AW) : Prop :=
  slen p_0 fun n1 =>
  cnd (decide (n1 < 4)) (Q ((.slice none 0 0), 3) aw) (slen p_0 fun n8 =>
  cutV aw 1 p_0 0 (IntKind.i64.wrap (n8 - 4)) fun v14 =>
  toS aw p_0 fun s16 =>
  CallP prog 54 [v14] aw sh54 (fun r23 aw24 =>
  againS aw24 p_0 s16 ∧ toS aw24 r23 fun s25 =>
  cnd (!decide (s25 = s16)) (Q ((.slice none 0 0), 14) aw24) (cutV aw24 1 p_0 0 (IntKind.i64.wrap (n8 - 4)) fun v33 =>
  Q (v33, 0) aw24)) E)
theorem S40_0_ok (Q : (Value × Int) → AW → Prop) (E : List PanicEntry → AW → Prop)  (ρ : Env) (p_0 : Value) (aw : AW) (h0 : ρ 0 = p_0) (H : S40_0 Q E  p_0 aw) :
    AGo prog 22 [.code C40_0] ρ [] aw (RR prog f40 22 sh40 Q E) := by
  unfold S40_0 at H
  refine ago_seqE E40_0 ?_
  refine ago_regE E40_1 (l := [0, 1]) rfl ?_
  refine lk (dt := some 2) R40_0_N rfl rfl rfl (opv_assign rfl rfl rfl) ?_
  refine lk (dt := some 3) R40_0_N rfl rfl rfl (opv_assign rfl rfl rfl) ?_
  refine aops_nil ?_
  refine ago_seqE E40_2 ?_
  refine ago_seqE E40_3 ?_
  refine ago_regE E40_4 (l := [0, 1, 2]) rfl ?_
  refine lk (dt := some 5) R40_1_N rfl rfl rfl (opv_move rfl rfl h0) ?_
  obtain ⟨q2, l3, c4, n1, hv5, hn6, H⟩ := H
  refine lk (dt := some 6) R40_1_N rfl rfl rfl (ov_len rfl rfl rfl underlying25 rfl hv5 hn6) ?_
  refine lk (dt := some 7) R40_1_N rfl rfl rfl (opv_lt rfl rfl rfl rfl rfl) ?_
  refine aops_nil ?_
  refine ago_condE  E40_5 rfl rfl (fun hb7 => ?_) (fun hb7 => ?_)
  · replace H := cnd_t H hb7
    refine ago_seqE E40_6 ?_
    refine ago_regE E40_7 (l := [0, 1]) rfl ?_
    refine lk (dt := some 2) R40_2_N rfl rfl rfl (opv_assign rfl rfl rfl) ?_
    refine lk (dt := some 3) R40_2_N rfl rfl rfl (opv_assign rfl rfl rfl) ?_
    refine aops_nil ?_
    exact ago_retE E40_8 (r := ((.slice none 0 0), 3)) (ares_2 rfl (oneT rfl) (oneT rfl)) rfl H
  · replace H := cnd_f H hb7
    refine ago_skipE E40_9 ?_
    refine ago_seqE E40_10 ?_
    refine ago_regE E40_11 (l := [0, 1, 2, 3]) rfl ?_
    refine lk (dt := some 8) R40_3_N rfl rfl rfl (opv_move rfl rfl h0) ?_
    obtain ⟨q9, l10, c11, n8, hv12, hn13, H⟩ := H
    refine lk (dt := some 9) R40_3_N rfl rfl rfl (ov_len rfl rfl rfl underlying25 rfl hv12 hn13) ?_
    refine lk (dt := some 10) R40_3_N rfl rfl rfl (opv_sub rfl rfl rfl rfl rfl) ?_
    refine lk (dt := some 4) R40_3_N rfl rfl rfl (opv_assign rfl rfl rfl) ?_
    refine aops_nil ?_
    refine ago_seqE E40_12 ?_
    refine ago_seqE E40_13 ?_
    obtain ⟨v14, hq15, H⟩ := H
    obtain ⟨l21, n20, s16, hs17, hq18, hv19, H⟩ := H
    have hl22 := srcB_len hs17
    refine ago_drawH (p := [0, 1, 2, 5, 6]) (tl := [(3, [5, 6], [4, 7])]) (hv := [(0, p_0), (1, Value.int .i64 (IntKind.i64.wrap (n8 - 4))), (2, v14), (5, p_0), (6, Value.string s16)]) E40_14 mixed R40_4_N R40_4_O rfl (pv_cons rfl (pv_cons rfl (pv_cons rfl (pv_cons rfl (pv_cons rfl (pv_nil _))))))
      (ffc (d := 11) (v := p_0) (hd_v rfl fun ρ hρ => ⟨rfl, opv_move rfl rfl ((hρ 0 (lmem rfl)).trans h0)⟩) rfl rfl
      (ffc (d := 12) (v := .int .i64 (IntKind.i64.wrap (n8 - 4))) (hd_v rfl fun ρ hρ => ⟨rfl, opv_move rfl rfl ((hρ 4 (lmem rfl)).trans rfl)⟩) rfl rfl
      (ffc (d := 13) (v := v14) (hd_v rfl fun ρ hρ => ⟨rfl, ov_cutV rfl rfl underlying25 sz5 ((hρ 11 (lmem rfl)).trans rfl) (bndN _ _ _) (bndS ((hρ 12 (lmem rfl)).trans rfl)) hq15⟩) rfl rfl
      (ffc (d := 16) (v := p_0) (hd_v rfl fun ρ hρ => ⟨rfl, opv_move rfl rfl ((hρ 0 (lmem rfl)).trans h0)⟩) rfl rfl
      (ffc (d := 17) (v := .string s16) (hd_v rfl fun ρ hρ => ⟨rfl, ov_toS rfl rfl underlying25 underlying9 underlying5 ((hρ 16 (lmem rfl)).trans rfl) hs17 hq18 hv19⟩) rfl rfl
      ffn))))) ?_
    refine lt_call (dt := some 14) rfl rfl (fun ρ hρ => ⟨rfl, opc_of rfl rfl is54 (ma_cons ((hρ 13 (lmem rfl)).trans rfl) rfl)⟩) H (fun _ _ h _ => ⟨rfl, h⟩) fun r23 aw24 H => ?_
    obtain ⟨hs17, H⟩ := H
    replace hs17 := hs17 _ n20 hl22 hq18 hv19
    obtain ⟨l30, n29, s25, hs26, hq27, hv28, H⟩ := H
    have hl31 := srcB_len hs26
    refine lt_next (l := [5, 6, 4, 7]) (hv := [(4, Value.string s25), (7, Value.bool (!decide (s25 = s16)))]) rfl rfl (pv_cons rfl (pv_cons rfl (pv_nil _)))
      (ffc (d := 16) (v := p_0) (hd_v rfl fun ρ hρ => ⟨rfl, opv_move rfl rfl ((hρ 0 (lmem rfl)).trans h0)⟩) rfl rfl
      (ffc (d := 17) (v := .string s16) (hd_v rfl fun ρ hρ => ⟨rfl, ov_toS rfl rfl underlying25 underlying9 underlying5 ((hρ 16 (lmem rfl)).trans rfl) hs17 hq18 hv19⟩) rfl rfl
      (ffc (d := 15) (v := .string s25) (hd_v rfl fun ρ hρ => ⟨rfl, ov_toS rfl rfl underlying25 underlying9 underlying5 ((hρ 14 (lmem rfl)).trans rfl) hs26 hq27 hv28⟩) rfl rfl
      (ffc (d := 18) (v := .bool (!decide (s25 = s16))) (hd_v rfl fun ρ hρ => ⟨rfl, opv_neS rfl rfl rfl ((hρ 15 (lmem rfl)).trans rfl) ((hρ 17 (lmem rfl)).trans rfl)⟩) rfl rfl
      ffn)))) ?_
    refine lt_end ?_
    refine ago_condE  E40_15 rfl rfl (fun hb32 => ?_) (fun hb32 => ?_)
    · replace H := cnd_t H hb32
      refine ago_seqE E40_16 ?_
      refine ago_regE E40_17 (l := [0, 1]) rfl ?_
      refine lk (dt := some 2) R40_5_N rfl rfl rfl (opv_assign rfl rfl rfl) ?_
      refine lk (dt := some 3) R40_5_N rfl rfl rfl (opv_assign rfl rfl rfl) ?_
      refine aops_nil ?_
      exact ago_retE E40_18 (r := ((.slice none 0 0), 14)) (ares_2 rfl (oneT rfl) (oneT rfl)) rfl H
    · replace H := cnd_f H hb32
      refine ago_skipE E40_19 ?_
      refine ago_seqE E40_20 ?_
      refine ago_cut (fun ρ => ρ 0 = p_0 ∧ ρ 4 = .int .i64 (IntKind.i64.wrap (n8 - 4)) ∧ True) ⟨h0, rfl, trivial⟩ (fun ρ ⟨h0, h4, _⟩ => ?_)
      refine ago_regE E40_21 (l := [0, 1, 2, 3, 4]) rfl ?_
      refine lk (dt := some 19) R40_6_N rfl rfl rfl (opv_move rfl rfl h0) ?_
      refine lk (dt := some 20) R40_6_N rfl rfl rfl (opv_move rfl rfl h4) ?_
      obtain ⟨v33, hq34, H⟩ := H
      refine lk (dt := some 21) R40_6_N rfl rfl rfl (ov_cutV rfl rfl underlying25 sz5 rfl (bndN _ _ _) (bndS rfl) hq34) ?_
      refine lk (dt := some 2) R40_6_N rfl rfl rfl (opv_assign rfl rfl rfl) ?_
      refine lk (dt := some 3) R40_6_N rfl rfl rfl (opv_assign rfl rfl rfl) ?_
      refine aops_nil ?_
      exact ago_retE E40_22 (r := (v33, 0)) (ares_2 rfl (oneT rfl) (oneT rfl)) rfl H
theorem F40_ok {Q : (Value × Int) → AW → Prop} {E : List PanicEntry → AW → Prop} (p_0 : Value) (aw : AW) (H : S40_0 Q E p_0 aw) : CallP prog 40 [p_0] aw sh40 Q E :=
  callP_of func40 C40_is rfl (Nat.le_of_ble_eq_true rfl) (S40_0_ok Q E _ p_0 aw rfl H)
def C64_0 : Code := bodyOf f64
theorem C64_is : f64.body = some C64_0 := by kernel_rfl
def C64_1 : Code := cl C64_0
def R64_0 : Array Oper := regOps C64_1
def C64_2 : Code := cr C64_0
def C64_3 : Code := cl C64_2
def R64_1 : Array Oper := regOps C64_3
def C64_4 : Code := cr C64_2
theorem R64_0_N : dstsOk 33 R64_0 = true := by decide +kernel
theorem E64_1 : C64_1 = .region 0 R64_0 false := rfl
theorem R64_1_N : dstsOk 33 R64_1 = true := by decide +kernel
theorem E64_3 : C64_3 = .region 1 R64_1 false := rfl
theorem E64_4 : C64_4 = .ret := rfl
theorem E64_2 : C64_2 = .seq C64_3 C64_4 := rfl
theorem E64_0 : C64_0 = .seq C64_1 C64_2 := rfl
def S64_0 (Q : Bool → AW → Prop) (E : List PanicEntry → AW → Prop)  (a_0_0 : Int) (a_0_1 : Int) (a_0_2 : Int) (a_0_3 : Value) (b_1_0 : Int) (b_1_1 : Int) (b_1_2 : Int) (b_1_3 : Value) (aw : AW) : Prop :=
  alc aw [.int .u64 a_0_0, .int .u64 a_0_1, .int .u64 a_0_2, a_0_3] 40 0 fun p1 aw2 =>
  alc aw2 [.int .u64 b_1_0, .int .u64 b_1_1, .int .u64 b_1_2, b_1_3] 40 0 fun p5 aw6 =>
  fldA p1 0 fun p9 =>
  ldI .u64 aw6 p9 fun x17 =>
  fldA p5 0 fun p19 =>
  ldI .u64 aw6 p19 fun x27 =>
  cnd (decide (x17 = x27)) (fldA p1 1 fun p30 =>
  ldI .u64 aw6 p30 fun x38 =>
  fldA p5 1 fun p40 =>
  ldI .u64 aw6 p40 fun x48 =>
  cnd (decide (x38 = x48)) (fldA p1 2 fun p51 =>
  ldI .u64 aw6 p51 fun x59 =>
  fldA p5 2 fun p61 =>
  ldI .u64 aw6 p61 fun x69 =>
  cnd (decide (x59 = x69)) (fldA p1 3 fun p72 =>
  ldV aw6 p72 fun x80 =>
  toS aw6 x80 fun s82 =>
  fldA p5 3 fun p89 =>
  ldV aw6 p89 fun x97 =>
  toS aw6 x97 fun s99 =>
  Q (decide (s82 = s99)) aw6) (Q false aw6)) (Q false aw6)) (Q false aw6)
theorem S64_0_ok (Q : Bool → AW → Prop) (E : List PanicEntry → AW → Prop)  (ρ : Env) (a_0_0 : Int) (a_0_1 : Int) (a_0_2 : Int) (a_0_3 : Value) (b_1_0 : Int) (b_1_1 : Int) (b_1_2 : Int) (b_1_3 : Value) (aw : AW) (h0 : ρ 0 = .agg #[.int .u64 a_0_0, .int .u64 a_0_1, .int .u64 a_0_2, a_0_3]) (h1 : ρ 1 = .agg #[.int .u64 b_1_0, .int .u64 b_1_1, .int .u64 b_1_2, b_1_3]) (H : S64_0 Q E  a_0_0 a_0_1 a_0_2 a_0_3 b_1_0 b_1_1 b_1_2 b_1_3 aw) :
    AGo prog 33 [.code C64_0] ρ [] aw (RR prog f64 33 sh64 Q E) := by
  unfold S64_0 at H
  refine ago_seqE E64_0 ?_
  refine ago_regE E64_1 (l := [0, 1, 2]) rfl ?_
  obtain ⟨p1, aw2, hp3, ha4, H⟩ := H
  refine lk (dt := some 2) R64_0_N rfl rfl rfl (ov_box rfl rfl h0 rfl hp3 ha4) ?_
  obtain ⟨p5, aw6, hp7, ha8, H⟩ := H
  refine lk (dt := some 3) R64_0_N rfl rfl rfl (ov_box rfl rfl h1 rfl hp7 ha8) ?_
  refine lk (dt := some 4) R64_0_N rfl rfl rfl (opv_assign rfl rfl rfl) ?_
  refine aops_nil ?_
  refine ago_seqE E64_2 ?_
  refine ago_regE E64_3 (l := [0, 1, 2, 3, 4, 5, 6, 7, 8, 9, 10, 11, 12, 13, 14, 15, 16, 17, 18, 19, 20, 21, 22, 23, 24, 25, 26, 27, 28]) rfl ?_
  obtain ⟨b10, i11, p9, hp12, hv13, H⟩ := H
  refine lk (dt := some 5) R64_1_N rfl rfl rfl (ov_fldA rfl rfl underlying40 rfl sz24 (by decide) rfl hp12 rfl hv13) ?_
  obtain ⟨b14, i15, x17, hp16, hg18, H⟩ := H
  refine lk (dt := some 6) R64_1_N rfl rfl rfl (ov_ldI rfl underlying24 rfl rfl hp16 hg18) ?_
  obtain ⟨b20, i21, p19, hp22, hv23, H⟩ := H
  refine lk (dt := some 7) R64_1_N rfl rfl rfl (ov_fldA rfl rfl underlying40 rfl sz24 (by decide) rfl hp22 rfl hv23) ?_
  obtain ⟨b24, i25, x27, hp26, hg28, H⟩ := H
  refine lk (dt := some 8) R64_1_N rfl rfl rfl (ov_ldI rfl underlying24 rfl rfl hp26 hg28) ?_
  refine lk (dt := some 9) R64_1_N rfl rfl rfl (opv_eqI rfl rfl rfl rfl rfl) ?_
  refine lk (dt := some 10) R64_1_N rfl rfl rfl (opv_move rfl rfl rfl) ?_
  rcases Bool.eq_false_or_eq_true (decide (x17 = x27)) with hb29 | hb29
  · replace H := cnd_t H hb29
    obtain ⟨b31, i32, p30, hp33, hv34, H⟩ := H
    refine lk (dt := some 11) R64_1_N rfl rfl ⟨_, rfl, .inl ⟨_, rfl, gq hb29 rfl⟩⟩ (ov_fldA rfl rfl underlying40 rfl sz24 (by decide) rfl hp33 rfl hv34) ?_
    obtain ⟨b35, i36, x38, hp37, hg39, H⟩ := H
    refine lk (dt := some 12) R64_1_N rfl rfl ⟨_, rfl, .inl ⟨_, rfl, gq hb29 rfl⟩⟩ (ov_ldI rfl underlying24 rfl rfl hp37 hg39) ?_
    obtain ⟨b41, i42, p40, hp43, hv44, H⟩ := H
    refine lk (dt := some 13) R64_1_N rfl rfl ⟨_, rfl, .inl ⟨_, rfl, gq hb29 rfl⟩⟩ (ov_fldA rfl rfl underlying40 rfl sz24 (by decide) rfl hp43 rfl hv44) ?_
    obtain ⟨b45, i46, x48, hp47, hg49, H⟩ := H
    refine lk (dt := some 14) R64_1_N rfl rfl ⟨_, rfl, .inl ⟨_, rfl, gq hb29 rfl⟩⟩ (ov_ldI rfl underlying24 rfl rfl hp47 hg49) ?_
    refine lk (dt := some 15) R64_1_N rfl rfl ⟨_, rfl, .inl ⟨_, rfl, gq hb29 rfl⟩⟩ (opv_eqI rfl rfl rfl rfl rfl) ?_
    refine lk (dt := some 16) R64_1_N rfl rfl rfl (ov_pickT rfl rfl rfl rfl rfl hb29 rfl) ?_
    refine lk (dt := some 17) R64_1_N rfl rfl rfl (opv_move rfl rfl rfl) ?_
    rcases Bool.eq_false_or_eq_true (decide (x38 = x48)) with hb50 | hb50
    · replace H := cnd_t H hb50
      obtain ⟨b52, i53, p51, hp54, hv55, H⟩ := H
      refine lk (dt := some 18) R64_1_N rfl rfl ⟨_, rfl, .inl ⟨_, rfl, gq hb50 rfl⟩⟩ (ov_fldA rfl rfl underlying40 rfl sz24 (by decide) rfl hp54 rfl hv55) ?_
      obtain ⟨b56, i57, x59, hp58, hg60, H⟩ := H
      refine lk (dt := some 19) R64_1_N rfl rfl ⟨_, rfl, .inl ⟨_, rfl, gq hb50 rfl⟩⟩ (ov_ldI rfl underlying24 rfl rfl hp58 hg60) ?_
      obtain ⟨b62, i63, p61, hp64, hv65, H⟩ := H
      refine lk (dt := some 20) R64_1_N rfl rfl ⟨_, rfl, .inl ⟨_, rfl, gq hb50 rfl⟩⟩ (ov_fldA rfl rfl underlying40 rfl sz24 (by decide) rfl hp64 rfl hv65) ?_
      obtain ⟨b66, i67, x69, hp68, hg70, H⟩ := H
      refine lk (dt := some 21) R64_1_N rfl rfl ⟨_, rfl, .inl ⟨_, rfl, gq hb50 rfl⟩⟩ (ov_ldI rfl underlying24 rfl rfl hp68 hg70) ?_
      refine lk (dt := some 22) R64_1_N rfl rfl ⟨_, rfl, .inl ⟨_, rfl, gq hb50 rfl⟩⟩ (opv_eqI rfl rfl rfl rfl rfl) ?_
      refine lk (dt := some 23) R64_1_N rfl rfl rfl (ov_pickT rfl rfl rfl rfl rfl hb50 rfl) ?_
      refine lk (dt := some 24) R64_1_N rfl rfl rfl (opv_move rfl rfl rfl) ?_
      rcases Bool.eq_false_or_eq_true (decide (x59 = x69)) with hb71 | hb71
      · replace H := cnd_t H hb71
        obtain ⟨b73, i74, p72, hp75, hv76, H⟩ := H
        refine lk (dt := some 25) R64_1_N rfl rfl ⟨_, rfl, .inl ⟨_, rfl, gq hb71 rfl⟩⟩ (ov_fldA rfl rfl underlying40 rfl sz25 (by decide) rfl hp75 rfl hv76) ?_
        obtain ⟨b77, i78, x80, hp79, hg81, H⟩ := H
        refine lk (dt := some 26) R64_1_N rfl rfl ⟨_, rfl, .inl ⟨_, rfl, gq hb71 rfl⟩⟩ (ov_ldV rfl underlying25 rfl rfl rfl hp79 hg81) ?_
        obtain ⟨l87, n86, s82, hs83, hq84, hv85, H⟩ := H
        have hl88 := srcB_len hs83
        refine lk (dt := some 27) R64_1_N rfl rfl ⟨_, rfl, .inl ⟨_, rfl, gq hb71 rfl⟩⟩ (ov_toS rfl rfl underlying25 underlying9 underlying5 rfl hs83 hq84 hv85) ?_
        obtain ⟨b90, i91, p89, hp92, hv93, H⟩ := H
        refine lk (dt := some 28) R64_1_N rfl rfl ⟨_, rfl, .inl ⟨_, rfl, gq hb71 rfl⟩⟩ (ov_fldA rfl rfl underlying40 rfl sz25 (by decide) rfl hp92 rfl hv93) ?_
        obtain ⟨b94, i95, x97, hp96, hg98, H⟩ := H
        refine lk (dt := some 29) R64_1_N rfl rfl ⟨_, rfl, .inl ⟨_, rfl, gq hb71 rfl⟩⟩ (ov_ldV rfl underlying25 rfl rfl rfl hp96 hg98) ?_
        obtain ⟨l104, n103, s99, hs100, hq101, hv102, H⟩ := H
        have hl105 := srcB_len hs100
        refine lk (dt := some 30) R64_1_N rfl rfl ⟨_, rfl, .inl ⟨_, rfl, gq hb71 rfl⟩⟩ (ov_toS rfl rfl underlying25 underlying9 underlying5 rfl hs100 hq101 hv102) ?_
        refine lk (dt := some 31) R64_1_N rfl rfl ⟨_, rfl, .inl ⟨_, rfl, gq hb71 rfl⟩⟩ (opv_eqS rfl rfl rfl rfl rfl) ?_
        refine lk (dt := some 32) R64_1_N rfl rfl rfl (ov_pickT rfl rfl rfl rfl rfl hb71 rfl) ?_
        refine lk (dt := some 4) R64_1_N rfl rfl rfl (opv_assign rfl rfl rfl) ?_
        refine aops_nil ?_
        exact ago_retE E64_4 (r := (decide (s82 = s99))) (ares_1 rfl (oneT rfl)) rfl H
      · replace H := cnd_f H hb71
        refine lk_skip (dt := some 25) R64_1_N rfl rfl ⟨_, rfl, .inl ⟨_, rfl, gq hb71 rfl⟩⟩ ?_
        refine lk_skip (dt := some 26) R64_1_N rfl rfl ⟨_, rfl, .inl ⟨_, rfl, gq hb71 rfl⟩⟩ ?_
        refine lk_skip (dt := some 27) R64_1_N rfl rfl ⟨_, rfl, .inl ⟨_, rfl, gq hb71 rfl⟩⟩ ?_
        refine lk_skip (dt := some 28) R64_1_N rfl rfl ⟨_, rfl, .inl ⟨_, rfl, gq hb71 rfl⟩⟩ ?_
        refine lk_skip (dt := some 29) R64_1_N rfl rfl ⟨_, rfl, .inl ⟨_, rfl, gq hb71 rfl⟩⟩ ?_
        refine lk_skip (dt := some 30) R64_1_N rfl rfl ⟨_, rfl, .inl ⟨_, rfl, gq hb71 rfl⟩⟩ ?_
        refine lk_skip (dt := some 31) R64_1_N rfl rfl ⟨_, rfl, .inl ⟨_, rfl, gq hb71 rfl⟩⟩ ?_
        refine lk (dt := some 32) R64_1_N rfl rfl rfl (ov_pickF rfl rfl rfl rfl rfl hb71 rfl) ?_
        refine lk (dt := some 4) R64_1_N rfl rfl rfl (opv_assign rfl rfl rfl) ?_
        refine aops_nil ?_
        exact ago_retE E64_4 (r := false) (ares_1 rfl (oneT rfl)) rfl H
    · replace H := cnd_f H hb50
      refine lk_skip (dt := some 18) R64_1_N rfl rfl ⟨_, rfl, .inl ⟨_, rfl, gq hb50 rfl⟩⟩ ?_
      refine lk_skip (dt := some 19) R64_1_N rfl rfl ⟨_, rfl, .inl ⟨_, rfl, gq hb50 rfl⟩⟩ ?_
      refine lk_skip (dt := some 20) R64_1_N rfl rfl ⟨_, rfl, .inl ⟨_, rfl, gq hb50 rfl⟩⟩ ?_
      refine lk_skip (dt := some 21) R64_1_N rfl rfl ⟨_, rfl, .inl ⟨_, rfl, gq hb50 rfl⟩⟩ ?_
      refine lk_skip (dt := some 22) R64_1_N rfl rfl ⟨_, rfl, .inl ⟨_, rfl, gq hb50 rfl⟩⟩ ?_
      refine lk (dt := some 23) R64_1_N rfl rfl rfl (ov_pickF rfl rfl rfl rfl rfl hb50 rfl) ?_
      refine lk (dt := some 24) R64_1_N rfl rfl rfl (opv_move rfl rfl rfl) ?_
      refine lk_skip (dt := some 25) R64_1_N rfl rfl ⟨_, rfl, .inl ⟨_, rfl, gq rfl rfl⟩⟩ ?_
      refine lk_skip (dt := some 26) R64_1_N rfl rfl ⟨_, rfl, .inl ⟨_, rfl, gq rfl rfl⟩⟩ ?_
      refine lk_skip (dt := some 27) R64_1_N rfl rfl ⟨_, rfl, .inl ⟨_, rfl, gq rfl rfl⟩⟩ ?_
      refine lk_skip (dt := some 28) R64_1_N rfl rfl ⟨_, rfl, .inl ⟨_, rfl, gq rfl rfl⟩⟩ ?_
      refine lk_skip (dt := some 29) R64_1_N rfl rfl ⟨_, rfl, .inl ⟨_, rfl, gq rfl rfl⟩⟩ ?_
      refine lk_skip (dt := some 30) R64_1_N rfl rfl ⟨_, rfl, .inl ⟨_, rfl, gq rfl rfl⟩⟩ ?_
      refine lk_skip (dt := some 31) R64_1_N rfl rfl ⟨_, rfl, .inl ⟨_, rfl, gq rfl rfl⟩⟩ ?_
      refine lk (dt := some 32) R64_1_N rfl rfl rfl (ov_pickF rfl rfl rfl rfl rfl rfl rfl) ?_
      refine lk (dt := some 4) R64_1_N rfl rfl rfl (opv_assign rfl rfl rfl) ?_
      refine aops_nil ?_
      exact ago_retE E64_4 (r := false) (ares_1 rfl (oneT rfl)) rfl H
  · replace H := cnd_f H hb29
    refine lk_skip (dt := some 11) R64_1_N rfl rfl ⟨_, rfl, .inl ⟨_, rfl, gq hb29 rfl⟩⟩ ?_
    refine lk_skip (dt := some 12) R64_1_N rfl rfl ⟨_, rfl, .inl ⟨_, rfl, gq hb29 rfl⟩⟩ ?_
    refine lk_skip (dt := some 13) R64_1_N rfl rfl ⟨_, rfl, .inl ⟨_, rfl, gq hb29 rfl⟩⟩ ?_
    refine lk_skip (dt := some 14) R64_1_N rfl rfl ⟨_, rfl, .inl ⟨_, rfl, gq hb29 rfl⟩⟩ ?_
    refine lk_skip (dt := some 15) R64_1_N rfl rfl ⟨_, rfl, .inl ⟨_, rfl, gq hb29 rfl⟩⟩ ?_
    refine lk (dt := some 16) R64_1_N rfl rfl rfl (ov_pickF rfl rfl rfl rfl rfl hb29 rfl) ?_
    refine lk (dt := some 17) R64_1_N rfl rfl rfl (opv_move rfl rfl rfl) ?_
    refine lk_skip (dt := some 18) R64_1_N rfl rfl ⟨_, rfl, .inl ⟨_, rfl, gq rfl rfl⟩⟩ ?_
    refine lk_skip (dt := some 19) R64_1_N rfl rfl ⟨_, rfl, .inl ⟨_, rfl, gq rfl rfl⟩⟩ ?_
    refine lk_skip (dt := some 20) R64_1_N rfl rfl ⟨_, rfl, .inl ⟨_, rfl, gq rfl rfl⟩⟩ ?_
    refine lk_skip (dt := some 21) R64_1_N rfl rfl ⟨_, rfl, .inl ⟨_, rfl, gq rfl rfl⟩⟩ ?_
    refine lk_skip (dt := some 22) R64_1_N rfl rfl ⟨_, rfl, .inl ⟨_, rfl, gq rfl rfl⟩⟩ ?_
    refine lk (dt := some 23) R64_1_N rfl rfl rfl (ov_pickF rfl rfl rfl rfl rfl rfl rfl) ?_
    refine lk (dt := some 24) R64_1_N rfl rfl rfl (opv_move rfl rfl rfl) ?_
    refine lk_skip (dt := some 25) R64_1_N rfl rfl ⟨_, rfl, .inl ⟨_, rfl, gq rfl rfl⟩⟩ ?_
    refine lk_skip (dt := some 26) R64_1_N rfl rfl ⟨_, rfl, .inl ⟨_, rfl, gq rfl rfl⟩⟩ ?_
    refine lk_skip (dt := some 27) R64_1_N rfl rfl ⟨_, rfl, .inl ⟨_, rfl, gq rfl rfl⟩⟩ ?_
    refine lk_skip (dt := some 28) R64_1_N rfl rfl ⟨_, rfl, .inl ⟨_, rfl, gq rfl rfl⟩⟩ ?_
    refine lk_skip (dt := some 29) R64_1_N rfl rfl ⟨_, rfl, .inl ⟨_, rfl, gq rfl rfl⟩⟩ ?_
    refine lk_skip (dt := some 30) R64_1_N rfl rfl ⟨_, rfl, .inl ⟨_, rfl, gq rfl rfl⟩⟩ ?_
    refine lk_skip (dt := some 31) R64_1_N rfl rfl ⟨_, rfl, .inl ⟨_, rfl, gq rfl rfl⟩⟩ ?_
    refine lk (dt := some 32) R64_1_N rfl rfl rfl (ov_pickF rfl rfl rfl rfl rfl rfl rfl) ?_
    refine lk (dt := some 4) R64_1_N rfl rfl rfl (opv_assign rfl rfl rfl) ?_
    refine aops_nil ?_
    exact ago_retE E64_4 (r := false) (ares_1 rfl (oneT rfl)) rfl H
theorem F64_ok {Q : Bool → AW → Prop} {E : List PanicEntry → AW → Prop} (a_0_0 : Int) (a_0_1 : Int) (a_0_2 : Int) (a_0_3 : Value) (b_1_0 : Int) (b_1_1 : Int) (b_1_2 : Int) (b_1_3 : Value) (aw : AW) (H : S64_0 Q E a_0_0 a_0_1 a_0_2 a_0_3 b_1_0 b_1_1 b_1_2 b_1_3 aw) : CallP prog 64 [.agg #[.int .u64 a_0_0, .int .u64 a_0_1, .int .u64 a_0_2, a_0_3], .agg #[.int .u64 b_1_0, .int .u64 b_1_1, .int .u64 b_1_2, b_1_3]] aw sh64 Q E :=
  callP_of func64 C64_is rfl (Nat.le_of_ble_eq_true rfl) (S64_0_ok Q E _ a_0_0 a_0_1 a_0_2 a_0_3 b_1_0 b_1_1 b_1_2 b_1_3 aw rfl rfl H)
end
end Go.Proofs.Try
