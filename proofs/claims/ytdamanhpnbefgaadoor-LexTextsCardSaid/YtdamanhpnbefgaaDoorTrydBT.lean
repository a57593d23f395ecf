/- Printed by a program of the prover: what the Go functions of this seat do, in steps. -/
import Derived.Test.YtdamanhpnbefgaaDoorTrydB
set_option linter.unusedVariables false
namespace Go.Proofs.Tryd
open Go Go.Am Go.RowKit
/-! ### battledore/battledorelaw03.LexTexts: function 7 -/
noncomputable def C7_0 : Code := bodyOf f7
theorem C7_is : f7.body = some C7_0 := by kernel_rfl
noncomputable def C7_1 : Code := cl C7_0
noncomputable def R7_0 : Array Oper := regOps C7_1
noncomputable def C7_2 : Code := cr C7_0
noncomputable def C7_3 : Code := cl C7_2
noncomputable def C7_4 : Code := cl C7_3
noncomputable def R7_1 : Array Oper := regOps C7_4
noncomputable def C7_5 : Code := cr C7_3
noncomputable def C7_6 : Code := cl C7_5
noncomputable def C7_7 : Code := cl C7_6
noncomputable def R7_2 : Array Oper := regOps C7_7
noncomputable def C7_8 : Code := cr C7_6
noncomputable def C7_9 : Code := cr C7_5
noncomputable def C7_10 : Code := cr C7_2
noncomputable def C7_11 : Code := cl C7_10
noncomputable def R7_3 : Array Oper := regOps C7_11
noncomputable def C7_12 : Code := cr C7_10
noncomputable def C7_13 : Code := cl C7_12
noncomputable def C7_14 : Code := cl C7_13
noncomputable def R7_4 : Array Oper := regOps C7_14
noncomputable def C7_15 : Code := cr C7_13
noncomputable def C7_16 : Code := cl C7_15
noncomputable def C7_17 : Code := cl C7_16
noncomputable def C7_18 : Code := cl C7_17
noncomputable def C7_19 : Code := cl C7_18
noncomputable def R7_5 : Array Oper := regOps C7_19
noncomputable def C7_20 : Code := cr C7_18
noncomputable def C7_21 : Code := cl C7_20
noncomputable def C7_22 : Code := cr C7_20
noncomputable def C7_23 : Code := cr C7_17
noncomputable def C7_24 : Code := cl C7_23
noncomputable def C7_25 : Code := cl C7_24
noncomputable def C7_26 : Code := cl C7_25
noncomputable def R7_7 : Array Oper := regOps C7_26
noncomputable def C7_27 : Code := cr C7_25
noncomputable def C7_28 : Code := cl C7_27
noncomputable def C7_29 : Code := cl C7_28
noncomputable def R7_9 : Array Oper := regOps C7_29
noncomputable def C7_30 : Code := cr C7_28
noncomputable def C7_31 : Code := cl C7_30
noncomputable def R7_10 : Array Oper := regOps C7_31
noncomputable def C7_32 : Code := cr C7_30
noncomputable def C7_33 : Code := cl C7_32
noncomputable def R7_11 : Array Oper := regOps C7_33
noncomputable def C7_34 : Code := cr C7_32
noncomputable def C7_35 : Code := cl C7_34
noncomputable def R7_12 : Array Oper := regOps C7_35
noncomputable def C7_36 : Code := cr C7_34
noncomputable def C7_37 : Code := cl C7_36
noncomputable def R7_13 : Array Oper := regOps C7_37
noncomputable def C7_38 : Code := cr C7_36
noncomputable def C7_39 : Code := cl C7_38
noncomputable def R7_14 : Array Oper := regOps C7_39
noncomputable def C7_40 : Code := cr C7_38
noncomputable def C7_41 : Code := cl C7_40
noncomputable def R7_15 : Array Oper := regOps C7_41
noncomputable def C7_42 : Code := cr C7_40
noncomputable def C7_43 : Code := cl C7_42
noncomputable def R7_16 : Array Oper := regOps C7_43
noncomputable def C7_44 : Code := cr C7_42
noncomputable def R7_8 : Array Oper := regOps C7_44
noncomputable def C7_45 : Code := cr C7_23
noncomputable def R7_6 : Array Oper := regOps C7_45
noncomputable def C7_46 : Code := cr C7_12
noncomputable def C7_47 : Code := cl C7_46
noncomputable def R7_17 : Array Oper := regOps C7_47
noncomputable def C7_48 : Code := cr C7_46
noncomputable def C7_49 : Code := cl C7_48
noncomputable def R7_18 : Array Oper := regOps C7_49
noncomputable def C7_50 : Code := cr C7_48
noncomputable def C7_51 : Code := cl C7_50
noncomputable def R7_19 : Array Oper := regOps C7_51
noncomputable def C7_52 : Code := cr C7_50
theorem R7_0_N : dstsOk 92 R7_0 = true := by decide +kernel
theorem E7_1 : C7_1 = .region 0 R7_0 false := rfl
theorem R7_1_N : dstsOk 92 R7_1 = true := by decide +kernel
theorem E7_4 : C7_4 = .region 1 R7_1 false := rfl
theorem R7_2_N : dstsOk 92 R7_2 = true := by decide +kernel
theorem E7_7 : C7_7 = .region 2 R7_2 false := rfl
theorem E7_8 : C7_8 = .ret := rfl
theorem E7_6 : C7_6 = .seq C7_7 C7_8 := rfl
theorem E7_9 : C7_9 = .skip := rfl
theorem E7_5 : C7_5 = .cond (.tmp 17) C7_6 C7_9 := rfl
theorem E7_3 : C7_3 = .seq C7_4 C7_5 := rfl
theorem R7_3_N : dstsOk 92 R7_3 = true := by decide +kernel
theorem E7_11 : C7_11 = .region 3 R7_3 false := rfl
theorem R7_4_N : dstsOk 92 R7_4 = true := by decide +kernel
theorem E7_14 : C7_14 = .region 4 R7_4 false := rfl
theorem R7_5_N : dstsOk 92 R7_5 = true := by decide +kernel
theorem E7_19 : C7_19 = .region 5 R7_5 false := rfl
theorem E7_21 : C7_21 = .skip := rfl
theorem E7_22 : C7_22 = .exit 0 := rfl
theorem E7_20 : C7_20 = .cond (.tmp 22) C7_21 C7_22 := rfl
theorem E7_18 : C7_18 = .seq C7_19 C7_20 := rfl
theorem R7_7_N : dstsOk 92 R7_7 = true := by decide +kernel
theorem E7_26 : C7_26 = .region 7 R7_7 false := rfl
theorem R7_9_N : dstsOk 92 R7_9 = true := by decide +kernel
theorem E7_29 : C7_29 = .region 9 R7_9 false := rfl
theorem R7_10_N : dstsOk 92 R7_10 = true := by decide +kernel
theorem E7_31 : C7_31 = .region 10 R7_10 false := rfl
theorem R7_11_N : dstsOk 92 R7_11 = true := by decide +kernel
theorem E7_33 : C7_33 = .region 11 R7_11 false := rfl
theorem R7_12_N : dstsOk 92 R7_12 = true := by decide +kernel
theorem E7_35 : C7_35 = .region 12 R7_12 false := rfl
theorem R7_13_N : dstsOk 92 R7_13 = true := by decide +kernel
theorem E7_37 : C7_37 = .region 13 R7_13 false := rfl
theorem R7_14_N : dstsOk 92 R7_14 = true := by decide +kernel
theorem E7_39 : C7_39 = .region 14 R7_14 false := rfl
theorem R7_15_N : dstsOk 92 R7_15 = true := by decide +kernel
theorem E7_41 : C7_41 = .region 15 R7_15 false := rfl
theorem R7_16_N : dstsOk 92 R7_16 = true := by decide +kernel
theorem E7_43 : C7_43 = .region 16 R7_16 false := rfl
theorem R7_8_N : dstsOk 92 R7_8 = true := by decide +kernel
theorem E7_44 : C7_44 = .region 8 R7_8 false := rfl
theorem E7_42 : C7_42 = .cond (.tmp 49) C7_43 C7_44 := rfl
theorem E7_40 : C7_40 = .seq C7_41 C7_42 := rfl
theorem E7_38 : C7_38 = .cond (.tmp 45) C7_39 C7_40 := rfl
theorem E7_36 : C7_36 = .seq C7_37 C7_38 := rfl
theorem E7_34 : C7_34 = .cond (.tmp 41) C7_35 C7_36 := rfl
theorem E7_32 : C7_32 = .seq C7_33 C7_34 := rfl
theorem E7_30 : C7_30 = .cond (.tmp 37) C7_31 C7_32 := rfl
theorem E7_28 : C7_28 = .seq C7_29 C7_30 := rfl
theorem E7_27 : C7_27 = .block 2 C7_28 := rfl
theorem E7_25 : C7_25 = .seq C7_26 C7_27 := rfl
theorem E7_24 : C7_24 = .block 1 C7_25 := rfl
theorem R7_6_N : dstsOk 92 R7_6 = true := by decide +kernel
theorem E7_45 : C7_45 = .region 6 R7_6 false := rfl
theorem E7_23 : C7_23 = .seq C7_24 C7_45 := rfl
theorem E7_17 : C7_17 = .seq C7_18 C7_23 := rfl
theorem E7_16 : C7_16 = .loop C7_17 := rfl
theorem E7_15 : C7_15 = .block 0 C7_16 := rfl
theorem E7_13 : C7_13 = .seq C7_14 C7_15 := rfl
theorem R7_17_N : dstsOk 92 R7_17 = true := by decide +kernel
theorem E7_47 : C7_47 = .region 17 R7_17 false := rfl
theorem R7_18_N : dstsOk 92 R7_18 = true := by decide +kernel
theorem E7_49 : C7_49 = .region 18 R7_18 false := rfl
theorem R7_19_N : dstsOk 92 R7_19 = true := by decide +kernel
theorem R7_19_O : drawOk R7_19 [0, 1, 2, 3, 4, 5, 6, 7, 8, 9, 10, 11, 12, 13, 14, 15, 16, 17, 18, 19, 20, 21, 22, 23, 24, 25, 26] [] = true := by decide +kernel
theorem E7_51 : C7_51 = .region 19 R7_19 true := rfl
theorem E7_52 : C7_52 = .ret := rfl
theorem E7_50 : C7_50 = .seq C7_51 C7_52 := rfl
theorem E7_48 : C7_48 = .seq C7_49 C7_50 := rfl
theorem E7_46 : C7_46 = .seq C7_47 C7_48 := rfl
theorem E7_12 : C7_12 = .seq C7_13 C7_46 := rfl
theorem E7_10 : C7_10 = .seq C7_11 C7_12 := rfl
theorem E7_2 : C7_2 = .seq C7_3 C7_10 := rfl
theorem E7_0 : C7_0 = .seq C7_1 C7_2 := rfl
def S7_2 (Q : Bool → AW → Prop) (E : List PanicEntry → AW → Prop) (nx1 : Value → ByteArray → Int → AW → Prop) (p_0 : Value) (s_3 : ByteArray) (i_4 : Int) (aw : AW) : Prop :=
  nx1 p_0 s_3 (IntKind.i64.wrap (i_4 + 1)) aw
def S7_1s (Q : Bool → AW → Prop) (E : List PanicEntry → AW → Prop)  (nx1 : Value → ByteArray → Int → AW → Prop) (p_0 : Value) (s_3 : ByteArray) (i_4 : Int) (aw : AW) : Prop :=
  slen p_0 fun n1 =>
  cnd (decide (i_4 < n1)) (ixS p_0 i_4 1 fun p8 =>
  ldI .u8 aw p8 fun x20 =>
  cnd (decide (x20 = 10)) (s_3.size + (⟨#[92, 110]⟩ : ByteArray).size ≤ 2 ^ 62 ∧ S7_2 Q E nx1 p_0 (s_3 ++ (⟨#[92, 110]⟩ : ByteArray)) i_4 aw) (cnd (decide (x20 = 9)) (s_3.size + (⟨#[92, 116]⟩ : ByteArray).size ≤ 2 ^ 62 ∧ S7_2 Q E nx1 p_0 (s_3 ++ (⟨#[92, 116]⟩ : ByteArray)) i_4 aw) (cnd (decide (x20 = 34)) (s_3.size + (⟨#[92, 34]⟩ : ByteArray).size ≤ 2 ^ 62 ∧ S7_2 Q E nx1 p_0 (s_3 ++ (⟨#[92, 34]⟩ : ByteArray)) i_4 aw) (cnd (decide (x20 = 92)) (s_3.size + (⟨#[92, 92]⟩ : ByteArray).size ≤ 2 ^ 62 ∧ S7_2 Q E nx1 p_0 (s_3 ++ (⟨#[92, 92]⟩ : ByteArray)) i_4 aw) (cutV aw 1 p_0 i_4 (IntKind.i64.wrap (i_4 + 1)) fun v30 =>
  toS aw v30 fun s32 =>
  s_3.size + s32.size ≤ 2 ^ 62 ∧ S7_2 Q E nx1 p_0 (s_3 ++ s32) i_4 aw))))) (s_3.size + (⟨#[34]⟩ : ByteArray).size ≤ 2 ^ 62 ∧ CallP prog 10 [.string (s_3 ++ (⟨#[34]⟩ : ByteArray))] aw sh10 (fun r40 aw41 =>
  CallP prog 10 [.string s_3] aw41 sh10 (fun r42 aw43 =>
  cnd (decide (r40.2.2 = 0)) (slen r40.1 fun n45 =>
  cnd (decide (n45 = 2)) (ixS r40.1 0 3 fun p52 =>
  ∃ b61 i62 c64 c65 c66, p52 = .pointer (some ⟨b61, i62, none⟩) ∧ aw43.get b61 i62 = some (.int .u8 c64) ∧ aw43.get b61 (i62 + 1) = some (.string c65) ∧ aw43.get b61 (i62 + 2) = some (.int .i64 c66) ∧ toS aw43 p_0 fun s70 =>
  cnd ((decide (c64 = 5) && (decide (c65 = s70) && (decide (c66 = 0) && (true))))) (cnd (decide (r42.2.2 = 4)) (Q (decide (r42.2.1 = (s_3.size : Int))) aw43) (Q false aw43)) (Q false aw43)) (Q false aw43)) (Q false aw43)) E) E)
def S7_1 (Q : Bool → AW → Prop) (E : List PanicEntry → AW → Prop)  : Nat → Value → ByteArray → Int → AW → Prop
  | 0 => fun _ _ _ _ => False
  | n + 1 => S7_1s Q E  (S7_1 Q E  n)
def S7_0 (Q : Bool → AW → Prop) (E : List PanicEntry → AW → Prop)  (p_0 : Value) (aw : AW) : Prop :=
  CallP prog 9 [] aw sh9 (fun r78 aw79 =>
  cnd (!r78) (CallP prog 9 [] aw79 sh9 (fun r82 aw83 =>
  Q r82 aw83) E) (slen p_0 fun n84 =>
  cnd (decide (900 < n84)) (CallP prog 9 [] aw79 sh9 (fun r91 aw92 =>
  Q r91 aw92) E) (∃ n, S7_1 Q E  n p_0 (⟨#[34]⟩ : ByteArray) 0 aw79))) E
set_option maxHeartbeats 4000000 in
set_option maxRecDepth 100000 in
theorem S7_2_ok (Q : Bool → AW → Prop) (E : List PanicEntry → AW → Prop) (nx1 : Value → ByteArray → Int → AW → Prop) (L1 : ∀ (ρ : Env) (p_0 : Value) (s_3 : ByteArray) (i_4 : Int) (aw : AW) (h0 : ρ 0 = p_0) (h3 : ρ 3 = .string s_3) (h4 : ρ 4 = .int .i64 i_4), nx1 p_0 s_3 i_4 aw → AGo prog 92 [.code C7_17, .inLoop C7_17, .inBlock 0, .code C7_46] ρ [] aw (RR prog f7 92 sh7 Q E)) (ρ : Env) (p_0 : Value) (s_3 : ByteArray) (i_4 : Int) (aw : AW) (h0 : ρ 0 = p_0) (h3 : ρ 3 = .string s_3) (h4 : ρ 4 = .int .i64 i_4) (H : S7_2 Q E nx1 p_0 s_3 i_4 aw) :
    AGo prog 92 [.inBlock 2, .inBlock 1, .code C7_45, .inLoop C7_17, .inBlock 0, .code C7_46] ρ [] aw (RR prog f7 92 sh7 Q E) := by
  unfold S7_2 at H
  refine ago_inBlock ?_
  refine ago_inBlock ?_
  refine ago_regE E7_45 (l := [0, 1, 2]) rfl ?_
  refine lk (dt := some 23) R7_6_N rfl rfl rfl (opv_move rfl rfl h4) ?_
  refine lk (dt := some 24) R7_6_N rfl rfl rfl (opv_add rfl rfl rfl rfl rfl) ?_
  refine lk (dt := some 4) R7_6_N rfl rfl rfl (opv_assign rfl rfl rfl) ?_
  refine aops_nil ?_
  refine ago_inLoop ?_
  exact L1 _ p_0 s_3 (IntKind.i64.wrap (i_4 + 1)) aw h0 h3 rfl H
set_option maxHeartbeats 4000000 in
set_option maxRecDepth 100000 in
theorem S7_1s_ok (Q : Bool → AW → Prop) (E : List PanicEntry → AW → Prop)  (nx1 : Value → ByteArray → Int → AW → Prop) (L1 : ∀ (ρ : Env) (p_0 : Value) (s_3 : ByteArray) (i_4 : Int) (aw : AW) (h0 : ρ 0 = p_0) (h3 : ρ 3 = .string s_3) (h4 : ρ 4 = .int .i64 i_4), nx1 p_0 s_3 i_4 aw → AGo prog 92 [.code C7_17, .inLoop C7_17, .inBlock 0, .code C7_46] ρ [] aw (RR prog f7 92 sh7 Q E)) (ρ : Env) (p_0 : Value) (s_3 : ByteArray) (i_4 : Int) (aw : AW) (h0 : ρ 0 = p_0) (h3 : ρ 3 = .string s_3) (h4 : ρ 4 = .int .i64 i_4) (H : S7_1s Q E  nx1 p_0 s_3 i_4 aw) :
    AGo prog 92 [.code C7_17, .inLoop C7_17, .inBlock 0, .code C7_46] ρ [] aw (RR prog f7 92 sh7 Q E) := by
  unfold S7_1s at H
  refine ago_seqE E7_17 ?_
  refine ago_seqE E7_18 ?_
  refine ago_regE E7_19 (l := [0, 1, 2, 3]) rfl ?_
  refine lk (dt := some 19) R7_5_N rfl rfl rfl (opv_move rfl rfl h4) ?_
  refine lk (dt := some 20) R7_5_N rfl rfl rfl (opv_move rfl rfl h0) ?_
  obtain ⟨q2, l3, c4, n1, hv5, hn6, H⟩ := H
  refine lk (dt := some 21) R7_5_N rfl rfl rfl (ov_len rfl rfl rfl underlying30 rfl hv5 hn6) ?_
  refine lk (dt := some 22) R7_5_N rfl rfl rfl (opv_lt rfl rfl rfl rfl rfl) ?_
  refine aops_nil ?_
  refine ago_condE  E7_20 rfl rfl (fun hb7 => ?_) (fun hb7 => ?_)
  · replace H := cnd_t H hb7
    refine ago_skipE E7_21 ?_
    refine ago_seqE E7_23 ?_
    refine ago_blockE E7_24 ?_
    refine ago_seqE E7_25 ?_
    refine ago_regE E7_26 (l := [0, 1, 2, 3]) rfl ?_
    refine lk (dt := some 25) R7_7_N rfl rfl rfl (opv_move rfl rfl h0) ?_
    refine lk (dt := some 26) R7_7_N rfl rfl rfl (opv_move rfl rfl h4) ?_
    obtain ⟨b9, i10, l11, c12, p8, hp13, h014, hj15, hv16, H⟩ := H
    refine lk (dt := some 27) R7_7_N rfl rfl rfl (ov_ixS rfl rfl rfl underlying30 sz5 rfl rfl hp13 h014 hj15 hv16) ?_
    obtain ⟨b17, i18, x20, hp19, hg21, H⟩ := H
    refine lk (dt := some 28) R7_7_N rfl rfl rfl (ov_ldI rfl underlying5 rfl rfl hp19 hg21) ?_
    refine aops_nil ?_
    refine ago_blockE E7_27 ?_
    refine ago_seqE E7_28 ?_
    refine ago_regE E7_29 (l := [0, 1]) rfl ?_
    refine lk (dt := some 38) R7_9_N rfl rfl rfl (opv_eqI rfl rfl rfl rfl rfl) ?_
    refine lk (dt := some 37) R7_9_N rfl rfl rfl (opv_assign rfl rfl rfl) ?_
    refine aops_nil ?_
    refine ago_condE  E7_30 rfl rfl (fun hb22 => ?_) (fun hb22 => ?_)
    · replace H := cnd_t H hb22
      refine ago_regE E7_31 (l := [0, 1, 2]) rfl ?_
      refine lk (dt := some 39) R7_10_N rfl rfl rfl (opv_move rfl rfl h3) ?_
      obtain ⟨hz23, H⟩ := H
      refine lk (dt := some 40) R7_10_N rfl rfl rfl (opv_cat rfl rfl rfl rfl rfl hz23) ?_
      refine lk (dt := some 3) R7_10_N rfl rfl rfl (opv_assign rfl rfl rfl) ?_
      refine aops_nil ?_
      exact S7_2_ok Q E nx1 L1 _ p_0 (s_3 ++ (⟨#[92, 110]⟩ : ByteArray)) i_4 aw h0 rfl h4 H
    · replace H := cnd_f H hb22
      refine ago_seqE E7_32 ?_
      refine ago_regE E7_33 (l := [0, 1]) rfl ?_
      refine lk (dt := some 42) R7_11_N rfl rfl rfl (opv_eqI rfl rfl rfl rfl rfl) ?_
      refine lk (dt := some 41) R7_11_N rfl rfl rfl (opv_assign rfl rfl rfl) ?_
      refine aops_nil ?_
      refine ago_condE  E7_34 rfl rfl (fun hb24 => ?_) (fun hb24 => ?_)
      · replace H := cnd_t H hb24
        refine ago_cut (fun ρ => ρ 0 = p_0 ∧ ρ 3 = .string s_3 ∧ ρ 4 = .int .i64 i_4 ∧ True) ⟨h0, h3, h4, trivial⟩ (fun ρ ⟨h0, h3, h4, _⟩ => ?_)
        refine ago_regE E7_35 (l := [0, 1, 2]) rfl ?_
        refine lk (dt := some 43) R7_12_N rfl rfl rfl (opv_move rfl rfl h3) ?_
        obtain ⟨hz25, H⟩ := H
        refine lk (dt := some 44) R7_12_N rfl rfl rfl (opv_cat rfl rfl rfl rfl rfl hz25) ?_
        refine lk (dt := some 3) R7_12_N rfl rfl rfl (opv_assign rfl rfl rfl) ?_
        refine aops_nil ?_
        exact S7_2_ok Q E nx1 L1 _ p_0 (s_3 ++ (⟨#[92, 116]⟩ : ByteArray)) i_4 aw h0 rfl h4 H
      · replace H := cnd_f H hb24
        refine ago_seqE E7_36 ?_
        refine ago_cut (fun ρ => ρ 0 = p_0 ∧ ρ 3 = .string s_3 ∧ ρ 4 = .int .i64 i_4 ∧ ρ 28 = .int .u8 x20 ∧ True) ⟨h0, h3, h4, rfl, trivial⟩ (fun ρ ⟨h0, h3, h4, h28, _⟩ => ?_)
        refine ago_regE E7_37 (l := [0, 1]) rfl ?_
        refine lk (dt := some 46) R7_13_N rfl rfl rfl (opv_eqI rfl rfl rfl h28 rfl) ?_
        refine lk (dt := some 45) R7_13_N rfl rfl rfl (opv_assign rfl rfl rfl) ?_
        refine aops_nil ?_
        refine ago_condE  E7_38 rfl rfl (fun hb26 => ?_) (fun hb26 => ?_)
        · replace H := cnd_t H hb26
          refine ago_regE E7_39 (l := [0, 1, 2]) rfl ?_
          refine lk (dt := some 47) R7_14_N rfl rfl rfl (opv_move rfl rfl h3) ?_
          obtain ⟨hz27, H⟩ := H
          refine lk (dt := some 48) R7_14_N rfl rfl rfl (opv_cat rfl rfl rfl rfl rfl hz27) ?_
          refine lk (dt := some 3) R7_14_N rfl rfl rfl (opv_assign rfl rfl rfl) ?_
          refine aops_nil ?_
          exact S7_2_ok Q E nx1 L1 _ p_0 (s_3 ++ (⟨#[92, 34]⟩ : ByteArray)) i_4 aw h0 rfl h4 H
        · replace H := cnd_f H hb26
          refine ago_seqE E7_40 ?_
          refine ago_regE E7_41 (l := [0, 1]) rfl ?_
          refine lk (dt := some 50) R7_15_N rfl rfl rfl (opv_eqI rfl rfl rfl h28 rfl) ?_
          refine lk (dt := some 49) R7_15_N rfl rfl rfl (opv_assign rfl rfl rfl) ?_
          refine aops_nil ?_
          refine ago_condE  E7_42 rfl rfl (fun hb28 => ?_) (fun hb28 => ?_)
          · replace H := cnd_t H hb28
            refine ago_regE E7_43 (l := [0, 1, 2]) rfl ?_
            refine lk (dt := some 51) R7_16_N rfl rfl rfl (opv_move rfl rfl h3) ?_
            obtain ⟨hz29, H⟩ := H
            refine lk (dt := some 52) R7_16_N rfl rfl rfl (opv_cat rfl rfl rfl rfl rfl hz29) ?_
            refine lk (dt := some 3) R7_16_N rfl rfl rfl (opv_assign rfl rfl rfl) ?_
            refine aops_nil ?_
            exact S7_2_ok Q E nx1 L1 _ p_0 (s_3 ++ (⟨#[92, 92]⟩ : ByteArray)) i_4 aw h0 rfl h4 H
          · replace H := cnd_f H hb28
            refine ago_regE E7_44 (l := [0, 1, 2, 3, 4, 5, 6, 7, 8]) rfl ?_
            refine lk (dt := some 29) R7_8_N rfl rfl rfl (opv_move rfl rfl h3) ?_
            refine lk (dt := some 30) R7_8_N rfl rfl rfl (opv_move rfl rfl h0) ?_
            refine lk (dt := some 31) R7_8_N rfl rfl rfl (opv_move rfl rfl h4) ?_
            refine lk (dt := some 32) R7_8_N rfl rfl rfl (opv_move rfl rfl h4) ?_
            refine lk (dt := some 33) R7_8_N rfl rfl rfl (opv_add rfl rfl rfl rfl rfl) ?_
            obtain ⟨v30, hq31, H⟩ := H
            refine lk (dt := some 34) R7_8_N rfl rfl rfl (ov_cutV rfl rfl underlying30 sz5 rfl (bndS rfl) (bndS rfl) hq31) ?_
            obtain ⟨l37, n36, s32, hs33, hq34, hv35, H⟩ := H
            refine lk (dt := some 35) R7_8_N rfl rfl rfl (ov_toS rfl rfl underlying30 underlying9 underlying5 rfl hs33 hq34 hv35) ?_
            obtain ⟨hz38, H⟩ := H
            refine lk (dt := some 36) R7_8_N rfl rfl rfl (opv_cat rfl rfl rfl rfl rfl hz38) ?_
            refine lk (dt := some 3) R7_8_N rfl rfl rfl (opv_assign rfl rfl rfl) ?_
            refine aops_nil ?_
            exact S7_2_ok Q E nx1 L1 _ p_0 (s_3 ++ s32) i_4 aw h0 rfl h4 H
  · replace H := cnd_f H hb7
    refine ago_exitE E7_22 rfl ?_
    refine ago_seqE E7_46 ?_
    refine ago_regE E7_47 (l := [0, 1, 2, 3, 4, 5, 6, 7, 8, 9]) rfl ?_
    refine lk (dt := some 54) R7_17_N rfl rfl rfl (opv_move rfl rfl h3) ?_
    obtain ⟨hz39, H⟩ := H
    refine lk (dt := some 55) R7_17_N rfl rfl rfl (opv_cat rfl rfl rfl rfl rfl hz39) ?_
    refine lk_call (dt := some 56) R7_17_N rfl rfl rfl (opc_of rfl rfl is10 (ma_cons rfl rfl)) H (fun _ _ h => ⟨rfl, h⟩) fun r40 aw41 H => ?_
    refine lk (dt := some 53) R7_17_N rfl rfl rfl (opv_move rfl rfl rfl) ?_
    refine lk (dt := some 57) R7_17_N rfl rfl rfl (opv_extract rfl rfl rfl rfl) ?_
    refine lk (dt := some 58) R7_17_N rfl rfl rfl (opv_extract rfl rfl rfl rfl) ?_
    refine lk (dt := some 59) R7_17_N rfl rfl rfl (opv_extract rfl rfl rfl rfl) ?_
    refine lk (dt := some 5) R7_17_N rfl rfl rfl (opv_assign rfl rfl rfl) ?_
    refine lk (dt := some 6) R7_17_N rfl rfl rfl (opv_assign rfl rfl rfl) ?_
    refine lk (dt := some 7) R7_17_N rfl rfl rfl (opv_assign rfl rfl rfl) ?_
    refine aops_nil ?_
    refine ago_seqE E7_48 ?_
    refine ago_cut (fun ρ => ρ 0 = p_0 ∧ ρ 3 = .string s_3 ∧ ρ 5 = r40.1 ∧ ρ 7 = .int .i64 r40.2.2 ∧ True) ⟨h0, h3, rfl, rfl, trivial⟩ (fun ρ ⟨h0, h3, h5, h7, _⟩ => ?_)
    refine ago_regE E7_49 (l := [0, 1, 2, 3, 4, 5, 6, 7, 8]) rfl ?_
    refine lk (dt := some 61) R7_18_N rfl rfl rfl (opv_move rfl rfl h3) ?_
    refine lk_call (dt := some 62) R7_18_N rfl rfl rfl (opc_of rfl rfl is10 (ma_cons rfl rfl)) H (fun _ _ h => ⟨rfl, h⟩) fun r42 aw43 H => ?_
    refine lk (dt := some 60) R7_18_N rfl rfl rfl (opv_move rfl rfl rfl) ?_
    refine lk (dt := some 63) R7_18_N rfl rfl rfl (opv_extract rfl rfl rfl rfl) ?_
    refine lk (dt := some 64) R7_18_N rfl rfl rfl (opv_extract rfl rfl rfl rfl) ?_
    refine lk (dt := some 65) R7_18_N rfl rfl rfl (opv_extract rfl rfl rfl rfl) ?_
    refine lk (dt := some 8) R7_18_N rfl rfl rfl (opv_assign rfl rfl rfl) ?_
    refine lk (dt := some 9) R7_18_N rfl rfl rfl (opv_assign rfl rfl rfl) ?_
    refine lk (dt := some 10) R7_18_N rfl rfl rfl (opv_assign rfl rfl rfl) ?_
    refine aops_nil ?_
    refine ago_seqE E7_50 ?_
    rcases Bool.eq_false_or_eq_true (decide (r40.2.2 = 0)) with hb44 | hb44
    · replace H := cnd_t H hb44
      obtain ⟨q46, l47, c48, n45, hv49, hn50, H⟩ := H
      rcases Bool.eq_false_or_eq_true (decide (n45 = 2)) with hb51 | hb51
      · replace H := cnd_t H hb51
        obtain ⟨b53, i54, l55, c56, p52, hp57, h058, hj59, hv60, H⟩ := H
        obtain ⟨b61, i62, c64, c65, c66, hp63, hg67, hg68, hg69, H⟩ := H
        obtain ⟨l75, n74, s70, hs71, hq72, hv73, H⟩ := H
        rcases Bool.eq_false_or_eq_true ((decide (c64 = 5) && (decide (c65 = s70) && (decide (c66 = 0) && (true))))) with hb76 | hb76
        · replace H := cnd_t H hb76
          rcases Bool.eq_false_or_eq_true (decide (r42.2.2 = 4)) with hb77 | hb77
          · replace H := cnd_t H hb77
            refine ago_drawE (hs := [0, 1, 2, 3, 4, 5, 6, 7, 8, 9, 10, 11, 12, 13, 14, 15, 16, 17, 18, 19, 20, 21, 22, 23, 24, 25, 26]) (fl := []) (hv := [(0, Value.int .i64 r40.2.2), (1, Value.bool (decide (r40.2.2 = 0))), (2, Value.bool (decide (r40.2.2 = 0))), (3, r40.1), (4, Value.int .i64 n45), (5, Value.bool (decide (n45 = 2))), (6, Value.bool (decide (n45 = 2))), (7, Value.bool (decide (n45 = 2))), (8, r40.1), (9, p52), (10, Value.agg #[.int .u8 c64, .string c65, .int .i64 c66]), (11, p_0), (12, Value.string s70), (13, Value.agg #[.int .u8 5, .string s70, .int .i64 0]), (14, Value.bool ((decide (c64 = 5) && (decide (c65 = s70) && (decide (c66 = 0) && (true)))))), (15, Value.bool ((decide (c64 = 5) && (decide (c65 = s70) && (decide (c66 = 0) && (true)))))), (16, Value.bool ((decide (c64 = 5) && (decide (c65 = s70) && (decide (c66 = 0) && (true)))))), (17, Value.int .i64 r42.2.2), (18, Value.bool (decide (r42.2.2 = 4))), (19, Value.bool (decide (r42.2.2 = 4))), (20, Value.bool (decide (r42.2.2 = 4))), (21, Value.int .i64 r42.2.1), (22, Value.string s_3), (23, Value.int .i64 (s_3.size : Int)), (24, Value.bool (decide (r42.2.1 = (s_3.size : Int)))), (25, Value.bool (decide (r42.2.1 = (s_3.size : Int)))), (26, Value.bool (decide (r42.2.1 = (s_3.size : Int))))]) E7_51 mixed R7_19_N R7_19_O (by decide) rfl (pv_cons rfl (pv_cons rfl (pv_cons rfl (pv_cons rfl (pv_cons rfl (pv_cons rfl (pv_cons rfl (pv_cons rfl (pv_cons rfl (pv_cons rfl (pv_cons rfl (pv_cons rfl (pv_cons rfl (pv_cons rfl (pv_cons rfl (pv_cons rfl (pv_cons rfl (pv_cons rfl (pv_cons rfl (pv_cons rfl (pv_cons rfl (pv_cons rfl (pv_cons rfl (pv_cons rfl (pv_cons rfl (pv_cons rfl (pv_cons rfl (pv_nil _))))))))))))))))))))))))))))
              ⟨(hd_v rfl fun ρ hρ => ⟨rfl, opv_move rfl rfl ((hρ 7 (lmem rfl)).trans h7)⟩),
              (hd_v rfl fun ρ hρ => ⟨rfl, opv_eqI rfl rfl rfl ((hρ 66 (lmem rfl)).trans rfl) rfl⟩),
              (hd_v rfl fun ρ hρ => ⟨rfl, opv_move rfl rfl ((hρ 67 (lmem rfl)).trans rfl)⟩),
              (hd_v rfl fun ρ hρ => ⟨⟨_, rfl, .inl ⟨_, ((hρ 68 (lmem rfl)).trans rfl), gq hb44 rfl⟩⟩, opv_move rfl rfl ((hρ 5 (lmem rfl)).trans h5)⟩),
              (hd_v rfl fun ρ hρ => ⟨⟨_, rfl, .inl ⟨_, ((hρ 68 (lmem rfl)).trans rfl), gq hb44 rfl⟩⟩, ov_len rfl rfl rfl underlying23 ((hρ 69 (lmem rfl)).trans rfl) hv49 hn50⟩),
              (hd_v rfl fun ρ hρ => ⟨⟨_, rfl, .inl ⟨_, ((hρ 68 (lmem rfl)).trans rfl), gq hb44 rfl⟩⟩, opv_eqI rfl rfl rfl ((hρ 70 (lmem rfl)).trans rfl) rfl⟩),
              (hd_v rfl fun ρ hρ => ⟨rfl, ov_pickT rfl rfl rfl rfl ((hρ 68 (lmem rfl)).trans rfl) hb44 ((hρ 71 (lmem rfl)).trans rfl)⟩),
              (hd_v rfl fun ρ hρ => ⟨rfl, opv_move rfl rfl ((hρ 72 (lmem rfl)).trans rfl)⟩),
              (hd_v rfl fun ρ hρ => ⟨⟨_, rfl, .inl ⟨_, ((hρ 73 (lmem rfl)).trans rfl), gq hb51 rfl⟩⟩, opv_move rfl rfl ((hρ 5 (lmem rfl)).trans h5)⟩),
              (hd_v rfl fun ρ hρ => ⟨⟨_, rfl, .inl ⟨_, ((hρ 73 (lmem rfl)).trans rfl), gq hb51 rfl⟩⟩, ov_ixS rfl rfl rfl underlying23 sz33 ((hρ 74 (lmem rfl)).trans rfl) rfl hp57 h058 hj59 hv60⟩),
              (hd_v rfl fun ρ hρ => ⟨⟨_, rfl, .inl ⟨_, ((hρ 73 (lmem rfl)).trans rfl), gq hb51 rfl⟩⟩, ov_ldN rfl underlying33 rfl sz33 rfl ((hρ 75 (lmem rfl)).trans rfl) hp63 (getN_cons hg67 (getN_cons hg68 (getN_cons hg69 getN_nil)))⟩),
              (hd_v rfl fun ρ hρ => ⟨⟨_, rfl, .inl ⟨_, ((hρ 73 (lmem rfl)).trans rfl), gq hb51 rfl⟩⟩, opv_move rfl rfl ((hρ 0 (lmem rfl)).trans h0)⟩),
              (hd_v rfl fun ρ hρ => ⟨⟨_, rfl, .inl ⟨_, ((hρ 73 (lmem rfl)).trans rfl), gq hb51 rfl⟩⟩, ov_toS rfl rfl underlying30 underlying9 underlying5 ((hρ 77 (lmem rfl)).trans rfl) hs71 hq72 hv73⟩),
              (hd_v rfl fun ρ hρ => ⟨⟨_, rfl, .inl ⟨_, ((hρ 73 (lmem rfl)).trans rfl), gq hb51 rfl⟩⟩, ov_bld (r := [.int .u8 5, .string s70, .int .i64 0]) rfl rfl bo33 (mp_cons rfl (mp_cons ((hρ 78 (lmem rfl)).trans rfl) rfl)) (fillP rfl rfl rfl rfl (fillP rfl rfl rfl rfl (fillN rfl)))⟩),
              (hd_v rfl fun ρ hρ => ⟨⟨_, rfl, .inl ⟨_, ((hρ 73 (lmem rfl)).trans rfl), gq hb51 rfl⟩⟩, opv_binP rfl rfl rfl ((hρ 76 (lmem rfl)).trans rfl) ((hρ 79 (lmem rfl)).trans rfl) rfl rfl (fun w => eqst33 _ _ _ _ _ _ _ _ w) rfl⟩),
              (hd_v rfl fun ρ hρ => ⟨rfl, ov_pickT rfl rfl rfl rfl ((hρ 73 (lmem rfl)).trans rfl) hb51 ((hρ 80 (lmem rfl)).trans rfl)⟩),
              (hd_v rfl fun ρ hρ => ⟨rfl, opv_move rfl rfl ((hρ 81 (lmem rfl)).trans rfl)⟩),
              (hd_v rfl fun ρ hρ => ⟨⟨_, rfl, .inl ⟨_, ((hρ 82 (lmem rfl)).trans rfl), gq hb76 rfl⟩⟩, opv_move rfl rfl ((hρ 10 (lmem rfl)).trans rfl)⟩),
              (hd_v rfl fun ρ hρ => ⟨⟨_, rfl, .inl ⟨_, ((hρ 82 (lmem rfl)).trans rfl), gq hb76 rfl⟩⟩, opv_eqI rfl rfl rfl ((hρ 83 (lmem rfl)).trans rfl) rfl⟩),
              (hd_v rfl fun ρ hρ => ⟨rfl, ov_pickT rfl rfl rfl rfl ((hρ 82 (lmem rfl)).trans rfl) hb76 ((hρ 84 (lmem rfl)).trans rfl)⟩),
              (hd_v rfl fun ρ hρ => ⟨rfl, opv_move rfl rfl ((hρ 85 (lmem rfl)).trans rfl)⟩),
              (hd_v rfl fun ρ hρ => ⟨⟨_, rfl, .inl ⟨_, ((hρ 86 (lmem rfl)).trans rfl), gq hb77 rfl⟩⟩, opv_move rfl rfl ((hρ 9 (lmem rfl)).trans rfl)⟩),
              (hd_v rfl fun ρ hρ => ⟨⟨_, rfl, .inl ⟨_, ((hρ 86 (lmem rfl)).trans rfl), gq hb77 rfl⟩⟩, opv_move rfl rfl ((hρ 3 (lmem rfl)).trans h3)⟩),
              (hd_v rfl fun ρ hρ => ⟨⟨_, rfl, .inl ⟨_, ((hρ 86 (lmem rfl)).trans rfl), gq hb77 rfl⟩⟩, opv_lenS rfl rfl rfl underlying9 ((hρ 88 (lmem rfl)).trans rfl)⟩),
              (hd_v rfl fun ρ hρ => ⟨⟨_, rfl, .inl ⟨_, ((hρ 86 (lmem rfl)).trans rfl), gq hb77 rfl⟩⟩, opv_eqI rfl rfl rfl ((hρ 87 (lmem rfl)).trans rfl) ((hρ 89 (lmem rfl)).trans rfl)⟩),
              (hd_v rfl fun ρ hρ => ⟨rfl, ov_pickT rfl rfl rfl rfl ((hρ 86 (lmem rfl)).trans rfl) hb77 ((hρ 90 (lmem rfl)).trans rfl)⟩),
              (hd_v rfl fun ρ hρ => ⟨rfl, opv_assign rfl rfl ((hρ 91 (lmem rfl)).trans rfl)⟩),
              trivial⟩ ?_
            refine tailAll_cons (hv' := [(0, Value.int .i64 r40.2.2), (1, Value.bool (decide (r40.2.2 = 0))), (2, Value.bool (decide (r40.2.2 = 0))), (3, r40.1), (4, Value.int .i64 n45), (5, Value.bool (decide (n45 = 2))), (6, Value.bool (decide (n45 = 2))), (7, Value.bool (decide (n45 = 2))), (8, r40.1), (9, p52), (10, Value.agg #[.int .u8 c64, .string c65, .int .i64 c66]), (11, p_0), (12, Value.string s70), (13, Value.agg #[.int .u8 5, .string s70, .int .i64 0]), (14, Value.bool ((decide (c64 = 5) && (decide (c65 = s70) && (decide (c66 = 0) && (true)))))), (15, Value.bool ((decide (c64 = 5) && (decide (c65 = s70) && (decide (c66 = 0) && (true)))))), (16, Value.bool ((decide (c64 = 5) && (decide (c65 = s70) && (decide (c66 = 0) && (true)))))), (17, Value.int .i64 r42.2.2), (18, Value.bool (decide (r42.2.2 = 4))), (19, Value.bool (decide (r42.2.2 = 4))), (20, Value.bool (decide (r42.2.2 = 4))), (21, Value.int .i64 r42.2.1), (22, Value.string s_3), (23, Value.int .i64 (s_3.size : Int)), (24, Value.bool (decide (r42.2.1 = (s_3.size : Int)))), (25, Value.bool (decide (r42.2.1 = (s_3.size : Int)))), (26, Value.bool (decide (r42.2.1 = (s_3.size : Int))))]) rfl (pv_cons rfl (pv_cons rfl (pv_cons rfl (pv_cons rfl (pv_cons rfl (pv_cons rfl (pv_cons rfl (pv_cons rfl (pv_cons rfl (pv_cons rfl (pv_cons rfl (pv_cons rfl (pv_cons rfl (pv_cons rfl (pv_cons rfl (pv_cons rfl (pv_cons rfl (pv_cons rfl (pv_cons rfl (pv_cons rfl (pv_cons rfl (pv_cons rfl (pv_cons rfl (pv_cons rfl (pv_cons rfl (pv_cons rfl (pv_cons rfl (pv_nil _)))))))))))))))))))))))))))) ?_ ?_
            · skip
              refine tail_0 (by decide +kernel) ?_
              exact ago_retE E7_52 (r := (decide (r42.2.1 = (s_3.size : Int)))) (ares_1 rfl (oneT rfl)) rfl H
            exact trivial
          · replace H := cnd_f H hb77
            refine ago_drawE (hs := [0, 1, 2, 3, 4, 5, 6, 7, 8, 9, 10, 11, 12, 13, 14, 15, 16, 17, 18, 19, 20, 21, 22, 23, 24, 25, 26]) (fl := []) (hv := [(0, Value.int .i64 r40.2.2), (1, Value.bool (decide (r40.2.2 = 0))), (2, Value.bool (decide (r40.2.2 = 0))), (3, r40.1), (4, Value.int .i64 n45), (5, Value.bool (decide (n45 = 2))), (6, Value.bool (decide (n45 = 2))), (7, Value.bool (decide (n45 = 2))), (8, r40.1), (9, p52), (10, Value.agg #[.int .u8 c64, .string c65, .int .i64 c66]), (11, p_0), (12, Value.string s70), (13, Value.agg #[.int .u8 5, .string s70, .int .i64 0]), (14, Value.bool ((decide (c64 = 5) && (decide (c65 = s70) && (decide (c66 = 0) && (true)))))), (15, Value.bool ((decide (c64 = 5) && (decide (c65 = s70) && (decide (c66 = 0) && (true)))))), (16, Value.bool ((decide (c64 = 5) && (decide (c65 = s70) && (decide (c66 = 0) && (true)))))), (17, Value.int .i64 r42.2.2), (18, Value.bool (decide (r42.2.2 = 4))), (19, Value.bool (decide (r42.2.2 = 4))), (20, Value.bool (decide (r42.2.2 = 4))), (21, undef), (22, undef), (23, undef), (24, undef), (25, Value.bool false), (26, Value.bool false)]) E7_51 mixed R7_19_N R7_19_O (by decide) rfl (pv_cons rfl (pv_cons rfl (pv_cons rfl (pv_cons rfl (pv_cons rfl (pv_cons rfl (pv_cons rfl (pv_cons rfl (pv_cons rfl (pv_cons rfl (pv_cons rfl (pv_cons rfl (pv_cons rfl (pv_cons rfl (pv_cons rfl (pv_cons rfl (pv_cons rfl (pv_cons rfl (pv_cons rfl (pv_cons rfl (pv_cons rfl (pv_cons rfl (pv_cons rfl (pv_cons rfl (pv_cons rfl (pv_cons rfl (pv_cons rfl (pv_nil _))))))))))))))))))))))))))))
              ⟨(hd_v rfl fun ρ hρ => ⟨rfl, opv_move rfl rfl ((hρ 7 (lmem rfl)).trans h7)⟩),
              (hd_v rfl fun ρ hρ => ⟨rfl, opv_eqI rfl rfl rfl ((hρ 66 (lmem rfl)).trans rfl) rfl⟩),
              (hd_v rfl fun ρ hρ => ⟨rfl, opv_move rfl rfl ((hρ 67 (lmem rfl)).trans rfl)⟩),
              (hd_v rfl fun ρ hρ => ⟨⟨_, rfl, .inl ⟨_, ((hρ 68 (lmem rfl)).trans rfl), gq hb44 rfl⟩⟩, opv_move rfl rfl ((hρ 5 (lmem rfl)).trans h5)⟩),
              (hd_v rfl fun ρ hρ => ⟨⟨_, rfl, .inl ⟨_, ((hρ 68 (lmem rfl)).trans rfl), gq hb44 rfl⟩⟩, ov_len rfl rfl rfl underlying23 ((hρ 69 (lmem rfl)).trans rfl) hv49 hn50⟩),
              (hd_v rfl fun ρ hρ => ⟨⟨_, rfl, .inl ⟨_, ((hρ 68 (lmem rfl)).trans rfl), gq hb44 rfl⟩⟩, opv_eqI rfl rfl rfl ((hρ 70 (lmem rfl)).trans rfl) rfl⟩),
              (hd_v rfl fun ρ hρ => ⟨rfl, ov_pickT rfl rfl rfl rfl ((hρ 68 (lmem rfl)).trans rfl) hb44 ((hρ 71 (lmem rfl)).trans rfl)⟩),
              (hd_v rfl fun ρ hρ => ⟨rfl, opv_move rfl rfl ((hρ 72 (lmem rfl)).trans rfl)⟩),
              (hd_v rfl fun ρ hρ => ⟨⟨_, rfl, .inl ⟨_, ((hρ 73 (lmem rfl)).trans rfl), gq hb51 rfl⟩⟩, opv_move rfl rfl ((hρ 5 (lmem rfl)).trans h5)⟩),
              (hd_v rfl fun ρ hρ => ⟨⟨_, rfl, .inl ⟨_, ((hρ 73 (lmem rfl)).trans rfl), gq hb51 rfl⟩⟩, ov_ixS rfl rfl rfl underlying23 sz33 ((hρ 74 (lmem rfl)).trans rfl) rfl hp57 h058 hj59 hv60⟩),
              (hd_v rfl fun ρ hρ => ⟨⟨_, rfl, .inl ⟨_, ((hρ 73 (lmem rfl)).trans rfl), gq hb51 rfl⟩⟩, ov_ldN rfl underlying33 rfl sz33 rfl ((hρ 75 (lmem rfl)).trans rfl) hp63 (getN_cons hg67 (getN_cons hg68 (getN_cons hg69 getN_nil)))⟩),
              (hd_v rfl fun ρ hρ => ⟨⟨_, rfl, .inl ⟨_, ((hρ 73 (lmem rfl)).trans rfl), gq hb51 rfl⟩⟩, opv_move rfl rfl ((hρ 0 (lmem rfl)).trans h0)⟩),
              (hd_v rfl fun ρ hρ => ⟨⟨_, rfl, .inl ⟨_, ((hρ 73 (lmem rfl)).trans rfl), gq hb51 rfl⟩⟩, ov_toS rfl rfl underlying30 underlying9 underlying5 ((hρ 77 (lmem rfl)).trans rfl) hs71 hq72 hv73⟩),
              (hd_v rfl fun ρ hρ => ⟨⟨_, rfl, .inl ⟨_, ((hρ 73 (lmem rfl)).trans rfl), gq hb51 rfl⟩⟩, ov_bld (r := [.int .u8 5, .string s70, .int .i64 0]) rfl rfl bo33 (mp_cons rfl (mp_cons ((hρ 78 (lmem rfl)).trans rfl) rfl)) (fillP rfl rfl rfl rfl (fillP rfl rfl rfl rfl (fillN rfl)))⟩),
              (hd_v rfl fun ρ hρ => ⟨⟨_, rfl, .inl ⟨_, ((hρ 73 (lmem rfl)).trans rfl), gq hb51 rfl⟩⟩, opv_binP rfl rfl rfl ((hρ 76 (lmem rfl)).trans rfl) ((hρ 79 (lmem rfl)).trans rfl) rfl rfl (fun w => eqst33 _ _ _ _ _ _ _ _ w) rfl⟩),
              (hd_v rfl fun ρ hρ => ⟨rfl, ov_pickT rfl rfl rfl rfl ((hρ 73 (lmem rfl)).trans rfl) hb51 ((hρ 80 (lmem rfl)).trans rfl)⟩),
              (hd_v rfl fun ρ hρ => ⟨rfl, opv_move rfl rfl ((hρ 81 (lmem rfl)).trans rfl)⟩),
              (hd_v rfl fun ρ hρ => ⟨⟨_, rfl, .inl ⟨_, ((hρ 82 (lmem rfl)).trans rfl), gq hb76 rfl⟩⟩, opv_move rfl rfl ((hρ 10 (lmem rfl)).trans rfl)⟩),
              (hd_v rfl fun ρ hρ => ⟨⟨_, rfl, .inl ⟨_, ((hρ 82 (lmem rfl)).trans rfl), gq hb76 rfl⟩⟩, opv_eqI rfl rfl rfl ((hρ 83 (lmem rfl)).trans rfl) rfl⟩),
              (hd_v rfl fun ρ hρ => ⟨rfl, ov_pickT rfl rfl rfl rfl ((hρ 82 (lmem rfl)).trans rfl) hb76 ((hρ 84 (lmem rfl)).trans rfl)⟩),
              (hd_v rfl fun ρ hρ => ⟨rfl, opv_move rfl rfl ((hρ 85 (lmem rfl)).trans rfl)⟩),
              (hd_s rfl (fun ρ hρ => ⟨_, rfl, .inl ⟨_, ((hρ 86 (lmem rfl)).trans rfl), gq hb77 rfl⟩⟩) rfl),
              (hd_s rfl (fun ρ hρ => ⟨_, rfl, .inl ⟨_, ((hρ 86 (lmem rfl)).trans rfl), gq hb77 rfl⟩⟩) rfl),
              (hd_s rfl (fun ρ hρ => ⟨_, rfl, .inl ⟨_, ((hρ 86 (lmem rfl)).trans rfl), gq hb77 rfl⟩⟩) rfl),
              (hd_s rfl (fun ρ hρ => ⟨_, rfl, .inl ⟨_, ((hρ 86 (lmem rfl)).trans rfl), gq hb77 rfl⟩⟩) rfl),
              (hd_v rfl fun ρ hρ => ⟨rfl, ov_pickF rfl rfl rfl rfl ((hρ 86 (lmem rfl)).trans rfl) hb77 rfl⟩),
              (hd_v rfl fun ρ hρ => ⟨rfl, opv_assign rfl rfl ((hρ 91 (lmem rfl)).trans rfl)⟩),
              trivial⟩ ?_
            refine tailAll_cons (hv' := [(0, Value.int .i64 r40.2.2), (1, Value.bool (decide (r40.2.2 = 0))), (2, Value.bool (decide (r40.2.2 = 0))), (3, r40.1), (4, Value.int .i64 n45), (5, Value.bool (decide (n45 = 2))), (6, Value.bool (decide (n45 = 2))), (7, Value.bool (decide (n45 = 2))), (8, r40.1), (9, p52), (10, Value.agg #[.int .u8 c64, .string c65, .int .i64 c66]), (11, p_0), (12, Value.string s70), (13, Value.agg #[.int .u8 5, .string s70, .int .i64 0]), (14, Value.bool ((decide (c64 = 5) && (decide (c65 = s70) && (decide (c66 = 0) && (true)))))), (15, Value.bool ((decide (c64 = 5) && (decide (c65 = s70) && (decide (c66 = 0) && (true)))))), (16, Value.bool ((decide (c64 = 5) && (decide (c65 = s70) && (decide (c66 = 0) && (true)))))), (17, Value.int .i64 r42.2.2), (18, Value.bool (decide (r42.2.2 = 4))), (19, Value.bool (decide (r42.2.2 = 4))), (20, Value.bool (decide (r42.2.2 = 4))), (21, undef), (22, undef), (23, undef), (24, undef), (25, Value.bool false), (26, Value.bool false)]) rfl (pv_cons rfl (pv_cons rfl (pv_cons rfl (pv_cons rfl (pv_cons rfl (pv_cons rfl (pv_cons rfl (pv_cons rfl (pv_cons rfl (pv_cons rfl (pv_cons rfl (pv_cons rfl (pv_cons rfl (pv_cons rfl (pv_cons rfl (pv_cons rfl (pv_cons rfl (pv_cons rfl (pv_cons rfl (pv_cons rfl (pv_cons rfl (pv_cons rfl (pv_cons rfl (pv_cons rfl (pv_cons rfl (pv_cons rfl (pv_cons rfl (pv_nil _)))))))))))))))))))))))))))) ?_ ?_
            · skip
              refine tail_0 (by decide +kernel) ?_
              exact ago_retE E7_52 (r := false) (ares_1 rfl (oneT rfl)) rfl H
            exact trivial
        · replace H := cnd_f H hb76
          refine ago_drawE (hs := [0, 1, 2, 3, 4, 5, 6, 7, 8, 9, 10, 11, 12, 13, 14, 15, 16, 17, 18, 19, 20, 21, 22, 23, 24, 25, 26]) (fl := []) (hv := [(0, Value.int .i64 r40.2.2), (1, Value.bool (decide (r40.2.2 = 0))), (2, Value.bool (decide (r40.2.2 = 0))), (3, r40.1), (4, Value.int .i64 n45), (5, Value.bool (decide (n45 = 2))), (6, Value.bool (decide (n45 = 2))), (7, Value.bool (decide (n45 = 2))), (8, r40.1), (9, p52), (10, Value.agg #[.int .u8 c64, .string c65, .int .i64 c66]), (11, p_0), (12, Value.string s70), (13, Value.agg #[.int .u8 5, .string s70, .int .i64 0]), (14, Value.bool ((decide (c64 = 5) && (decide (c65 = s70) && (decide (c66 = 0) && (true)))))), (15, Value.bool ((decide (c64 = 5) && (decide (c65 = s70) && (decide (c66 = 0) && (true)))))), (16, Value.bool ((decide (c64 = 5) && (decide (c65 = s70) && (decide (c66 = 0) && (true)))))), (17, undef), (18, undef), (19, Value.bool false), (20, Value.bool false), (21, undef), (22, undef), (23, undef), (24, undef), (25, Value.bool false), (26, Value.bool false)]) E7_51 mixed R7_19_N R7_19_O (by decide) rfl (pv_cons rfl (pv_cons rfl (pv_cons rfl (pv_cons rfl (pv_cons rfl (pv_cons rfl (pv_cons rfl (pv_cons rfl (pv_cons rfl (pv_cons rfl (pv_cons rfl (pv_cons rfl (pv_cons rfl (pv_cons rfl (pv_cons rfl (pv_cons rfl (pv_cons rfl (pv_cons rfl (pv_cons rfl (pv_cons rfl (pv_cons rfl (pv_cons rfl (pv_cons rfl (pv_cons rfl (pv_cons rfl (pv_cons rfl (pv_cons rfl (pv_nil _))))))))))))))))))))))))))))
            ⟨(hd_v rfl fun ρ hρ => ⟨rfl, opv_move rfl rfl ((hρ 7 (lmem rfl)).trans h7)⟩),
            (hd_v rfl fun ρ hρ => ⟨rfl, opv_eqI rfl rfl rfl ((hρ 66 (lmem rfl)).trans rfl) rfl⟩),
            (hd_v rfl fun ρ hρ => ⟨rfl, opv_move rfl rfl ((hρ 67 (lmem rfl)).trans rfl)⟩),
            (hd_v rfl fun ρ hρ => ⟨⟨_, rfl, .inl ⟨_, ((hρ 68 (lmem rfl)).trans rfl), gq hb44 rfl⟩⟩, opv_move rfl rfl ((hρ 5 (lmem rfl)).trans h5)⟩),
            (hd_v rfl fun ρ hρ => ⟨⟨_, rfl, .inl ⟨_, ((hρ 68 (lmem rfl)).trans rfl), gq hb44 rfl⟩⟩, ov_len rfl rfl rfl underlying23 ((hρ 69 (lmem rfl)).trans rfl) hv49 hn50⟩),
            (hd_v rfl fun ρ hρ => ⟨⟨_, rfl, .inl ⟨_, ((hρ 68 (lmem rfl)).trans rfl), gq hb44 rfl⟩⟩, opv_eqI rfl rfl rfl ((hρ 70 (lmem rfl)).trans rfl) rfl⟩),
            (hd_v rfl fun ρ hρ => ⟨rfl, ov_pickT rfl rfl rfl rfl ((hρ 68 (lmem rfl)).trans rfl) hb44 ((hρ 71 (lmem rfl)).trans rfl)⟩),
            (hd_v rfl fun ρ hρ => ⟨rfl, opv_move rfl rfl ((hρ 72 (lmem rfl)).trans rfl)⟩),
            (hd_v rfl fun ρ hρ => ⟨⟨_, rfl, .inl ⟨_, ((hρ 73 (lmem rfl)).trans rfl), gq hb51 rfl⟩⟩, opv_move rfl rfl ((hρ 5 (lmem rfl)).trans h5)⟩),
            (hd_v rfl fun ρ hρ => ⟨⟨_, rfl, .inl ⟨_, ((hρ 73 (lmem rfl)).trans rfl), gq hb51 rfl⟩⟩, ov_ixS rfl rfl rfl underlying23 sz33 ((hρ 74 (lmem rfl)).trans rfl) rfl hp57 h058 hj59 hv60⟩),
            (hd_v rfl fun ρ hρ => ⟨⟨_, rfl, .inl ⟨_, ((hρ 73 (lmem rfl)).trans rfl), gq hb51 rfl⟩⟩, ov_ldN rfl underlying33 rfl sz33 rfl ((hρ 75 (lmem rfl)).trans rfl) hp63 (getN_cons hg67 (getN_cons hg68 (getN_cons hg69 getN_nil)))⟩),
            (hd_v rfl fun ρ hρ => ⟨⟨_, rfl, .inl ⟨_, ((hρ 73 (lmem rfl)).trans rfl), gq hb51 rfl⟩⟩, opv_move rfl rfl ((hρ 0 (lmem rfl)).trans h0)⟩),
            (hd_v rfl fun ρ hρ => ⟨⟨_, rfl, .inl ⟨_, ((hρ 73 (lmem rfl)).trans rfl), gq hb51 rfl⟩⟩, ov_toS rfl rfl underlying30 underlying9 underlying5 ((hρ 77 (lmem rfl)).trans rfl) hs71 hq72 hv73⟩),
            (hd_v rfl fun ρ hρ => ⟨⟨_, rfl, .inl ⟨_, ((hρ 73 (lmem rfl)).trans rfl), gq hb51 rfl⟩⟩, ov_bld (r := [.int .u8 5, .string s70, .int .i64 0]) rfl rfl bo33 (mp_cons rfl (mp_cons ((hρ 78 (lmem rfl)).trans rfl) rfl)) (fillP rfl rfl rfl rfl (fillP rfl rfl rfl rfl (fillN rfl)))⟩),
            (hd_v rfl fun ρ hρ => ⟨⟨_, rfl, .inl ⟨_, ((hρ 73 (lmem rfl)).trans rfl), gq hb51 rfl⟩⟩, opv_binP rfl rfl rfl ((hρ 76 (lmem rfl)).trans rfl) ((hρ 79 (lmem rfl)).trans rfl) rfl rfl (fun w => eqst33 _ _ _ _ _ _ _ _ w) rfl⟩),
            (hd_v rfl fun ρ hρ => ⟨rfl, ov_pickT rfl rfl rfl rfl ((hρ 73 (lmem rfl)).trans rfl) hb51 ((hρ 80 (lmem rfl)).trans rfl)⟩),
            (hd_v rfl fun ρ hρ => ⟨rfl, opv_move rfl rfl ((hρ 81 (lmem rfl)).trans rfl)⟩),
            (hd_s rfl (fun ρ hρ => ⟨_, rfl, .inl ⟨_, ((hρ 82 (lmem rfl)).trans rfl), gq hb76 rfl⟩⟩) rfl),
            (hd_s rfl (fun ρ hρ => ⟨_, rfl, .inl ⟨_, ((hρ 82 (lmem rfl)).trans rfl), gq hb76 rfl⟩⟩) rfl),
            (hd_v rfl fun ρ hρ => ⟨rfl, ov_pickF rfl rfl rfl rfl ((hρ 82 (lmem rfl)).trans rfl) hb76 rfl⟩),
            (hd_v rfl fun ρ hρ => ⟨rfl, opv_move rfl rfl ((hρ 85 (lmem rfl)).trans rfl)⟩),
            (hd_s rfl (fun ρ hρ => ⟨_, rfl, .inl ⟨_, ((hρ 86 (lmem rfl)).trans rfl), gq rfl rfl⟩⟩) rfl),
            (hd_s rfl (fun ρ hρ => ⟨_, rfl, .inl ⟨_, ((hρ 86 (lmem rfl)).trans rfl), gq rfl rfl⟩⟩) rfl),
            (hd_s rfl (fun ρ hρ => ⟨_, rfl, .inl ⟨_, ((hρ 86 (lmem rfl)).trans rfl), gq rfl rfl⟩⟩) rfl),
            (hd_s rfl (fun ρ hρ => ⟨_, rfl, .inl ⟨_, ((hρ 86 (lmem rfl)).trans rfl), gq rfl rfl⟩⟩) rfl),
            (hd_v rfl fun ρ hρ => ⟨rfl, ov_pickF rfl rfl rfl rfl ((hρ 86 (lmem rfl)).trans rfl) rfl rfl⟩),
            (hd_v rfl fun ρ hρ => ⟨rfl, opv_assign rfl rfl ((hρ 91 (lmem rfl)).trans rfl)⟩),
            trivial⟩ ?_
          refine tailAll_cons (hv' := [(0, Value.int .i64 r40.2.2), (1, Value.bool (decide (r40.2.2 = 0))), (2, Value.bool (decide (r40.2.2 = 0))), (3, r40.1), (4, Value.int .i64 n45), (5, Value.bool (decide (n45 = 2))), (6, Value.bool (decide (n45 = 2))), (7, Value.bool (decide (n45 = 2))), (8, r40.1), (9, p52), (10, Value.agg #[.int .u8 c64, .string c65, .int .i64 c66]), (11, p_0), (12, Value.string s70), (13, Value.agg #[.int .u8 5, .string s70, .int .i64 0]), (14, Value.bool ((decide (c64 = 5) && (decide (c65 = s70) && (decide (c66 = 0) && (true)))))), (15, Value.bool ((decide (c64 = 5) && (decide (c65 = s70) && (decide (c66 = 0) && (true)))))), (16, Value.bool ((decide (c64 = 5) && (decide (c65 = s70) && (decide (c66 = 0) && (true)))))), (17, undef), (18, undef), (19, Value.bool false), (20, Value.bool false), (21, undef), (22, undef), (23, undef), (24, undef), (25, Value.bool false), (26, Value.bool false)]) rfl (pv_cons rfl (pv_cons rfl (pv_cons rfl (pv_cons rfl (pv_cons rfl (pv_cons rfl (pv_cons rfl (pv_cons rfl (pv_cons rfl (pv_cons rfl (pv_cons rfl (pv_cons rfl (pv_cons rfl (pv_cons rfl (pv_cons rfl (pv_cons rfl (pv_cons rfl (pv_cons rfl (pv_cons rfl (pv_cons rfl (pv_cons rfl (pv_cons rfl (pv_cons rfl (pv_cons rfl (pv_cons rfl (pv_cons rfl (pv_cons rfl (pv_nil _)))))))))))))))))))))))))))) ?_ ?_
          · skip
            refine tail_0 (by decide +kernel) ?_
            exact ago_retE E7_52 (r := false) (ares_1 rfl (oneT rfl)) rfl H
          exact trivial
      · replace H := cnd_f H hb51
        refine ago_drawE (hs := [0, 1, 2, 3, 4, 5, 6, 7, 8, 9, 10, 11, 12, 13, 14, 15, 16, 17, 18, 19, 20, 21, 22, 23, 24, 25, 26]) (fl := []) (hv := [(0, Value.int .i64 r40.2.2), (1, Value.bool (decide (r40.2.2 = 0))), (2, Value.bool (decide (r40.2.2 = 0))), (3, r40.1), (4, Value.int .i64 n45), (5, Value.bool (decide (n45 = 2))), (6, Value.bool (decide (n45 = 2))), (7, Value.bool (decide (n45 = 2))), (8, undef), (9, undef), (10, undef), (11, undef), (12, undef), (13, undef), (14, undef), (15, Value.bool false), (16, Value.bool false), (17, undef), (18, undef), (19, Value.bool false), (20, Value.bool false), (21, undef), (22, undef), (23, undef), (24, undef), (25, Value.bool false), (26, Value.bool false)]) E7_51 mixed R7_19_N R7_19_O (by decide) rfl (pv_cons rfl (pv_cons rfl (pv_cons rfl (pv_cons rfl (pv_cons rfl (pv_cons rfl (pv_cons rfl (pv_cons rfl (pv_cons rfl (pv_cons rfl (pv_cons rfl (pv_cons rfl (pv_cons rfl (pv_cons rfl (pv_cons rfl (pv_cons rfl (pv_cons rfl (pv_cons rfl (pv_cons rfl (pv_cons rfl (pv_cons rfl (pv_cons rfl (pv_cons rfl (pv_cons rfl (pv_cons rfl (pv_cons rfl (pv_cons rfl (pv_nil _))))))))))))))))))))))))))))
          ⟨(hd_v rfl fun ρ hρ => ⟨rfl, opv_move rfl rfl ((hρ 7 (lmem rfl)).trans h7)⟩),
          (hd_v rfl fun ρ hρ => ⟨rfl, opv_eqI rfl rfl rfl ((hρ 66 (lmem rfl)).trans rfl) rfl⟩),
          (hd_v rfl fun ρ hρ => ⟨rfl, opv_move rfl rfl ((hρ 67 (lmem rfl)).trans rfl)⟩),
          (hd_v rfl fun ρ hρ => ⟨⟨_, rfl, .inl ⟨_, ((hρ 68 (lmem rfl)).trans rfl), gq hb44 rfl⟩⟩, opv_move rfl rfl ((hρ 5 (lmem rfl)).trans h5)⟩),
          (hd_v rfl fun ρ hρ => ⟨⟨_, rfl, .inl ⟨_, ((hρ 68 (lmem rfl)).trans rfl), gq hb44 rfl⟩⟩, ov_len rfl rfl rfl underlying23 ((hρ 69 (lmem rfl)).trans rfl) hv49 hn50⟩),
          (hd_v rfl fun ρ hρ => ⟨⟨_, rfl, .inl ⟨_, ((hρ 68 (lmem rfl)).trans rfl), gq hb44 rfl⟩⟩, opv_eqI rfl rfl rfl ((hρ 70 (lmem rfl)).trans rfl) rfl⟩),
          (hd_v rfl fun ρ hρ => ⟨rfl, ov_pickT rfl rfl rfl rfl ((hρ 68 (lmem rfl)).trans rfl) hb44 ((hρ 71 (lmem rfl)).trans rfl)⟩),
          (hd_v rfl fun ρ hρ => ⟨rfl, opv_move rfl rfl ((hρ 72 (lmem rfl)).trans rfl)⟩),
          (hd_s rfl (fun ρ hρ => ⟨_, rfl, .inl ⟨_, ((hρ 73 (lmem rfl)).trans rfl), gq hb51 rfl⟩⟩) rfl),
          (hd_s rfl (fun ρ hρ => ⟨_, rfl, .inl ⟨_, ((hρ 73 (lmem rfl)).trans rfl), gq hb51 rfl⟩⟩) rfl),
          (hd_s rfl (fun ρ hρ => ⟨_, rfl, .inl ⟨_, ((hρ 73 (lmem rfl)).trans rfl), gq hb51 rfl⟩⟩) rfl),
          (hd_s rfl (fun ρ hρ => ⟨_, rfl, .inl ⟨_, ((hρ 73 (lmem rfl)).trans rfl), gq hb51 rfl⟩⟩) rfl),
          (hd_s rfl (fun ρ hρ => ⟨_, rfl, .inl ⟨_, ((hρ 73 (lmem rfl)).trans rfl), gq hb51 rfl⟩⟩) rfl),
          (hd_s rfl (fun ρ hρ => ⟨_, rfl, .inl ⟨_, ((hρ 73 (lmem rfl)).trans rfl), gq hb51 rfl⟩⟩) rfl),
          (hd_s rfl (fun ρ hρ => ⟨_, rfl, .inl ⟨_, ((hρ 73 (lmem rfl)).trans rfl), gq hb51 rfl⟩⟩) rfl),
          (hd_v rfl fun ρ hρ => ⟨rfl, ov_pickF rfl rfl rfl rfl ((hρ 73 (lmem rfl)).trans rfl) hb51 rfl⟩),
          (hd_v rfl fun ρ hρ => ⟨rfl, opv_move rfl rfl ((hρ 81 (lmem rfl)).trans rfl)⟩),
          (hd_s rfl (fun ρ hρ => ⟨_, rfl, .inl ⟨_, ((hρ 82 (lmem rfl)).trans rfl), gq rfl rfl⟩⟩) rfl),
          (hd_s rfl (fun ρ hρ => ⟨_, rfl, .inl ⟨_, ((hρ 82 (lmem rfl)).trans rfl), gq rfl rfl⟩⟩) rfl),
          (hd_v rfl fun ρ hρ => ⟨rfl, ov_pickF rfl rfl rfl rfl ((hρ 82 (lmem rfl)).trans rfl) rfl rfl⟩),
          (hd_v rfl fun ρ hρ => ⟨rfl, opv_move rfl rfl ((hρ 85 (lmem rfl)).trans rfl)⟩),
          (hd_s rfl (fun ρ hρ => ⟨_, rfl, .inl ⟨_, ((hρ 86 (lmem rfl)).trans rfl), gq rfl rfl⟩⟩) rfl),
          (hd_s rfl (fun ρ hρ => ⟨_, rfl, .inl ⟨_, ((hρ 86 (lmem rfl)).trans rfl), gq rfl rfl⟩⟩) rfl),
          (hd_s rfl (fun ρ hρ => ⟨_, rfl, .inl ⟨_, ((hρ 86 (lmem rfl)).trans rfl), gq rfl rfl⟩⟩) rfl),
          (hd_s rfl (fun ρ hρ => ⟨_, rfl, .inl ⟨_, ((hρ 86 (lmem rfl)).trans rfl), gq rfl rfl⟩⟩) rfl),
          (hd_v rfl fun ρ hρ => ⟨rfl, ov_pickF rfl rfl rfl rfl ((hρ 86 (lmem rfl)).trans rfl) rfl rfl⟩),
          (hd_v rfl fun ρ hρ => ⟨rfl, opv_assign rfl rfl ((hρ 91 (lmem rfl)).trans rfl)⟩),
          trivial⟩ ?_
        refine tailAll_cons (hv' := [(0, Value.int .i64 r40.2.2), (1, Value.bool (decide (r40.2.2 = 0))), (2, Value.bool (decide (r40.2.2 = 0))), (3, r40.1), (4, Value.int .i64 n45), (5, Value.bool (decide (n45 = 2))), (6, Value.bool (decide (n45 = 2))), (7, Value.bool (decide (n45 = 2))), (8, undef), (9, undef), (10, undef), (11, undef), (12, undef), (13, undef), (14, undef), (15, Value.bool false), (16, Value.bool false), (17, undef), (18, undef), (19, Value.bool false), (20, Value.bool false), (21, undef), (22, undef), (23, undef), (24, undef), (25, Value.bool false), (26, Value.bool false)]) rfl (pv_cons rfl (pv_cons rfl (pv_cons rfl (pv_cons rfl (pv_cons rfl (pv_cons rfl (pv_cons rfl (pv_cons rfl (pv_cons rfl (pv_cons rfl (pv_cons rfl (pv_cons rfl (pv_cons rfl (pv_cons rfl (pv_cons rfl (pv_cons rfl (pv_cons rfl (pv_cons rfl (pv_cons rfl (pv_cons rfl (pv_cons rfl (pv_cons rfl (pv_cons rfl (pv_cons rfl (pv_cons rfl (pv_cons rfl (pv_cons rfl (pv_nil _)))))))))))))))))))))))))))) ?_ ?_
        · skip
          refine tail_0 (by decide +kernel) ?_
          exact ago_retE E7_52 (r := false) (ares_1 rfl (oneT rfl)) rfl H
        exact trivial
    · replace H := cnd_f H hb44
      refine ago_drawE (hs := [0, 1, 2, 3, 4, 5, 6, 7, 8, 9, 10, 11, 12, 13, 14, 15, 16, 17, 18, 19, 20, 21, 22, 23, 24, 25, 26]) (fl := []) (hv := [(0, Value.int .i64 r40.2.2), (1, Value.bool (decide (r40.2.2 = 0))), (2, Value.bool (decide (r40.2.2 = 0))), (3, undef), (4, undef), (5, undef), (6, Value.bool false), (7, Value.bool false), (8, undef), (9, undef), (10, undef), (11, undef), (12, undef), (13, undef), (14, undef), (15, Value.bool false), (16, Value.bool false), (17, undef), (18, undef), (19, Value.bool false), (20, Value.bool false), (21, undef), (22, undef), (23, undef), (24, undef), (25, Value.bool false), (26, Value.bool false)]) E7_51 mixed R7_19_N R7_19_O (by decide) rfl (pv_cons rfl (pv_cons rfl (pv_cons rfl (pv_cons rfl (pv_cons rfl (pv_cons rfl (pv_cons rfl (pv_cons rfl (pv_cons rfl (pv_cons rfl (pv_cons rfl (pv_cons rfl (pv_cons rfl (pv_cons rfl (pv_cons rfl (pv_cons rfl (pv_cons rfl (pv_cons rfl (pv_cons rfl (pv_cons rfl (pv_cons rfl (pv_cons rfl (pv_cons rfl (pv_cons rfl (pv_cons rfl (pv_cons rfl (pv_cons rfl (pv_nil _))))))))))))))))))))))))))))
        ⟨(hd_v rfl fun ρ hρ => ⟨rfl, opv_move rfl rfl ((hρ 7 (lmem rfl)).trans h7)⟩),
        (hd_v rfl fun ρ hρ => ⟨rfl, opv_eqI rfl rfl rfl ((hρ 66 (lmem rfl)).trans rfl) rfl⟩),
        (hd_v rfl fun ρ hρ => ⟨rfl, opv_move rfl rfl ((hρ 67 (lmem rfl)).trans rfl)⟩),
        (hd_s rfl (fun ρ hρ => ⟨_, rfl, .inl ⟨_, ((hρ 68 (lmem rfl)).trans rfl), gq hb44 rfl⟩⟩) rfl),
        (hd_s rfl (fun ρ hρ => ⟨_, rfl, .inl ⟨_, ((hρ 68 (lmem rfl)).trans rfl), gq hb44 rfl⟩⟩) rfl),
        (hd_s rfl (fun ρ hρ => ⟨_, rfl, .inl ⟨_, ((hρ 68 (lmem rfl)).trans rfl), gq hb44 rfl⟩⟩) rfl),
        (hd_v rfl fun ρ hρ => ⟨rfl, ov_pickF rfl rfl rfl rfl ((hρ 68 (lmem rfl)).trans rfl) hb44 rfl⟩),
        (hd_v rfl fun ρ hρ => ⟨rfl, opv_move rfl rfl ((hρ 72 (lmem rfl)).trans rfl)⟩),
        (hd_s rfl (fun ρ hρ => ⟨_, rfl, .inl ⟨_, ((hρ 73 (lmem rfl)).trans rfl), gq rfl rfl⟩⟩) rfl),
        (hd_s rfl (fun ρ hρ => ⟨_, rfl, .inl ⟨_, ((hρ 73 (lmem rfl)).trans rfl), gq rfl rfl⟩⟩) rfl),
        (hd_s rfl (fun ρ hρ => ⟨_, rfl, .inl ⟨_, ((hρ 73 (lmem rfl)).trans rfl), gq rfl rfl⟩⟩) rfl),
        (hd_s rfl (fun ρ hρ => ⟨_, rfl, .inl ⟨_, ((hρ 73 (lmem rfl)).trans rfl), gq rfl rfl⟩⟩) rfl),
        (hd_s rfl (fun ρ hρ => ⟨_, rfl, .inl ⟨_, ((hρ 73 (lmem rfl)).trans rfl), gq rfl rfl⟩⟩) rfl),
        (hd_s rfl (fun ρ hρ => ⟨_, rfl, .inl ⟨_, ((hρ 73 (lmem rfl)).trans rfl), gq rfl rfl⟩⟩) rfl),
        (hd_s rfl (fun ρ hρ => ⟨_, rfl, .inl ⟨_, ((hρ 73 (lmem rfl)).trans rfl), gq rfl rfl⟩⟩) rfl),
        (hd_v rfl fun ρ hρ => ⟨rfl, ov_pickF rfl rfl rfl rfl ((hρ 73 (lmem rfl)).trans rfl) rfl rfl⟩),
        (hd_v rfl fun ρ hρ => ⟨rfl, opv_move rfl rfl ((hρ 81 (lmem rfl)).trans rfl)⟩),
        (hd_s rfl (fun ρ hρ => ⟨_, rfl, .inl ⟨_, ((hρ 82 (lmem rfl)).trans rfl), gq rfl rfl⟩⟩) rfl),
        (hd_s rfl (fun ρ hρ => ⟨_, rfl, .inl ⟨_, ((hρ 82 (lmem rfl)).trans rfl), gq rfl rfl⟩⟩) rfl),
        (hd_v rfl fun ρ hρ => ⟨rfl, ov_pickF rfl rfl rfl rfl ((hρ 82 (lmem rfl)).trans rfl) rfl rfl⟩),
        (hd_v rfl fun ρ hρ => ⟨rfl, opv_move rfl rfl ((hρ 85 (lmem rfl)).trans rfl)⟩),
        (hd_s rfl (fun ρ hρ => ⟨_, rfl, .inl ⟨_, ((hρ 86 (lmem rfl)).trans rfl), gq rfl rfl⟩⟩) rfl),
        (hd_s rfl (fun ρ hρ => ⟨_, rfl, .inl ⟨_, ((hρ 86 (lmem rfl)).trans rfl), gq rfl rfl⟩⟩) rfl),
        (hd_s rfl (fun ρ hρ => ⟨_, rfl, .inl ⟨_, ((hρ 86 (lmem rfl)).trans rfl), gq rfl rfl⟩⟩) rfl),
        (hd_s rfl (fun ρ hρ => ⟨_, rfl, .inl ⟨_, ((hρ 86 (lmem rfl)).trans rfl), gq rfl rfl⟩⟩) rfl),
        (hd_v rfl fun ρ hρ => ⟨rfl, ov_pickF rfl rfl rfl rfl ((hρ 86 (lmem rfl)).trans rfl) rfl rfl⟩),
        (hd_v rfl fun ρ hρ => ⟨rfl, opv_assign rfl rfl ((hρ 91 (lmem rfl)).trans rfl)⟩),
        trivial⟩ ?_
      refine tailAll_cons (hv' := [(0, Value.int .i64 r40.2.2), (1, Value.bool (decide (r40.2.2 = 0))), (2, Value.bool (decide (r40.2.2 = 0))), (3, undef), (4, undef), (5, undef), (6, Value.bool false), (7, Value.bool false), (8, undef), (9, undef), (10, undef), (11, undef), (12, undef), (13, undef), (14, undef), (15, Value.bool false), (16, Value.bool false), (17, undef), (18, undef), (19, Value.bool false), (20, Value.bool false), (21, undef), (22, undef), (23, undef), (24, undef), (25, Value.bool false), (26, Value.bool false)]) rfl (pv_cons rfl (pv_cons rfl (pv_cons rfl (pv_cons rfl (pv_cons rfl (pv_cons rfl (pv_cons rfl (pv_cons rfl (pv_cons rfl (pv_cons rfl (pv_cons rfl (pv_cons rfl (pv_cons rfl (pv_cons rfl (pv_cons rfl (pv_cons rfl (pv_cons rfl (pv_cons rfl (pv_cons rfl (pv_cons rfl (pv_cons rfl (pv_cons rfl (pv_cons rfl (pv_cons rfl (pv_cons rfl (pv_cons rfl (pv_cons rfl (pv_nil _)))))))))))))))))))))))))))) ?_ ?_
      · skip
        refine tail_0 (by decide +kernel) ?_
        exact ago_retE E7_52 (r := false) (ares_1 rfl (oneT rfl)) rfl H
      exact trivial
theorem S7_1_ok (Q : Bool → AW → Prop) (E : List PanicEntry → AW → Prop)  : ∀ (n : Nat) (ρ : Env) (p_0 : Value) (s_3 : ByteArray) (i_4 : Int) (aw : AW) (h0 : ρ 0 = p_0) (h3 : ρ 3 = .string s_3) (h4 : ρ 4 = .int .i64 i_4), S7_1 Q E  n p_0 s_3 i_4 aw →
    AGo prog 92 [.code C7_17, .inLoop C7_17, .inBlock 0, .code C7_46] ρ [] aw (RR prog f7 92 sh7 Q E)
  | 0, _, _, _, _, _, _, _, _ => fun H => H.elim
  | n + 1, ρ, p_0, s_3, i_4, aw, h0, h3, h4 => fun H => S7_1s_ok Q E  _ (S7_1_ok Q E  n) ρ p_0 s_3 i_4 aw h0 h3 h4 H
set_option maxHeartbeats 4000000 in
set_option maxRecDepth 100000 in
theorem S7_0_ok (Q : Bool → AW → Prop) (E : List PanicEntry → AW → Prop)  (ρ : Env) (p_0 : Value) (aw : AW) (h0 : ρ 0 = p_0) (H : S7_0 Q E  p_0 aw) :
    AGo prog 92 [.code C7_0] ρ [] aw (RR prog f7 92 sh7 Q E) := by
  unfold S7_0 at H
  refine ago_seqE E7_0 ?_
  refine ago_regE E7_1 (l := [0]) rfl ?_
  refine lk (dt := some 2) R7_0_N rfl rfl rfl (opv_assign rfl rfl rfl) ?_
  refine aops_nil ?_
  refine ago_seqE E7_2 ?_
  refine ago_seqE E7_3 ?_
  refine ago_regE E7_4 (l := [0, 1, 2, 3, 4, 5, 6]) rfl ?_
  refine lk_call (dt := some 11) R7_1_N rfl rfl rfl (opc_of rfl rfl is9 rfl) H (fun _ _ h => ⟨rfl, h⟩) fun r78 aw79 H => ?_
  refine lk (dt := some 12) R7_1_N rfl rfl rfl (opv_not rfl rfl rfl) ?_
  refine lk (dt := some 13) R7_1_N rfl rfl rfl (opv_move rfl rfl rfl) ?_
  rcases Bool.eq_false_or_eq_true (!r78) with hb80 | hb80
  · replace H := cnd_t H hb80
    refine lk_skip (dt := some 14) R7_1_N rfl rfl ⟨_, rfl, .inl ⟨_, rfl, gq hb80 rfl⟩⟩ ?_
    refine lk_skip (dt := some 15) R7_1_N rfl rfl ⟨_, rfl, .inl ⟨_, rfl, gq hb80 rfl⟩⟩ ?_
    refine lk_skip (dt := some 16) R7_1_N rfl rfl ⟨_, rfl, .inl ⟨_, rfl, gq hb80 rfl⟩⟩ ?_
    refine lk (dt := some 17) R7_1_N rfl rfl rfl (ov_pickT rfl rfl rfl rfl rfl hb80 rfl) ?_
    refine aops_nil ?_
    refine ago_condE  E7_5 rfl rfl (fun h => ?_) (fun h => tf h)
    refine ago_seqE E7_6 ?_
    refine ago_regE E7_7 (l := [0, 1]) rfl ?_
    refine lk_call (dt := some 18) R7_2_N rfl rfl rfl (opc_of rfl rfl is9 rfl) H (fun _ _ h => ⟨rfl, h⟩) fun r82 aw83 H => ?_
    refine lk (dt := some 2) R7_2_N rfl rfl rfl (opv_assign rfl rfl rfl) ?_
    refine aops_nil ?_
    exact ago_retE E7_8 (r := r82) (ares_1 rfl (oneT rfl)) rfl H
  · replace H := cnd_f H hb80
    refine lk (dt := some 14) R7_1_N rfl rfl ⟨_, rfl, .inl ⟨_, rfl, gq hb80 rfl⟩⟩ (opv_move rfl rfl h0) ?_
    obtain ⟨q85, l86, c87, n84, hv88, hn89, H⟩ := H
    refine lk (dt := some 15) R7_1_N rfl rfl ⟨_, rfl, .inl ⟨_, rfl, gq hb80 rfl⟩⟩ (ov_len rfl rfl rfl underlying30 rfl hv88 hn89) ?_
    refine lk (dt := some 16) R7_1_N rfl rfl ⟨_, rfl, .inl ⟨_, rfl, gq hb80 rfl⟩⟩ (opv_gt rfl rfl rfl rfl rfl) ?_
    refine lk (dt := some 17) R7_1_N rfl rfl rfl (ov_pickF rfl rfl rfl rfl rfl hb80 rfl) ?_
    refine aops_nil ?_
    refine ago_condE  E7_5 rfl rfl (fun hb90 => ?_) (fun hb90 => ?_)
    · replace H := cnd_t H hb90
      refine ago_seqE E7_6 ?_
      refine ago_regE E7_7 (l := [0, 1]) rfl ?_
      refine lk_call (dt := some 18) R7_2_N rfl rfl rfl (opc_of rfl rfl is9 rfl) H (fun _ _ h => ⟨rfl, h⟩) fun r91 aw92 H => ?_
      refine lk (dt := some 2) R7_2_N rfl rfl rfl (opv_assign rfl rfl rfl) ?_
      refine aops_nil ?_
      exact ago_retE E7_8 (r := r91) (ares_1 rfl (oneT rfl)) rfl H
    · replace H := cnd_f H hb90
      refine ago_skipE E7_9 ?_
      refine ago_seqE E7_10 ?_
      refine ago_regE E7_11 (l := [0]) rfl ?_
      refine lk (dt := some 3) R7_3_N rfl rfl rfl (opv_assign rfl rfl rfl) ?_
      refine aops_nil ?_
      refine ago_seqE E7_12 ?_
      refine ago_seqE E7_13 ?_
      refine ago_regE E7_14 (l := [0]) rfl ?_
      refine lk (dt := some 4) R7_4_N rfl rfl rfl (opv_assign rfl rfl rfl) ?_
      refine aops_nil ?_
      refine ago_blockE E7_15 ?_
      refine ago_loopE E7_16 ?_
      obtain ⟨n, H⟩ := H
      exact S7_1_ok Q E  n _ p_0 (⟨#[34]⟩ : ByteArray) 0 aw79 h0 rfl rfl H
theorem F7_ok {Q : Bool → AW → Prop} {E : List PanicEntry → AW → Prop} (p_0 : Value) (aw : AW) (H : S7_0 Q E p_0 aw) : CallP prog 7 [p_0] aw sh7 Q E :=
  callP_of func7 C7_is rfl (Nat.le_of_ble_eq_true rfl) (S7_0_ok Q E _ p_0 aw rfl H)
end Go.Proofs.Tryd
