/- Printed by a program of the prover: what the Go functions of this seat do, in steps. -/
import Derived.Test.YthfjjcfceilahaaGreatDoorPnF
set_option linter.unusedSectionVars false
set_option linter.unusedSimpArgs false
set_option linter.unusedVariables false
namespace Go.Proofs.Tryz
open Go Go.Am Go.RowKit
set_option maxHeartbeats 4000000
set_option maxRecDepth 100000
noncomputable section
variable [SymE]
def C16_0 : Code := bodyOf f16
theorem C16_is : f16.body = some C16_0 := by kernel_rfl
def C16_1 : Code := cl C16_0
def R16_0 : Array Oper := regOps C16_1
def C16_2 : Code := cr C16_0
def C16_3 : Code := cl C16_2
def C16_4 : Code := cl C16_3
def R16_1 : Array Oper := regOps C16_4
def C16_5 : Code := cr C16_3
def C16_6 : Code := cl C16_5
def C16_7 : Code := cl C16_6
def R16_2 : Array Oper := regOps C16_7
def C16_8 : Code := cr C16_6
def C16_9 : Code := cr C16_5
def C16_10 : Code := cr C16_2
def C16_11 : Code := cl C16_10
def R16_3 : Array Oper := regOps C16_11
def C16_12 : Code := cr C16_10
def C16_13 : Code := cl C16_12
def C16_14 : Code := cl C16_13
def R16_4 : Array Oper := regOps C16_14
def C16_15 : Code := cr C16_13
def C16_16 : Code := cl C16_15
def C16_17 : Code := cl C16_16
def C16_18 : Code := cl C16_17
def R16_5 : Array Oper := regOps C16_18
def C16_19 : Code := cr C16_17
def C16_20 : Code := cl C16_19
def C16_21 : Code := cl C16_20
def C16_22 : Code := cr C16_20
def C16_23 : Code := cr C16_19
def C16_24 : Code := cl C16_23
def C16_25 : Code := cl C16_24
def C16_26 : Code := cl C16_25
def R16_6 : Array Oper := regOps C16_26
def C16_27 : Code := cr C16_25
def R16_7 : Array Oper := regOps C16_27
def C16_28 : Code := cr C16_23
def R16_8 : Array Oper := regOps C16_28
def C16_29 : Code := cr C16_12
def C16_30 : Code := cl C16_29
def R16_9 : Array Oper := regOps C16_30
def C16_31 : Code := cr C16_29
theorem R16_0_N : dstsOk 25 R16_0 = true := by decide +kernel
theorem E16_1 : C16_1 = .region 0 R16_0 false := rfl
theorem R16_1_N : dstsOk 25 R16_1 = true := by decide +kernel
theorem E16_4 : C16_4 = .region 1 R16_1 false := rfl
theorem R16_2_N : dstsOk 25 R16_2 = true := by decide +kernel
theorem E16_7 : C16_7 = .region 2 R16_2 false := rfl
theorem E16_8 : C16_8 = .ret := rfl
theorem E16_6 : C16_6 = .seq C16_7 C16_8 := rfl
theorem E16_9 : C16_9 = .skip := rfl
theorem E16_5 : C16_5 = .cond (.tmp 8) C16_6 C16_9 := rfl
theorem E16_3 : C16_3 = .seq C16_4 C16_5 := rfl
theorem R16_3_N : dstsOk 25 R16_3 = true := by decide +kernel
theorem E16_11 : C16_11 = .region 3 R16_3 false := rfl
theorem R16_4_N : dstsOk 25 R16_4 = true := by decide +kernel
theorem E16_14 : C16_14 = .region 4 R16_4 false := rfl
theorem R16_5_N : dstsOk 25 R16_5 = true := by decide +kernel
theorem E16_18 : C16_18 = .region 5 R16_5 false := rfl
theorem E16_21 : C16_21 = .skip := rfl
theorem E16_22 : C16_22 = .exit 0 := rfl
theorem E16_20 : C16_20 = .cond (.tmp 16) C16_21 C16_22 := rfl
theorem R16_6_N : dstsOk 25 R16_6 = true := by decide +kernel
theorem E16_26 : C16_26 = .region 6 R16_6 false := rfl
theorem R16_7_N : dstsOk 25 R16_7 = true := by decide +kernel
theorem E16_27 : C16_27 = .region 7 R16_7 false := rfl
theorem E16_25 : C16_25 = .seq C16_26 C16_27 := rfl
theorem E16_24 : C16_24 = .block 1 C16_25 := rfl
theorem R16_8_N : dstsOk 25 R16_8 = true := by decide +kernel
theorem E16_28 : C16_28 = .region 8 R16_8 false := rfl
theorem E16_23 : C16_23 = .seq C16_24 C16_28 := rfl
theorem E16_19 : C16_19 = .seq C16_20 C16_23 := rfl
theorem E16_17 : C16_17 = .seq C16_18 C16_19 := rfl
theorem E16_16 : C16_16 = .loop C16_17 := rfl
theorem E16_15 : C16_15 = .block 0 C16_16 := rfl
theorem E16_13 : C16_13 = .seq C16_14 C16_15 := rfl
theorem R16_9_N : dstsOk 25 R16_9 = true := by decide +kernel
theorem E16_30 : C16_30 = .region 9 R16_9 false := rfl
theorem E16_31 : C16_31 = .ret := rfl
theorem E16_29 : C16_29 = .seq C16_30 C16_31 := rfl
theorem E16_12 : C16_12 = .seq C16_13 C16_29 := rfl
theorem E16_10 : C16_10 = .seq C16_11 C16_12 := rfl
theorem E16_2 : C16_2 = .seq C16_3 C16_10 := rfl
theorem E16_0 : C16_0 = .seq C16_1 C16_2 := rfl
def S16_1s (Q : Value → AW → Prop) (E : List PanicEntry → AW → Prop)  (nx1 : Value → Value → Int → Int → AW → Prop) (out_3 : Value) (t_13 : Value) (t_14 : Int) (t_15 : Int) (aw : AW) : Prop :=
  cnd (decide (t_15 < t_14)) (ixS t_13 t_15 4 fun p2 =>
  ptr p2 fun b11 i12 =>
  gI .u8 aw b11 i12 fun c14 =>
  gS aw b11 (i12 + 1) fun c15 =>
  gI .i64 aw b11 (i12 + 2) fun c16 =>
  gV aw b11 (i12 + 3) fun c17 =>
  alc aw [.int .u8 0, .string (⟨#[]⟩ : ByteArray), .int .i64 0, (.slice none 0 0)] 44 0 fun p22 aw23 =>
  st aw23 p22 [.int .u8 c14, .string c15, .int .i64 c16, c17] fun aw26 =>
  ptr p22 fun b33 i34 =>
  gI .u8 aw26 b33 i34 fun c36 =>
  gS aw26 b33 (i34 + 1) fun c37 =>
  gI .i64 aw26 b33 (i34 + 2) fun c38 =>
  gV aw26 b33 (i34 + 3) fun c39 =>
  CallP prog 16 [.agg #[.int .u8 c36, .string c37, .int .i64 c38, c39]] aw26 sh16 (fun r44 aw45 =>
  app aw45 9 1 16 out_3 r44 fun v46 aw47 =>
  nx1 v46 t_13 t_14 (IntKind.i64.wrap (t_15 + 1)) aw47) E) (Q out_3 aw)
def S16_1 (Q : Value → AW → Prop) (E : List PanicEntry → AW → Prop)  : Nat → Value → Value → Int → Int → AW → Prop
  | 0 => fun _ _ _ _ _ => False
  | n + 1 => S16_1s Q E  (S16_1 Q E  n)
def S16_0 (Q : Value → AW → Prop) (E : List PanicEntry → AW → Prop)  (p_0_0 : Int) (p_0_1 : ByteArray) (p_0_2 : Int) (p_0_3 : Value) (aw : AW) : Prop :=
  alc aw [.int .u8 p_0_0, .string p_0_1, .int .i64 p_0_2, p_0_3] 44 0 fun p49 aw50 =>
  fldA p49 0 fun p53 =>
  ldI .u8 aw50 p53 fun x61 =>
  cnd (decide (x61 = 2)) (fldA p49 1 fun p64 =>
  ldS aw50 p64 fun x72 =>
  alcS aw50 [.string x72] 9 1 1 fun p74 aw75 =>
  Q p74 aw75) (fldA p49 3 fun p78 =>
  ldV aw50 p78 fun x86 =>
  slen x86 fun n88 =>
  ∃ n, S16_1 Q E  n (.slice none 0 0) x86 n88 0 aw50)
theorem S16_1s_ok (Q : Value → AW → Prop) (E : List PanicEntry → AW → Prop)  (nx1 : Value → Value → Int → Int → AW → Prop) (L1 : ∀ (ρ : Env) (out_3 : Value) (t_13 : Value) (t_14 : Int) (t_15 : Int) (aw : AW) (h3 : ρ 3 = out_3) (h13 : ρ 13 = t_13) (h14 : ρ 14 = .int .i64 t_14) (h15 : ρ 15 = .int .i64 t_15), nx1 out_3 t_13 t_14 t_15 aw → AGo prog 25 [.code C16_17, .inLoop C16_17, .inBlock 0, .code C16_29] ρ [] aw (RR prog f16 25 sh16 Q E)) (ρ : Env) (out_3 : Value) (t_13 : Value) (t_14 : Int) (t_15 : Int) (aw : AW) (h3 : ρ 3 = out_3) (h13 : ρ 13 = t_13) (h14 : ρ 14 = .int .i64 t_14) (h15 : ρ 15 = .int .i64 t_15) (H : S16_1s Q E  nx1 out_3 t_13 t_14 t_15 aw) :
    AGo prog 25 [.code C16_17, .inLoop C16_17, .inBlock 0, .code C16_29] ρ [] aw (RR prog f16 25 sh16 Q E) := by
  unfold S16_1s at H
  refine ago_seqE E16_17 ?_
  refine ago_regE E16_18 (l := [0]) rfl ?_
  refine lk (dt := some 16) R16_5_N rfl rfl rfl (opv_lt rfl rfl rfl h15 h14) ?_
  refine aops_nil ?_
  refine ago_seqE E16_19 ?_
  refine ago_condE  E16_20 rfl rfl (fun hb1 => ?_) (fun hb1 => ?_)
  · replace H := cnd_t H hb1
    refine ago_skipE E16_21 ?_
    refine ago_seqE E16_23 ?_
    refine ago_blockE E16_24 ?_
    refine ago_seqE E16_25 ?_
    refine ago_regE E16_26 (l := [0, 1, 2, 3]) rfl ?_
    obtain ⟨b3, i4, l5, c6, p2, hp7, h08, hj9, hv10, H⟩ := H
    refine lk (dt := some 17) R16_6_N rfl rfl rfl (ov_ixS rfl rfl rfl underlying32 sz44 h13 h15 hp7 h08 hj9 hv10) ?_
    obtain ⟨b11, i12, hp13, c14, hg18, c15, hg19, c16, hg20, c17, hg21, H⟩ := H
    refine lk (dt := some 18) R16_6_N rfl rfl rfl (ov_ldN rfl underlying44 rfl sz44 rfl rfl hp13 (getN_cons hg18 (getN_cons hg19 (getN_cons hg20 (getN_cons hg21 getN_nil))))) ?_
    obtain ⟨p22, aw23, hp24, ha25, H⟩ := H
    refine lk (dt := some 5) R16_6_N rfl rfl rfl (ov_alloc rfl z44 rfl rfl hp24 ha25) ?_
    obtain ⟨b27, i28, aw26, hp29, hw30, ho31, ha32, H⟩ := H
    refine lk (dt := none) R16_6_N rfl rfl rfl (ov_st rfl rfl rfl rfl rfl rfl sz44 hp29 hw30 ho31 ha32) ?_
    refine aops_nil ?_
    refine ago_regE E16_27 (l := [0, 1, 2, 3, 4]) rfl ?_
    refine lk (dt := some 19) R16_7_N rfl rfl rfl (opv_move rfl rfl h3) ?_
    obtain ⟨b33, i34, hp35, c36, hg40, c37, hg41, c38, hg42, c39, hg43, H⟩ := H
    refine lk (dt := some 20) R16_7_N rfl rfl rfl (ov_ldN rfl underlying44 rfl sz44 rfl rfl hp35 (getN_cons hg40 (getN_cons hg41 (getN_cons hg42 (getN_cons hg43 getN_nil))))) ?_
    refine lk_call (dt := some 21) R16_7_N rfl rfl rfl (opc_of rfl rfl is16 (ma_cons rfl rfl)) H (fun _ _ h => ⟨rfl, h⟩) fun r44 aw45 H => ?_
    obtain ⟨v46, aw47, hq48, H⟩ := H
    refine lk (dt := some 22) R16_7_N rfl rfl rfl (ov_app rfl rfl rfl rfl underlying30 sz9 by9 underlying30 rfl z9 rfl (by decide) (by decide) rfl rfl hq48) ?_
    refine lk (dt := some 3) R16_7_N rfl rfl rfl (opv_assign rfl rfl rfl) ?_
    refine aops_nil ?_
    refine ago_inBlock ?_
    refine ago_regE E16_28 (l := [0, 1]) rfl ?_
    refine lk (dt := some 23) R16_8_N rfl rfl rfl (opv_add rfl rfl rfl h15 rfl) ?_
    refine lk (dt := some 15) R16_8_N rfl rfl rfl (opv_move rfl rfl rfl) ?_
    refine aops_nil ?_
    refine ago_inLoop ?_
    exact L1 _ v46 t_13 t_14 (IntKind.i64.wrap (t_15 + 1)) aw47 rfl h13 h14 rfl H
  replace H := cnd_f H hb1
  refine ago_exitE E16_22 rfl ?_
  refine ago_seqE E16_29 ?_
  refine ago_regE E16_30 (l := [0, 1]) rfl ?_
  refine lk (dt := some 24) R16_9_N rfl rfl rfl (opv_move rfl rfl h3) ?_
  refine lk (dt := some 2) R16_9_N rfl rfl rfl (opv_assign rfl rfl rfl) ?_
  refine aops_nil ?_
  exact ago_retE E16_31 (r := out_3) (ares_1 rfl (oneT rfl)) rfl H
theorem S16_1_ok (Q : Value → AW → Prop) (E : List PanicEntry → AW → Prop)  : ∀ (n : Nat) (ρ : Env) (out_3 : Value) (t_13 : Value) (t_14 : Int) (t_15 : Int) (aw : AW) (h3 : ρ 3 = out_3) (h13 : ρ 13 = t_13) (h14 : ρ 14 = .int .i64 t_14) (h15 : ρ 15 = .int .i64 t_15), S16_1 Q E  n out_3 t_13 t_14 t_15 aw →
    AGo prog 25 [.code C16_17, .inLoop C16_17, .inBlock 0, .code C16_29] ρ [] aw (RR prog f16 25 sh16 Q E)
  | 0, _, _, _, _, _, _, _, _, _, _ => fun H => H.elim
  | n + 1, ρ, out_3, t_13, t_14, t_15, aw, h3, h13, h14, h15 => fun H => S16_1s_ok Q E  _ (S16_1_ok Q E  n) ρ out_3 t_13 t_14 t_15 aw h3 h13 h14 h15 H
theorem S16_0_ok (Q : Value → AW → Prop) (E : List PanicEntry → AW → Prop)  (ρ : Env) (p_0_0 : Int) (p_0_1 : ByteArray) (p_0_2 : Int) (p_0_3 : Value) (aw : AW) (h0 : ρ 0 = .agg #[.int .u8 p_0_0, .string p_0_1, .int .i64 p_0_2, p_0_3]) (H : S16_0 Q E  p_0_0 p_0_1 p_0_2 p_0_3 aw) :
    AGo prog 25 [.code C16_0] ρ [] aw (RR prog f16 25 sh16 Q E) := by
  unfold S16_0 at H
  refine ago_seqE E16_0 ?_
  refine ago_regE E16_1 (l := [0, 1]) rfl ?_
  obtain ⟨p49, aw50, hp51, ha52, H⟩ := H
  refine lk (dt := some 1) R16_0_N rfl rfl rfl (ov_box rfl rfl h0 rfl hp51 ha52) ?_
  refine lk (dt := some 2) R16_0_N rfl rfl rfl (opv_assign rfl rfl rfl) ?_
  refine aops_nil ?_
  refine ago_seqE E16_2 ?_
  refine ago_seqE E16_3 ?_
  refine ago_regE E16_4 (l := [0, 1, 2]) rfl ?_
  obtain ⟨b54, i55, p53, hp56, hv57, H⟩ := H
  refine lk (dt := some 6) R16_1_N rfl rfl rfl (ov_fldA rfl rfl underlying44 rfl sz5 (by decide) rfl hp56 rfl hv57) ?_
  obtain ⟨b58, i59, x61, hp60, hg62, H⟩ := H
  refine lk (dt := some 7) R16_1_N rfl rfl rfl (ov_ldI rfl underlying5 rfl rfl hp60 hg62) ?_
  refine lk (dt := some 8) R16_1_N rfl rfl rfl (opv_eqI rfl rfl rfl rfl rfl) ?_
  refine aops_nil ?_
  refine ago_condE  E16_5 rfl rfl (fun hb63 => ?_) (fun hb63 => ?_)
  · replace H := cnd_t H hb63
    refine ago_seqE E16_6 ?_
    refine ago_regE E16_7 (l := [0, 1, 2, 3]) rfl ?_
    obtain ⟨b65, i66, p64, hp67, hv68, H⟩ := H
    refine lk (dt := some 9) R16_2_N rfl rfl rfl (ov_fldA rfl rfl underlying44 rfl sz9 (by decide) rfl hp67 rfl hv68) ?_
    obtain ⟨b69, i70, x72, hp71, hg73, H⟩ := H
    refine lk (dt := some 10) R16_2_N rfl rfl rfl (ov_ldS rfl underlying9 rfl rfl hp71 hg73) ?_
    obtain ⟨p74, aw75, hp76, ha77, H⟩ := H
    refine lk (dt := some 11) R16_2_N rfl rfl rfl (ov_bsA (r := [.string x72]) (vs := [.string x72]) rfl rfl underlying30 sz9 z9 rfl rfl rfl rfl rfl (mp_cons rfl rfl) (.one rfl .nil) hp76 ha77) ?_
    refine lk (dt := some 2) R16_2_N rfl rfl rfl (opv_assign rfl rfl rfl) ?_
    refine aops_nil ?_
    exact ago_retE E16_8 (r := p74) (ares_1 rfl (oneT rfl)) rfl H
  replace H := cnd_f H hb63
  refine ago_skipE E16_9 ?_
  refine ago_seqE E16_10 ?_
  refine ago_regE E16_11 (l := [0]) rfl ?_
  refine lk (dt := some 3) R16_3_N rfl rfl rfl (opv_assign rfl rfl rfl) ?_
  refine aops_nil ?_
  refine ago_seqE E16_12 ?_
  refine ago_seqE E16_13 ?_
  refine ago_regE E16_14 (l := [0, 1, 2, 3]) rfl ?_
  obtain ⟨b79, i80, p78, hp81, hv82, H⟩ := H
  refine lk (dt := some 12) R16_4_N rfl rfl rfl (ov_fldA rfl rfl underlying44 rfl sz32 (by decide) rfl hp81 rfl hv82) ?_
  obtain ⟨b83, i84, x86, hp85, hg87, H⟩ := H
  refine lk (dt := some 13) R16_4_N rfl rfl rfl (ov_ldV rfl underlying32 rfl rfl rfl hp85 hg87) ?_
  obtain ⟨q89, l90, c91, n88, hv92, hn93, H⟩ := H
  refine lk (dt := some 14) R16_4_N rfl rfl rfl (ov_len rfl rfl rfl underlying32 rfl hv92 hn93) ?_
  refine lk (dt := some 15) R16_4_N rfl rfl rfl (opv_move rfl rfl rfl) ?_
  refine aops_nil ?_
  refine ago_blockE E16_15 ?_
  refine ago_loopE E16_16 ?_
  obtain ⟨n, H⟩ := H
  exact S16_1_ok Q E  n _ (.slice none 0 0) x86 n88 0 aw50 rfl rfl rfl rfl H
theorem F16_ok {Q : Value → AW → Prop} {E : List PanicEntry → AW → Prop} (p_0_0 : Int) (p_0_1 : ByteArray) (p_0_2 : Int) (p_0_3 : Value) (aw : AW) (H : S16_0 Q E p_0_0 p_0_1 p_0_2 p_0_3 aw) : CallP prog 16 [.agg #[.int .u8 p_0_0, .string p_0_1, .int .i64 p_0_2, p_0_3]] aw sh16 Q E :=
  callP_of func16 C16_is rfl (Nat.le_of_ble_eq_true rfl) (S16_0_ok Q E _ p_0_0 p_0_1 p_0_2 p_0_3 aw rfl H)
def C71_0 : Code := bodyOf f71
theorem C71_is : f71.body = some C71_0 := by kernel_rfl
def C71_1 : Code := cl C71_0
def R71_0 : Array Oper := regOps C71_1
def C71_2 : Code := cr C71_0
def C71_3 : Code := cl C71_2
def R71_1 : Array Oper := regOps C71_3
def C71_4 : Code := cr C71_2
def C71_5 : Code := cl C71_4
def R71_2 : Array Oper := regOps C71_5
def C71_6 : Code := cr C71_4
def C71_7 : Code := cl C71_6
def R71_3 : Array Oper := regOps C71_7
def C71_8 : Code := cr C71_6
def C71_9 : Code := cl C71_8
def R71_4 : Array Oper := regOps C71_9
def C71_10 : Code := cr C71_8
def C71_11 : Code := cl C71_10
def C71_12 : Code := cl C71_11
def R71_5 : Array Oper := regOps C71_12
def C71_13 : Code := cr C71_11
def C71_14 : Code := cl C71_13
def R71_6 : Array Oper := regOps C71_14
def C71_15 : Code := cr C71_13
def C71_16 : Code := cr C71_10
def C71_17 : Code := cl C71_16
def R71_7 : Array Oper := regOps C71_17
def C71_18 : Code := cr C71_16
theorem R71_0_N : dstsOk 27 R71_0 = true := by decide +kernel
theorem E71_1 : C71_1 = .region 0 R71_0 false := rfl
theorem R71_1_N : dstsOk 27 R71_1 = true := by decide +kernel
theorem E71_3 : C71_3 = .region 1 R71_1 false := rfl
theorem R71_2_N : dstsOk 27 R71_2 = true := by decide +kernel
theorem E71_5 : C71_5 = .region 2 R71_2 false := rfl
theorem R71_3_N : dstsOk 27 R71_3 = true := by decide +kernel
theorem E71_7 : C71_7 = .region 3 R71_3 false := rfl
theorem R71_4_N : dstsOk 27 R71_4 = true := by decide +kernel
theorem E71_9 : C71_9 = .region 4 R71_4 false := rfl
theorem R71_5_N : dstsOk 27 R71_5 = true := by decide +kernel
theorem R71_5_O : linOk R71_5 [0, 3] [(1, [3], [2]), (4, [2], [5, 6])] = true := by decide +kernel
theorem E71_12 : C71_12 = .region 5 R71_5 true := rfl
theorem R71_6_N : dstsOk 27 R71_6 = true := by decide +kernel
theorem E71_14 : C71_14 = .region 6 R71_6 false := rfl
theorem E71_15 : C71_15 = .skip := rfl
theorem E71_13 : C71_13 = .cond (.tmp 22) C71_14 C71_15 := rfl
theorem E71_11 : C71_11 = .seq C71_12 C71_13 := rfl
theorem R71_7_N : dstsOk 27 R71_7 = true := by decide +kernel
theorem E71_17 : C71_17 = .region 7 R71_7 false := rfl
theorem E71_18 : C71_18 = .ret := rfl
theorem E71_16 : C71_16 = .seq C71_17 C71_18 := rfl
theorem E71_10 : C71_10 = .seq C71_11 C71_16 := rfl
theorem E71_8 : C71_8 = .seq C71_9 C71_10 := rfl
theorem E71_6 : C71_6 = .seq C71_7 C71_8 := rfl
theorem E71_4 : C71_4 = .seq C71_5 C71_6 := rfl
theorem E71_2 : C71_2 = .seq C71_3 C71_4 := rfl
theorem E71_0 : C71_0 = .seq C71_1 C71_2 := rfl
def S71_1 (Q : (Int × ByteArray × Int × Value) → AW → Prop) (E : List PanicEntry → AW → Prop)  (t_2 : Value) (p_4 : Value) (aw : AW) : Prop :=
  ptr p_4 fun b1 i2 =>
  gI .u8 aw b1 i2 fun c4 =>
  gS aw b1 (i2 + 1) fun c5 =>
  gI .i64 aw b1 (i2 + 2) fun c6 =>
  gV aw b1 (i2 + 3) fun c7 =>
  st aw t_2 [.int .u8 c4, .string c5, .int .i64 c6, c7] fun aw12 =>
  ptr t_2 fun b19 i20 => gI .u8 aw12 b19 i20 fun c22 => gS aw12 b19 (i20 + 1) fun c23 => gI .i64 aw12 b19 (i20 + 2) fun c24 => gV aw12 b19 (i20 + 3) fun c25 => Q (c22, c23, c24, c25) aw12
def S71_0 (Q : (Int × ByteArray × Int × Value) → AW → Prop) (E : List PanicEntry → AW → Prop)  (r_0 : Value) (aw : AW) : Prop :=
  alc aw [.int .u8 0, .string (⟨#[]⟩ : ByteArray), .int .i64 0, (.slice none 0 0)] 44 0 fun p30 aw31 =>
  nck r_0 (fldA r_0 1 fun p35 =>
  ldI .i64 aw31 p35 fun x43 =>
  CallP prog 81 [r_0] aw31 sh81 (fun r45 aw46 =>
  alc aw46 [.int .u8 0, .string (⟨#[]⟩ : ByteArray), .int .i64 0, (.slice none 0 0)] 44 0 fun p47 aw48 =>
  st aw48 p47 [.int .u8 r45.1, .string r45.2.1, .int .i64 r45.2.2.1, r45.2.2.2] fun aw51 =>
  ptr p47 fun b58 i59 =>
  gI .u8 aw51 b58 i59 fun c61 =>
  gS aw51 b58 (i59 + 1) fun c62 =>
  gI .i64 aw51 b58 (i59 + 2) fun c63 =>
  gV aw51 b58 (i59 + 3) fun c64 =>
  CallP prog 16 [.agg #[.int .u8 c61, .string c62, .int .i64 c63, c64]] aw51 sh16 (fun r69 aw70 =>
  CallP prog 82 [r69] aw70 sh82 (fun r71 aw72 =>
  ptr p47 fun b73 i74 =>
  gI .u8 aw72 b73 i74 fun c76 =>
  gS aw72 b73 (i74 + 1) fun c77 =>
  gI .i64 aw72 b73 (i74 + 2) fun c78 =>
  gV aw72 b73 (i74 + 3) fun c79 =>
  CallP prog 83 [r69] aw72 sh83 (fun r84 aw85 =>
  aw85.get b73 i74 = some (.int .u8 c76) ∧ aw85.get b73 (i74 + 1) = some (.string c77) ∧ aw85.get b73 (i74 + 2) = some (.int .i64 c78) ∧ aw85.get b73 (i74 + 3) = some (c79) ∧ slen r84 fun n86 =>
  CallP prog 16 [.agg #[.int .u8 c76, .string c77, .int .i64 c78, c79]] aw85 sh16 (fun r92 aw93 =>
  slen r92 fun n94 =>
  cnd (decide (n86 < n94)) (CallP prog 23 [r_0, .int .i64 x43, .int .i64 7] aw93 sh23 (fun r101 aw102 =>
  S71_1 Q E  p30 p47 aw102) E) (S71_1 Q E  p30 p47 aw93)) E) E) E) E) E)
theorem S71_1_ok (Q : (Int × ByteArray × Int × Value) → AW → Prop) (E : List PanicEntry → AW → Prop)  (ρ : Env) (t_2 : Value) (p_4 : Value) (aw : AW) (h2 : ρ 2 = t_2) (h4 : ρ 4 = p_4) (H : S71_1 Q E  t_2 p_4 aw) :
    AGo prog 27 [.code C71_16] ρ [] aw (RR prog f71 27 sh71 Q E) := by
  unfold S71_1 at H
  refine ago_seqE E71_16 ?_
  refine ago_regE E71_17 (l := [0, 1]) rfl ?_
  obtain ⟨b1, i2, hp3, c4, hg8, c5, hg9, c6, hg10, c7, hg11, H⟩ := H
  refine lk (dt := some 26) R71_7_N rfl rfl rfl (ov_ldN rfl underlying44 rfl sz44 rfl h4 hp3 (getN_cons hg8 (getN_cons hg9 (getN_cons hg10 (getN_cons hg11 getN_nil))))) ?_
  obtain ⟨b13, i14, aw12, hp15, hw16, ho17, ha18, H⟩ := H
  refine lk (dt := none) R71_7_N rfl rfl rfl (ov_st rfl rfl rfl h2 rfl rfl sz44 hp15 hw16 ho17 ha18) ?_
  refine aops_nil ?_
  obtain ⟨b19, i20, hp21, c22, hg26, c23, hg27, c24, hg28, c25, hg29, H⟩ := H
  exact ago_retE E71_18 (r := (c22, c23, c24, c25)) (ares_1 rfl (oneN h2 hp21 underlying44 rfl sz44 (getN_cons hg26 (getN_cons hg27 (getN_cons hg28 (getN_cons hg29 getN_nil)))))) rfl H
theorem S71_0_ok (Q : (Int × ByteArray × Int × Value) → AW → Prop) (E : List PanicEntry → AW → Prop)  (ρ : Env) (r_0 : Value) (aw : AW) (h0 : ρ 0 = r_0) (H : S71_0 Q E  r_0 aw) :
    AGo prog 27 [.code C71_0] ρ [] aw (RR prog f71 27 sh71 Q E) := by
  unfold S71_0 at H
  refine ago_seqE E71_0 ?_
  refine ago_regE E71_1 (l := [0]) rfl ?_
  obtain ⟨p30, aw31, hp32, ha33, H⟩ := H
  refine lk (dt := some 2) R71_0_N rfl rfl rfl (ov_alloc rfl z44 rfl rfl hp32 ha33) ?_
  refine aops_nil ?_
  refine ago_seqE E71_2 ?_
  refine ago_regE E71_3 (l := [0, 1, 2, 3, 4]) rfl ?_
  refine lk (dt := some 6) R71_1_N rfl rfl rfl (opv_move rfl rfl h0) ?_
  obtain ⟨hp34, H⟩ := H
  refine lk (dt := some 7) R71_1_N rfl rfl rfl (ov_nck rfl rfl rfl hp34) ?_
  obtain ⟨b36, i37, p35, hp38, hv39, H⟩ := H
  refine lk (dt := some 8) R71_1_N rfl rfl rfl (ov_fldA rfl rfl underlying58 rfl sz3 (by decide) rfl hp38 rfl hv39) ?_
  obtain ⟨b40, i41, x43, hp42, hg44, H⟩ := H
  refine lk (dt := some 9) R71_1_N rfl rfl rfl (ov_ldI rfl underlying3 rfl rfl hp42 hg44) ?_
  refine lk (dt := some 3) R71_1_N rfl rfl rfl (opv_assign rfl rfl rfl) ?_
  refine aops_nil ?_
  refine ago_seqE E71_4 ?_
  refine ago_regE E71_5 (l := [0, 1, 2, 3]) rfl ?_
  refine lk (dt := some 10) R71_2_N rfl rfl rfl (opv_move rfl rfl h0) ?_
  refine lk_call (dt := some 11) R71_2_N rfl rfl rfl (opc_of rfl rfl is81 (ma_cons rfl rfl)) H (fun _ _ h => ⟨rfl, h⟩) fun r45 aw46 H => ?_
  obtain ⟨p47, aw48, hp49, ha50, H⟩ := H
  refine lk (dt := some 4) R71_2_N rfl rfl rfl (ov_alloc rfl z44 rfl rfl hp49 ha50) ?_
  obtain ⟨b52, i53, aw51, hp54, hw55, ho56, ha57, H⟩ := H
  refine lk (dt := none) R71_2_N rfl rfl rfl (ov_st rfl rfl rfl rfl rfl rfl sz44 hp54 hw55 ho56 ha57) ?_
  refine aops_nil ?_
  refine ago_seqE E71_6 ?_
  refine ago_regE E71_7 (l := [0, 1, 2]) rfl ?_
  obtain ⟨b58, i59, hp60, c61, hg65, c62, hg66, c63, hg67, c64, hg68, H⟩ := H
  refine lk (dt := some 12) R71_3_N rfl rfl rfl (ov_ldN rfl underlying44 rfl sz44 rfl rfl hp60 (getN_cons hg65 (getN_cons hg66 (getN_cons hg67 (getN_cons hg68 getN_nil))))) ?_
  refine lk_call (dt := some 13) R71_3_N rfl rfl rfl (opc_of rfl rfl is16 (ma_cons rfl rfl)) H (fun _ _ h => ⟨rfl, h⟩) fun r69 aw70 H => ?_
  refine lk (dt := some 5) R71_3_N rfl rfl rfl (opv_assign rfl rfl rfl) ?_
  refine aops_nil ?_
  refine ago_seqE E71_8 ?_
  refine ago_cut (fun ρ => ρ 0 = r_0 ∧ ρ 2 = p30 ∧ ρ 3 = .int .i64 x43 ∧ ρ 4 = p47 ∧ ρ 5 = r69 ∧ True) ⟨h0, rfl, rfl, rfl, rfl, trivial⟩ (fun ρ ⟨h0, h2, h3, h4, h5, _⟩ => ?_)
  refine ago_regE E71_9 (l := [0, 1]) rfl ?_
  refine lk (dt := some 14) R71_4_N rfl rfl rfl (opv_move rfl rfl h5) ?_
  refine lk_call (dt := some 15) R71_4_N rfl rfl rfl (opc_of rfl rfl is82 (ma_cons rfl rfl)) H (fun _ _ h => ⟨rfl, h⟩) fun r71 aw72 H => ?_
  refine aops_nil ?_
  refine ago_seqE E71_10 ?_
  refine ago_seqE E71_11 ?_
  obtain ⟨b73, i74, hp75, c76, hg80, c77, hg81, c78, hg82, c79, hg83, H⟩ := H
  refine ago_drawH (p := [0, 3]) (tl := [(1, [3], [2]), (4, [2], [5, 6])]) (hv := [(0, r69), (3, Value.agg #[.int .u8 c76, .string c77, .int .i64 c78, c79])]) E71_12 mixed R71_5_N R71_5_O rfl (pv_cons rfl (pv_cons rfl (pv_nil _)))
    (ffc (d := 16) (v := r69) (hd_v rfl fun ρ hρ => ⟨rfl, opv_move rfl rfl ((hρ 5 (lmem rfl)).trans h5)⟩) rfl rfl
    (ffc (d := 19) (v := .agg #[.int .u8 c76, .string c77, .int .i64 c78, c79]) (hd_v rfl fun ρ hρ => ⟨rfl, ov_ldN rfl underlying44 rfl sz44 rfl ((hρ 4 (lmem rfl)).trans h4) hp75 (getN_cons hg80 (getN_cons hg81 (getN_cons hg82 (getN_cons hg83 getN_nil))))⟩) rfl rfl
    ffn)) ?_
  refine lt_call (dt := some 17) rfl rfl (fun ρ hρ => ⟨rfl, opc_of rfl rfl is83 (ma_cons ((hρ 16 (lmem rfl)).trans rfl) rfl)⟩) H (fun _ _ h _ => ⟨rfl, h⟩) fun r84 aw85 H => ?_
  obtain ⟨hg80, H⟩ := H
  obtain ⟨hg81, H⟩ := H
  obtain ⟨hg82, H⟩ := H
  obtain ⟨hg83, H⟩ := H
  obtain ⟨q87, l88, c89, n86, hv90, hn91, H⟩ := H
  refine lt_next (l := [3, 2]) (hv := [(2, Value.int .i64 n86)]) rfl rfl (pv_cons rfl (pv_nil _))
    (ffc (d := 19) (v := .agg #[.int .u8 c76, .string c77, .int .i64 c78, c79]) (hd_v rfl fun ρ hρ => ⟨rfl, ov_ldN rfl underlying44 rfl sz44 rfl ((hρ 4 (lmem rfl)).trans h4) hp75 (getN_cons hg80 (getN_cons hg81 (getN_cons hg82 (getN_cons hg83 getN_nil))))⟩) rfl rfl
    (ffc (d := 18) (v := .int .i64 n86) (hd_v rfl fun ρ hρ => ⟨rfl, ov_len rfl rfl rfl underlying30 ((hρ 17 (lmem rfl)).trans rfl) hv90 hn91⟩) rfl rfl
    ffn)) ?_
  refine lt_call (dt := some 20) rfl rfl (fun ρ hρ => ⟨rfl, opc_of rfl rfl is16 (ma_cons ((hρ 19 (lmem rfl)).trans rfl) rfl)⟩) H (fun _ _ h _ => ⟨rfl, h⟩) fun r92 aw93 H => ?_
  obtain ⟨q95, l96, c97, n94, hv98, hn99, H⟩ := H
  refine lt_next (l := [2, 5, 6]) (hv := [(5, Value.int .i64 n94), (6, Value.bool (decide (n86 < n94)))]) rfl rfl (pv_cons rfl (pv_cons rfl (pv_nil _)))
    (ffc (d := 18) (v := .int .i64 n86) (hd_v rfl fun ρ hρ => ⟨rfl, ov_len rfl rfl rfl underlying30 ((hρ 17 (lmem rfl)).trans rfl) hv90 hn91⟩) rfl rfl
    (ffc (d := 21) (v := .int .i64 n94) (hd_v rfl fun ρ hρ => ⟨rfl, ov_len rfl rfl rfl underlying30 ((hρ 20 (lmem rfl)).trans rfl) hv98 hn99⟩) rfl rfl
    (ffc (d := 22) (v := .bool (decide (n86 < n94))) (hd_v rfl fun ρ hρ => ⟨rfl, opv_lt rfl rfl rfl ((hρ 18 (lmem rfl)).trans rfl) ((hρ 21 (lmem rfl)).trans rfl)⟩) rfl rfl
    ffn))) ?_
  refine lt_end ?_
  refine ago_condE  E71_13 rfl rfl (fun hb100 => ?_) (fun hb100 => ?_)
  · replace H := cnd_t H hb100
    refine ago_regE E71_14 (l := [0, 1, 2]) rfl ?_
    refine lk (dt := some 23) R71_6_N rfl rfl rfl (opv_move rfl rfl h0) ?_
    refine lk (dt := some 24) R71_6_N rfl rfl rfl (opv_move rfl rfl h3) ?_
    refine lk_call (dt := some 25) R71_6_N rfl rfl rfl (opc_of rfl rfl is23 (ma_cons rfl (ma_cons rfl (ma_cons rfl rfl)))) H (fun _ _ h => ⟨rfl, h⟩) fun r101 aw102 H => ?_
    refine aops_nil ?_
    exact S71_1_ok Q E  _ p30 p47 aw102 h2 h4 H
  replace H := cnd_f H hb100
  refine ago_skipE E71_15 ?_
  exact S71_1_ok Q E  _ p30 p47 aw93 h2 h4 H
theorem F71_ok {Q : (Int × ByteArray × Int × Value) → AW → Prop} {E : List PanicEntry → AW → Prop} (r_0 : Value) (aw : AW) (H : S71_0 Q E r_0 aw) : CallP prog 71 [r_0] aw sh71 Q E :=
  callP_of func71 C71_is rfl (Nat.le_of_ble_eq_true rfl) (S71_0_ok Q E _ r_0 aw rfl H)
def C6_0 : Code := bodyOf f6
theorem C6_is : f6.body = some C6_0 := by kernel_rfl
def C6_1 : Code := cl C6_0
def R6_0 : Array Oper := regOps C6_1
def C6_2 : Code := cr C6_0
def C6_3 : Code := cl C6_2
def C6_4 : Code := cl C6_3
def R6_1 : Array Oper := regOps C6_4
def C6_5 : Code := cr C6_3
def C6_6 : Code := cl C6_5
def C6_7 : Code := cl C6_6
def R6_2 : Array Oper := regOps C6_7
def C6_8 : Code := cr C6_6
def C6_9 : Code := cr C6_5
def C6_10 : Code := cr C6_2
def C6_11 : Code := cl C6_10
def R6_3 : Array Oper := regOps C6_11
def C6_12 : Code := cr C6_10
def C6_13 : Code := cl C6_12
def R6_4 : Array Oper := regOps C6_13
def C6_14 : Code := cr C6_12
def C6_15 : Code := cl C6_14
def R6_5 : Array Oper := regOps C6_15
def C6_16 : Code := cr C6_14
def C6_17 : Code := cl C6_16
def C6_18 : Code := cl C6_17
def R6_6 : Array Oper := regOps C6_18
def C6_19 : Code := cr C6_17
def C6_20 : Code := cl C6_19
def C6_21 : Code := cl C6_20
def C6_22 : Code := cl C6_21
def C6_23 : Code := cl C6_22
def R6_7 : Array Oper := regOps C6_23
def C6_24 : Code := cr C6_22
def C6_25 : Code := cl C6_24
def C6_26 : Code := cr C6_24
def C6_27 : Code := cr C6_21
def C6_28 : Code := cl C6_27
def C6_29 : Code := cl C6_28
def C6_30 : Code := cl C6_29
def R6_9 : Array Oper := regOps C6_30
def C6_31 : Code := cr C6_29
def C6_32 : Code := cl C6_31
def C6_33 : Code := cl C6_32
def R6_10 : Array Oper := regOps C6_33
def C6_34 : Code := cr C6_32
def C6_35 : Code := cl C6_34
def C6_36 : Code := cl C6_35
def C6_37 : Code := cl C6_36
def C6_38 : Code := cl C6_37
def R6_11 : Array Oper := regOps C6_38
def C6_39 : Code := cr C6_37
def C6_40 : Code := cl C6_39
def C6_41 : Code := cr C6_39
def C6_42 : Code := cr C6_36
def C6_43 : Code := cl C6_42
def C6_44 : Code := cl C6_43
def R6_13 : Array Oper := regOps C6_44
def C6_45 : Code := cr C6_42
def R6_12 : Array Oper := regOps C6_45
def C6_46 : Code := cr C6_31
def C6_47 : Code := cl C6_46
def R6_14 : Array Oper := regOps C6_47
def C6_48 : Code := cr C6_46
def C6_49 : Code := cl C6_48
def C6_50 : Code := cl C6_49
def R6_15 : Array Oper := regOps C6_50
def C6_51 : Code := cr C6_49
def C6_52 : Code := cl C6_51
def R6_16 : Array Oper := regOps C6_52
def C6_53 : Code := cr C6_51
def C6_54 : Code := cr C6_48
def R6_17 : Array Oper := regOps C6_54
def C6_55 : Code := cr C6_27
def R6_8 : Array Oper := regOps C6_55
def C6_56 : Code := cr C6_16
def C6_57 : Code := cl C6_56
def R6_18 : Array Oper := regOps C6_57
def C6_58 : Code := cr C6_56
def C6_59 : Code := cl C6_58
def C6_60 : Code := cl C6_59
def R6_19 : Array Oper := regOps C6_60
def C6_61 : Code := cr C6_59
def C6_62 : Code := cl C6_61
def C6_63 : Code := cl C6_62
def R6_20 : Array Oper := regOps C6_63
def C6_64 : Code := cr C6_62
def C6_65 : Code := cr C6_61
def C6_66 : Code := cr C6_58
def C6_67 : Code := cl C6_66
def C6_68 : Code := cl C6_67
def R6_21 : Array Oper := regOps C6_68
def C6_69 : Code := cr C6_67
def C6_70 : Code := cl C6_69
def C6_71 : Code := cl C6_70
def R6_22 : Array Oper := regOps C6_71
def C6_72 : Code := cr C6_70
def C6_73 : Code := cr C6_69
def C6_74 : Code := cr C6_66
def C6_75 : Code := cl C6_74
def R6_23 : Array Oper := regOps C6_75
def C6_76 : Code := cr C6_74
def C6_77 : Code := cl C6_76
def C6_78 : Code := cl C6_77
def R6_24 : Array Oper := regOps C6_78
def C6_79 : Code := cr C6_77
def C6_80 : Code := cl C6_79
def C6_81 : Code := cl C6_80
def C6_82 : Code := cl C6_81
def C6_83 : Code := cl C6_82
def R6_25 : Array Oper := regOps C6_83
def C6_84 : Code := cr C6_82
def C6_85 : Code := cl C6_84
def C6_86 : Code := cr C6_84
def C6_87 : Code := cr C6_81
def C6_88 : Code := cl C6_87
def C6_89 : Code := cl C6_88
def C6_90 : Code := cl C6_89
def R6_27 : Array Oper := regOps C6_90
def C6_91 : Code := cr C6_89
def C6_92 : Code := cl C6_91
def C6_93 : Code := cl C6_92
def R6_28 : Array Oper := regOps C6_93
def C6_94 : Code := cr C6_92
def C6_95 : Code := cr C6_91
def C6_96 : Code := cr C6_87
def R6_26 : Array Oper := regOps C6_96
def C6_97 : Code := cr C6_76
def C6_98 : Code := cl C6_97
def R6_29 : Array Oper := regOps C6_98
def C6_99 : Code := cr C6_97
theorem R6_0_N : dstsOk 119 R6_0 = true := by decide +kernel
theorem E6_1 : C6_1 = .region 0 R6_0 false := rfl
theorem R6_1_N : dstsOk 119 R6_1 = true := by decide +kernel
theorem E6_4 : C6_4 = .region 1 R6_1 false := rfl
theorem R6_2_N : dstsOk 119 R6_2 = true := by decide +kernel
theorem E6_7 : C6_7 = .region 2 R6_2 false := rfl
theorem E6_8 : C6_8 = .ret := rfl
theorem E6_6 : C6_6 = .seq C6_7 C6_8 := rfl
theorem E6_9 : C6_9 = .skip := rfl
theorem E6_5 : C6_5 = .cond (.tmp 25) C6_6 C6_9 := rfl
theorem E6_3 : C6_3 = .seq C6_4 C6_5 := rfl
theorem R6_3_N : dstsOk 119 R6_3 = true := by decide +kernel
theorem E6_11 : C6_11 = .region 3 R6_3 false := rfl
theorem R6_4_N : dstsOk 119 R6_4 = true := by decide +kernel
theorem E6_13 : C6_13 = .region 4 R6_4 false := rfl
theorem R6_5_N : dstsOk 119 R6_5 = true := by decide +kernel
theorem E6_15 : C6_15 = .region 5 R6_5 false := rfl
theorem R6_6_N : dstsOk 119 R6_6 = true := by decide +kernel
theorem E6_18 : C6_18 = .region 6 R6_6 false := rfl
theorem R6_7_N : dstsOk 119 R6_7 = true := by decide +kernel
theorem E6_23 : C6_23 = .region 7 R6_7 false := rfl
theorem E6_25 : C6_25 = .skip := rfl
theorem E6_26 : C6_26 = .exit 0 := rfl
theorem E6_24 : C6_24 = .cond (.tmp 30) C6_25 C6_26 := rfl
theorem E6_22 : C6_22 = .seq C6_23 C6_24 := rfl
theorem R6_9_N : dstsOk 119 R6_9 = true := by decide +kernel
theorem E6_30 : C6_30 = .region 9 R6_9 false := rfl
theorem R6_10_N : dstsOk 119 R6_10 = true := by decide +kernel
theorem E6_33 : C6_33 = .region 10 R6_10 false := rfl
theorem R6_11_N : dstsOk 119 R6_11 = true := by decide +kernel
theorem E6_38 : C6_38 = .region 11 R6_11 false := rfl
theorem E6_40 : C6_40 = .skip := rfl
theorem E6_41 : C6_41 = .exit 2 := rfl
theorem E6_39 : C6_39 = .cond (.tmp 44) C6_40 C6_41 := rfl
theorem E6_37 : C6_37 = .seq C6_38 C6_39 := rfl
theorem R6_13_N : dstsOk 119 R6_13 = true := by decide +kernel
theorem E6_44 : C6_44 = .region 13 R6_13 false := rfl
theorem E6_43 : C6_43 = .block 3 C6_44 := rfl
theorem R6_12_N : dstsOk 119 R6_12 = true := by decide +kernel
theorem E6_45 : C6_45 = .region 12 R6_12 false := rfl
theorem E6_42 : C6_42 = .seq C6_43 C6_45 := rfl
theorem E6_36 : C6_36 = .seq C6_37 C6_42 := rfl
theorem E6_35 : C6_35 = .loop C6_36 := rfl
theorem E6_34 : C6_34 = .block 2 C6_35 := rfl
theorem E6_32 : C6_32 = .seq C6_33 C6_34 := rfl
theorem R6_14_N : dstsOk 119 R6_14 = true := by decide +kernel
theorem E6_47 : C6_47 = .region 14 R6_14 false := rfl
theorem R6_15_N : dstsOk 119 R6_15 = true := by decide +kernel
theorem E6_50 : C6_50 = .region 15 R6_15 false := rfl
theorem R6_16_N : dstsOk 119 R6_16 = true := by decide +kernel
theorem E6_52 : C6_52 = .region 16 R6_16 false := rfl
theorem E6_53 : C6_53 = .skip := rfl
theorem E6_51 : C6_51 = .cond (.tmp 61) C6_52 C6_53 := rfl
theorem E6_49 : C6_49 = .seq C6_50 C6_51 := rfl
theorem R6_17_N : dstsOk 119 R6_17 = true := by decide +kernel
theorem E6_54 : C6_54 = .region 17 R6_17 false := rfl
theorem E6_48 : C6_48 = .seq C6_49 C6_54 := rfl
theorem E6_46 : C6_46 = .seq C6_47 C6_48 := rfl
theorem E6_31 : C6_31 = .seq C6_32 C6_46 := rfl
theorem E6_29 : C6_29 = .seq C6_30 C6_31 := rfl
theorem E6_28 : C6_28 = .block 1 C6_29 := rfl
theorem R6_8_N : dstsOk 119 R6_8 = true := by decide +kernel
theorem E6_55 : C6_55 = .region 8 R6_8 false := rfl
theorem E6_27 : C6_27 = .seq C6_28 C6_55 := rfl
theorem E6_21 : C6_21 = .seq C6_22 C6_27 := rfl
theorem E6_20 : C6_20 = .loop C6_21 := rfl
theorem E6_19 : C6_19 = .block 0 C6_20 := rfl
theorem E6_17 : C6_17 = .seq C6_18 C6_19 := rfl
theorem R6_18_N : dstsOk 119 R6_18 = true := by decide +kernel
theorem E6_57 : C6_57 = .region 18 R6_18 false := rfl
theorem R6_19_N : dstsOk 119 R6_19 = true := by decide +kernel
theorem E6_60 : C6_60 = .region 19 R6_19 false := rfl
theorem R6_20_N : dstsOk 119 R6_20 = true := by decide +kernel
theorem E6_63 : C6_63 = .region 20 R6_20 false := rfl
theorem E6_64 : C6_64 = .ret := rfl
theorem E6_62 : C6_62 = .seq C6_63 C6_64 := rfl
theorem E6_65 : C6_65 = .skip := rfl
theorem E6_61 : C6_61 = .cond (.tmp 75) C6_62 C6_65 := rfl
theorem E6_59 : C6_59 = .seq C6_60 C6_61 := rfl
theorem R6_21_N : dstsOk 119 R6_21 = true := by decide +kernel
theorem E6_68 : C6_68 = .region 21 R6_21 false := rfl
theorem R6_22_N : dstsOk 119 R6_22 = true := by decide +kernel
theorem E6_71 : C6_71 = .region 22 R6_22 false := rfl
theorem E6_72 : C6_72 = .ret := rfl
theorem E6_70 : C6_70 = .seq C6_71 C6_72 := rfl
theorem E6_73 : C6_73 = .skip := rfl
theorem E6_69 : C6_69 = .cond (.tmp 88) C6_70 C6_73 := rfl
theorem E6_67 : C6_67 = .seq C6_68 C6_69 := rfl
theorem R6_23_N : dstsOk 119 R6_23 = true := by decide +kernel
theorem E6_75 : C6_75 = .region 23 R6_23 false := rfl
theorem R6_24_N : dstsOk 119 R6_24 = true := by decide +kernel
theorem E6_78 : C6_78 = .region 24 R6_24 false := rfl
theorem R6_25_N : dstsOk 119 R6_25 = true := by decide +kernel
theorem E6_83 : C6_83 = .region 25 R6_25 false := rfl
theorem E6_85 : C6_85 = .skip := rfl
theorem E6_86 : C6_86 = .exit 4 := rfl
theorem E6_84 : C6_84 = .cond (.tmp 100) C6_85 C6_86 := rfl
theorem E6_82 : C6_82 = .seq C6_83 C6_84 := rfl
theorem R6_27_N : dstsOk 119 R6_27 = true := by decide +kernel
theorem R6_27_O : linOk R6_27 [0, 1, 2, 3, 4, 5, 6, 7, 8, 9, 10, 11, 12, 13, 14, 15] [] = true := by decide +kernel
theorem E6_90 : C6_90 = .region 27 R6_27 true := rfl
theorem R6_28_N : dstsOk 119 R6_28 = true := by decide +kernel
theorem E6_93 : C6_93 = .region 28 R6_28 false := rfl
theorem E6_94 : C6_94 = .ret := rfl
theorem E6_92 : C6_92 = .seq C6_93 C6_94 := rfl
theorem E6_95 : C6_95 = .skip := rfl
theorem E6_91 : C6_91 = .cond (.tmp 118) C6_92 C6_95 := rfl
theorem E6_89 : C6_89 = .seq C6_90 C6_91 := rfl
theorem E6_88 : C6_88 = .block 5 C6_89 := rfl
theorem R6_26_N : dstsOk 119 R6_26 = true := by decide +kernel
theorem E6_96 : C6_96 = .region 26 R6_26 false := rfl
theorem E6_87 : C6_87 = .seq C6_88 C6_96 := rfl
theorem E6_81 : C6_81 = .seq C6_82 C6_87 := rfl
theorem E6_80 : C6_80 = .loop C6_81 := rfl
theorem E6_79 : C6_79 = .block 4 C6_80 := rfl
theorem E6_77 : C6_77 = .seq C6_78 C6_79 := rfl
theorem R6_29_N : dstsOk 119 R6_29 = true := by decide +kernel
theorem E6_98 : C6_98 = .region 29 R6_29 false := rfl
theorem E6_99 : C6_99 = .ret := rfl
theorem E6_97 : C6_97 = .seq C6_98 C6_99 := rfl
theorem E6_76 : C6_76 = .seq C6_77 C6_97 := rfl
theorem E6_74 : C6_74 = .seq C6_75 C6_76 := rfl
theorem E6_66 : C6_66 = .seq C6_67 C6_74 := rfl
theorem E6_58 : C6_58 = .seq C6_59 C6_66 := rfl
theorem E6_56 : C6_56 = .seq C6_57 C6_58 := rfl
theorem E6_16 : C6_16 = .seq C6_17 C6_56 := rfl
theorem E6_14 : C6_14 = .seq C6_15 C6_16 := rfl
theorem E6_12 : C6_12 = .seq C6_13 C6_14 := rfl
theorem E6_10 : C6_10 = .seq C6_11 C6_12 := rfl
theorem E6_2 : C6_2 = .seq C6_3 C6_10 := rfl
theorem E6_0 : C6_0 = .seq C6_1 C6_2 := rfl
def S6_4 (Q : Bool → AW → Prop) (E : List PanicEntry → AW → Prop) (nx1 : Value → ByteArray → Bool → Value → Int → AW → Prop) (names_0 : Value) (s_3 : ByteArray) (twice_4 : Bool) (want_5 : Value) (i_6 : Int) (n_7 : ByteArray) (aw : AW) : Prop :=
  s_3.size + n_7.size ≤ 2 ^ 62 ∧ nx1 names_0 (s_3 ++ n_7) twice_4 want_5 (IntKind.i64.wrap (i_6 + 1)) aw
def S6_3s (Q : Bool → AW → Prop) (E : List PanicEntry → AW → Prop) (nx1 : Value → ByteArray → Bool → Value → Int → AW → Prop) (nx3 : Value → ByteArray → Bool → Value → Int → ByteArray → Int → AW → Prop) (names_0 : Value) (s_3 : ByteArray) (twice_4 : Bool) (want_5 : Value) (i_6 : Int) (n_7 : ByteArray) (k_8 : Int) (aw : AW) : Prop :=
  slen want_5 fun n2 =>
  cnd (decide (k_8 < n2)) (cnd twice_4 (nx3 names_0 s_3 true want_5 i_6 n_7 (IntKind.i64.wrap (k_8 + 1)) aw) (ixS want_5 k_8 1 fun p10 =>
  ldS aw p10 fun x22 =>
  nx3 names_0 s_3 (decide (x22 = n_7)) want_5 i_6 n_7 (IntKind.i64.wrap (k_8 + 1)) aw)) (alcS aw [.string n_7] 9 1 1 fun p24 aw25 =>
  app aw25 9 1 16 want_5 p24 fun v28 aw29 =>
  cnd (decide (0 < i_6)) (s_3.size + (⟨#[44, 32]⟩ : ByteArray).size ≤ 2 ^ 62 ∧ S6_4 Q E nx1 names_0 (s_3 ++ (⟨#[44, 32]⟩ : ByteArray)) twice_4 v28 i_6 n_7 aw29) (S6_4 Q E nx1 names_0 s_3 twice_4 v28 i_6 n_7 aw29))
def S6_3 (Q : Bool → AW → Prop) (E : List PanicEntry → AW → Prop) (nx1 : Value → ByteArray → Bool → Value → Int → AW → Prop) : Nat → Value → ByteArray → Bool → Value → Int → ByteArray → Int → AW → Prop
  | 0 => fun _ _ _ _ _ _ _ _ => False
  | n + 1 => S6_3s Q E nx1 (S6_3 Q E nx1 n)
def S6_2s (Q : Bool → AW → Prop) (E : List PanicEntry → AW → Prop)  (nx2 : Value → Value → Int → AW → Prop) (want_5 : Value) (got_12 : Value) (i_13 : Int) (aw : AW) : Prop :=
  slen want_5 fun n33 =>
  cnd (decide (i_13 < n33)) (slen got_12 fun n40 =>
  slen want_5 fun n46 =>
  cnd (!decide (n40 = n46)) (Q false aw) (ixS got_12 i_13 1 fun p54 =>
  ldS aw p54 fun x66 =>
  ixS want_5 i_13 1 fun p68 =>
  ldS aw p68 fun x80 =>
  cnd (!decide (x66 = x80)) (Q false aw) (nx2 want_5 got_12 (IntKind.i64.wrap (i_13 + 1)) aw))) (Q true aw)
def S6_2 (Q : Bool → AW → Prop) (E : List PanicEntry → AW → Prop)  : Nat → Value → Value → Int → AW → Prop
  | 0 => fun _ _ _ _ => False
  | n + 1 => S6_2s Q E  (S6_2 Q E  n)
def S6_1s (Q : Bool → AW → Prop) (E : List PanicEntry → AW → Prop)  (nx1 : Value → ByteArray → Bool → Value → Int → AW → Prop) (names_0 : Value) (s_3 : ByteArray) (twice_4 : Bool) (want_5 : Value) (i_6 : Int) (aw : AW) : Prop :=
  slen names_0 fun n83 =>
  cnd (decide (i_6 < n83)) (ixS names_0 i_6 1 fun p90 =>
  ldI .u8 aw p90 fun x102 =>
  alcS aw [.int .u8 (IntKind.u8.wrap (97 + (Int.tmod x102 26)))] 5 1 1 fun p104 aw105 =>
  toS aw105 p104 fun s108 =>
  ∃ n, S6_3 Q E nx1 n names_0 s_3 twice_4 want_5 i_6 s108 0 aw105) ((⟨#[109, 97, 116, 99, 104, 32, 121, 32, 119, 105, 116, 104, 32, 40]⟩ : ByteArray).size + s_3.size ≤ 2 ^ 62 ∧ ((⟨#[109, 97, 116, 99, 104, 32, 121, 32, 119, 105, 116, 104, 32, 40]⟩ : ByteArray) ++ s_3).size + (⟨#[41, 32, 45, 62, 32, 49]⟩ : ByteArray).size ≤ 2 ^ 62 ∧ CallP prog 11 [.string (((⟨#[109, 97, 116, 99, 104, 32, 121, 32, 119, 105, 116, 104, 32, 40]⟩ : ByteArray) ++ s_3) ++ (⟨#[41, 32, 45, 62, 32, 49]⟩ : ByteArray))] aw sh11 (fun r117 aw118 =>
  cnd twice_4 (cnd (decide (r117.2.2 = 7)) (Q (decide (r117.2.1 = 13)) aw118) (Q false aw118)) (cnd (!decide (r117.2.2 = 0)) (Q false aw118) (slen r117.1 fun n123 =>
  cnd (!decide (n123 = 1)) (Q false aw118) (ixS r117.1 0 11 fun p130 =>
  fldA p130 3 fun p139 =>
  fldA p139 4 fun p144 =>
  ldV aw118 p144 fun x152 =>
  ixS x152 0 4 fun p154 =>
  ptr p154 fun b163 i164 =>
  gI .u8 aw118 b163 i164 fun c166 =>
  gS aw118 b163 (i164 + 1) fun c167 =>
  gI .i64 aw118 b163 (i164 + 2) fun c168 =>
  gV aw118 b163 (i164 + 3) fun c169 =>
  CallP prog 16 [.agg #[.int .u8 c166, .string c167, .int .i64 c168, c169]] aw118 sh16 (fun r174 aw175 =>
  ∃ n, S6_2 Q E  n want_5 r174 0 aw175) E)))) E)
def S6_1 (Q : Bool → AW → Prop) (E : List PanicEntry → AW → Prop)  : Nat → Value → ByteArray → Bool → Value → Int → AW → Prop
  | 0 => fun _ _ _ _ _ _ => False
  | n + 1 => S6_1s Q E  (S6_1 Q E  n)
def S6_0 (Q : Bool → AW → Prop) (E : List PanicEntry → AW → Prop)  (names_0 : Value) (aw : AW) : Prop :=
  CallP prog 10 [] aw sh10 (fun r176 aw177 =>
  cnd (!r176) (CallP prog 10 [] aw177 sh10 (fun r180 aw181 =>
  Q r180 aw181) E) (slen names_0 fun n182 =>
  cnd (decide (20 < n182)) (CallP prog 10 [] aw177 sh10 (fun r190 aw191 =>
  Q r190 aw191) E) (slen names_0 fun n192 =>
  cnd (decide (n192 < 2)) (CallP prog 10 [] aw177 sh10 (fun r199 aw200 =>
  Q r199 aw200) E) (∃ n, S6_1 Q E  n names_0 (⟨#[]⟩ : ByteArray) false (.slice none 0 0) 0 aw177)))) E
theorem S6_4_ok (Q : Bool → AW → Prop) (E : List PanicEntry → AW → Prop) (nx1 : Value → ByteArray → Bool → Value → Int → AW → Prop) (L1 : ∀ (ρ : Env) (names_0 : Value) (s_3 : ByteArray) (twice_4 : Bool) (want_5 : Value) (i_6 : Int) (aw : AW) (h0 : ρ 0 = names_0) (h3 : ρ 3 = .string s_3) (h4 : ρ 4 = .bool twice_4) (h5 : ρ 5 = want_5) (h6 : ρ 6 = .int .i64 i_6), nx1 names_0 s_3 twice_4 want_5 i_6 aw → AGo prog 119 [.code C6_21, .inLoop C6_21, .inBlock 0, .code C6_56] ρ [] aw (RR prog f6 119 sh6 Q E)) (ρ : Env) (names_0 : Value) (s_3 : ByteArray) (twice_4 : Bool) (want_5 : Value) (i_6 : Int) (n_7 : ByteArray) (aw : AW) (h0 : ρ 0 = names_0) (h3 : ρ 3 = .string s_3) (h4 : ρ 4 = .bool twice_4) (h5 : ρ 5 = want_5) (h6 : ρ 6 = .int .i64 i_6) (h7 : ρ 7 = .string n_7) (H : S6_4 Q E nx1 names_0 s_3 twice_4 want_5 i_6 n_7 aw) :
    AGo prog 119 [.code C6_54, .inBlock 1, .code C6_55, .inLoop C6_21, .inBlock 0, .code C6_56] ρ [] aw (RR prog f6 119 sh6 Q E) := by
  unfold S6_4 at H
  refine ago_regE E6_54 (l := [0, 1, 2, 3]) rfl ?_
  refine lk (dt := some 64) R6_17_N rfl rfl rfl (opv_move rfl rfl h3) ?_
  refine lk (dt := some 65) R6_17_N rfl rfl rfl (opv_move rfl rfl h7) ?_
  obtain ⟨hz1, H⟩ := H
  refine lk (dt := some 66) R6_17_N rfl rfl rfl (opv_cat rfl rfl rfl rfl rfl hz1) ?_
  refine lk (dt := some 3) R6_17_N rfl rfl rfl (opv_assign rfl rfl rfl) ?_
  refine aops_nil ?_
  refine ago_inBlock ?_
  refine ago_regE E6_55 (l := [0, 1, 2]) rfl ?_
  refine lk (dt := some 31) R6_8_N rfl rfl rfl (opv_move rfl rfl h6) ?_
  refine lk (dt := some 32) R6_8_N rfl rfl rfl (opv_add rfl rfl rfl rfl rfl) ?_
  refine lk (dt := some 6) R6_8_N rfl rfl rfl (opv_assign rfl rfl rfl) ?_
  refine aops_nil ?_
  refine ago_inLoop ?_
  exact L1 _ names_0 (s_3 ++ n_7) twice_4 want_5 (IntKind.i64.wrap (i_6 + 1)) aw h0 rfl h4 h5 rfl H
theorem S6_3s_ok (Q : Bool → AW → Prop) (E : List PanicEntry → AW → Prop) (nx1 : Value → ByteArray → Bool → Value → Int → AW → Prop) (L1 : ∀ (ρ : Env) (names_0 : Value) (s_3 : ByteArray) (twice_4 : Bool) (want_5 : Value) (i_6 : Int) (aw : AW) (h0 : ρ 0 = names_0) (h3 : ρ 3 = .string s_3) (h4 : ρ 4 = .bool twice_4) (h5 : ρ 5 = want_5) (h6 : ρ 6 = .int .i64 i_6), nx1 names_0 s_3 twice_4 want_5 i_6 aw → AGo prog 119 [.code C6_21, .inLoop C6_21, .inBlock 0, .code C6_56] ρ [] aw (RR prog f6 119 sh6 Q E)) (nx3 : Value → ByteArray → Bool → Value → Int → ByteArray → Int → AW → Prop) (L3 : ∀ (ρ : Env) (names_0 : Value) (s_3 : ByteArray) (twice_4 : Bool) (want_5 : Value) (i_6 : Int) (n_7 : ByteArray) (k_8 : Int) (aw : AW) (h0 : ρ 0 = names_0) (h3 : ρ 3 = .string s_3) (h4 : ρ 4 = .bool twice_4) (h5 : ρ 5 = want_5) (h6 : ρ 6 = .int .i64 i_6) (h7 : ρ 7 = .string n_7) (h8 : ρ 8 = .int .i64 k_8), nx3 names_0 s_3 twice_4 want_5 i_6 n_7 k_8 aw → AGo prog 119 [.code C6_36, .inLoop C6_36, .inBlock 2, .code C6_46, .inBlock 1, .code C6_55, .inLoop C6_21, .inBlock 0, .code C6_56] ρ [] aw (RR prog f6 119 sh6 Q E)) (ρ : Env) (names_0 : Value) (s_3 : ByteArray) (twice_4 : Bool) (want_5 : Value) (i_6 : Int) (n_7 : ByteArray) (k_8 : Int) (aw : AW) (h0 : ρ 0 = names_0) (h3 : ρ 3 = .string s_3) (h4 : ρ 4 = .bool twice_4) (h5 : ρ 5 = want_5) (h6 : ρ 6 = .int .i64 i_6) (h7 : ρ 7 = .string n_7) (h8 : ρ 8 = .int .i64 k_8) (H : S6_3s Q E nx1 nx3 names_0 s_3 twice_4 want_5 i_6 n_7 k_8 aw) :
    AGo prog 119 [.code C6_36, .inLoop C6_36, .inBlock 2, .code C6_46, .inBlock 1, .code C6_55, .inLoop C6_21, .inBlock 0, .code C6_56] ρ [] aw (RR prog f6 119 sh6 Q E) := by
  unfold S6_3s at H
  refine ago_seqE E6_36 ?_
  refine ago_seqE E6_37 ?_
  refine ago_regE E6_38 (l := [0, 1, 2, 3]) rfl ?_
  refine lk (dt := some 41) R6_11_N rfl rfl rfl (opv_move rfl rfl h8) ?_
  refine lk (dt := some 42) R6_11_N rfl rfl rfl (opv_move rfl rfl h5) ?_
  obtain ⟨q3, l4, c5, n2, hv6, hn7, H⟩ := H
  refine lk (dt := some 43) R6_11_N rfl rfl rfl (ov_len rfl rfl rfl underlying30 rfl hv6 hn7) ?_
  refine lk (dt := some 44) R6_11_N rfl rfl rfl (opv_lt rfl rfl rfl rfl rfl) ?_
  refine aops_nil ?_
  refine ago_condE  E6_39 rfl rfl (fun hb8 => ?_) (fun hb8 => ?_)
  · replace H := cnd_t H hb8
    refine ago_skipE E6_40 ?_
    refine ago_seqE E6_42 ?_
    refine ago_blockE E6_43 ?_
    refine ago_regE E6_44 (l := [0, 1, 2, 3, 4, 5, 6, 7, 8, 9]) rfl ?_
    refine lk (dt := some 47) R6_13_N rfl rfl rfl (opv_move rfl rfl h4) ?_
    refine lk (dt := some 48) R6_13_N rfl rfl rfl (opv_move rfl rfl rfl) ?_
    rcases Bool.eq_false_or_eq_true twice_4 with hb9 | hb9
    · replace H := cnd_t H hb9
      refine lk_skip (dt := some 49) R6_13_N rfl rfl ⟨_, rfl, .inl ⟨_, rfl, gq hb9 rfl⟩⟩ ?_
      refine lk_skip (dt := some 50) R6_13_N rfl rfl ⟨_, rfl, .inl ⟨_, rfl, gq hb9 rfl⟩⟩ ?_
      refine lk_skip (dt := some 51) R6_13_N rfl rfl ⟨_, rfl, .inl ⟨_, rfl, gq hb9 rfl⟩⟩ ?_
      refine lk_skip (dt := some 52) R6_13_N rfl rfl ⟨_, rfl, .inl ⟨_, rfl, gq hb9 rfl⟩⟩ ?_
      refine lk_skip (dt := some 53) R6_13_N rfl rfl ⟨_, rfl, .inl ⟨_, rfl, gq hb9 rfl⟩⟩ ?_
      refine lk_skip (dt := some 54) R6_13_N rfl rfl ⟨_, rfl, .inl ⟨_, rfl, gq hb9 rfl⟩⟩ ?_
      refine lk (dt := some 55) R6_13_N rfl rfl rfl (ov_pickT rfl rfl rfl rfl rfl hb9 rfl) ?_
      refine lk (dt := some 4) R6_13_N rfl rfl rfl (opv_assign rfl rfl rfl) ?_
      refine aops_nil ?_
      refine ago_inBlock ?_
      refine ago_cut (fun ρ => ρ 0 = names_0 ∧ ρ 3 = .string s_3 ∧ ρ 4 = .bool true ∧ ρ 5 = want_5 ∧ ρ 6 = .int .i64 i_6 ∧ ρ 7 = .string n_7 ∧ ρ 8 = .int .i64 k_8 ∧ True) ⟨h0, h3, rfl, h5, h6, h7, h8, trivial⟩ (fun ρ ⟨h0, h3, h4, h5, h6, h7, h8, _⟩ => ?_)
      refine ago_regE E6_45 (l := [0, 1, 2]) rfl ?_
      refine lk (dt := some 45) R6_12_N rfl rfl rfl (opv_move rfl rfl h8) ?_
      refine lk (dt := some 46) R6_12_N rfl rfl rfl (opv_add rfl rfl rfl rfl rfl) ?_
      refine lk (dt := some 8) R6_12_N rfl rfl rfl (opv_assign rfl rfl rfl) ?_
      refine aops_nil ?_
      refine ago_inLoop ?_
      exact L3 _ names_0 s_3 true want_5 i_6 n_7 (IntKind.i64.wrap (k_8 + 1)) aw h0 h3 h4 h5 h6 h7 rfl H
    · replace H := cnd_f H hb9
      refine lk (dt := some 49) R6_13_N rfl rfl ⟨_, rfl, .inl ⟨_, rfl, gq hb9 rfl⟩⟩ (opv_move rfl rfl h5) ?_
      refine lk (dt := some 50) R6_13_N rfl rfl ⟨_, rfl, .inl ⟨_, rfl, gq hb9 rfl⟩⟩ (opv_move rfl rfl h8) ?_
      obtain ⟨b11, i12, l13, c14, p10, hp15, h016, hj17, hv18, H⟩ := H
      refine lk (dt := some 51) R6_13_N rfl rfl ⟨_, rfl, .inl ⟨_, rfl, gq hb9 rfl⟩⟩ (ov_ixS rfl rfl rfl underlying30 sz9 rfl rfl hp15 h016 hj17 hv18) ?_
      obtain ⟨b19, i20, x22, hp21, hg23, H⟩ := H
      refine lk (dt := some 52) R6_13_N rfl rfl ⟨_, rfl, .inl ⟨_, rfl, gq hb9 rfl⟩⟩ (ov_ldS rfl underlying9 rfl rfl hp21 hg23) ?_
      refine lk (dt := some 53) R6_13_N rfl rfl ⟨_, rfl, .inl ⟨_, rfl, gq hb9 rfl⟩⟩ (opv_move rfl rfl h7) ?_
      refine lk (dt := some 54) R6_13_N rfl rfl ⟨_, rfl, .inl ⟨_, rfl, gq hb9 rfl⟩⟩ (opv_eqS rfl rfl rfl rfl rfl) ?_
      refine lk (dt := some 55) R6_13_N rfl rfl rfl (ov_pickF rfl rfl rfl rfl rfl hb9 rfl) ?_
      refine lk (dt := some 4) R6_13_N rfl rfl rfl (opv_assign rfl rfl rfl) ?_
      refine aops_nil ?_
      refine ago_inBlock ?_
      refine ago_cut (fun ρ => ρ 0 = names_0 ∧ ρ 3 = .string s_3 ∧ ρ 4 = .bool (decide (x22 = n_7)) ∧ ρ 5 = want_5 ∧ ρ 6 = .int .i64 i_6 ∧ ρ 7 = .string n_7 ∧ ρ 8 = .int .i64 k_8 ∧ True) ⟨h0, h3, rfl, h5, h6, h7, h8, trivial⟩ (fun ρ ⟨h0, h3, h4, h5, h6, h7, h8, _⟩ => ?_)
      refine ago_regE E6_45 (l := [0, 1, 2]) rfl ?_
      refine lk (dt := some 45) R6_12_N rfl rfl rfl (opv_move rfl rfl h8) ?_
      refine lk (dt := some 46) R6_12_N rfl rfl rfl (opv_add rfl rfl rfl rfl rfl) ?_
      refine lk (dt := some 8) R6_12_N rfl rfl rfl (opv_assign rfl rfl rfl) ?_
      refine aops_nil ?_
      refine ago_inLoop ?_
      exact L3 _ names_0 s_3 (decide (x22 = n_7)) want_5 i_6 n_7 (IntKind.i64.wrap (k_8 + 1)) aw h0 h3 h4 h5 h6 h7 rfl H
  replace H := cnd_f H hb8
  refine ago_exitE E6_41 rfl ?_
  refine ago_seqE E6_46 ?_
  refine ago_regE E6_47 (l := [0, 1, 2, 3, 4]) rfl ?_
  refine lk (dt := some 56) R6_14_N rfl rfl rfl (opv_move rfl rfl h5) ?_
  refine lk (dt := some 57) R6_14_N rfl rfl rfl (opv_move rfl rfl h7) ?_
  obtain ⟨p24, aw25, hp26, ha27, H⟩ := H
  refine lk (dt := some 58) R6_14_N rfl rfl rfl (ov_bsA (r := [.string n_7]) (vs := [.string n_7]) rfl rfl underlying30 sz9 z9 rfl rfl rfl rfl rfl (mp_cons rfl rfl) (.one rfl .nil) hp26 ha27) ?_
  obtain ⟨v28, aw29, hq30, H⟩ := H
  refine lk (dt := some 59) R6_14_N rfl rfl rfl (ov_app rfl rfl rfl rfl underlying30 sz9 by9 underlying30 rfl z9 rfl (by decide) (by decide) rfl rfl hq30) ?_
  refine lk (dt := some 5) R6_14_N rfl rfl rfl (opv_assign rfl rfl rfl) ?_
  refine aops_nil ?_
  refine ago_seqE E6_48 ?_
  refine ago_seqE E6_49 ?_
  refine ago_regE E6_50 (l := [0, 1]) rfl ?_
  refine lk (dt := some 60) R6_15_N rfl rfl rfl (opv_move rfl rfl h6) ?_
  refine lk (dt := some 61) R6_15_N rfl rfl rfl (opv_gt rfl rfl rfl rfl rfl) ?_
  refine aops_nil ?_
  refine ago_condE  E6_51 rfl rfl (fun hb31 => ?_) (fun hb31 => ?_)
  · replace H := cnd_t H hb31
    refine ago_regE E6_52 (l := [0, 1, 2]) rfl ?_
    refine lk (dt := some 62) R6_16_N rfl rfl rfl (opv_move rfl rfl h3) ?_
    obtain ⟨hz32, H⟩ := H
    refine lk (dt := some 63) R6_16_N rfl rfl rfl (opv_cat rfl rfl rfl rfl rfl hz32) ?_
    refine lk (dt := some 3) R6_16_N rfl rfl rfl (opv_assign rfl rfl rfl) ?_
    refine aops_nil ?_
    exact S6_4_ok Q E nx1 L1 _ names_0 (s_3 ++ (⟨#[44, 32]⟩ : ByteArray)) twice_4 v28 i_6 n_7 aw29 h0 rfl h4 rfl h6 h7 H
  replace H := cnd_f H hb31
  refine ago_skipE E6_53 ?_
  exact S6_4_ok Q E nx1 L1 _ names_0 s_3 twice_4 v28 i_6 n_7 aw29 h0 h3 h4 rfl h6 h7 H
theorem S6_3_ok (Q : Bool → AW → Prop) (E : List PanicEntry → AW → Prop) (nx1 : Value → ByteArray → Bool → Value → Int → AW → Prop) (L1 : ∀ (ρ : Env) (names_0 : Value) (s_3 : ByteArray) (twice_4 : Bool) (want_5 : Value) (i_6 : Int) (aw : AW) (h0 : ρ 0 = names_0) (h3 : ρ 3 = .string s_3) (h4 : ρ 4 = .bool twice_4) (h5 : ρ 5 = want_5) (h6 : ρ 6 = .int .i64 i_6), nx1 names_0 s_3 twice_4 want_5 i_6 aw → AGo prog 119 [.code C6_21, .inLoop C6_21, .inBlock 0, .code C6_56] ρ [] aw (RR prog f6 119 sh6 Q E)) : ∀ (n : Nat) (ρ : Env) (names_0 : Value) (s_3 : ByteArray) (twice_4 : Bool) (want_5 : Value) (i_6 : Int) (n_7 : ByteArray) (k_8 : Int) (aw : AW) (h0 : ρ 0 = names_0) (h3 : ρ 3 = .string s_3) (h4 : ρ 4 = .bool twice_4) (h5 : ρ 5 = want_5) (h6 : ρ 6 = .int .i64 i_6) (h7 : ρ 7 = .string n_7) (h8 : ρ 8 = .int .i64 k_8), S6_3 Q E nx1 n names_0 s_3 twice_4 want_5 i_6 n_7 k_8 aw →
    AGo prog 119 [.code C6_36, .inLoop C6_36, .inBlock 2, .code C6_46, .inBlock 1, .code C6_55, .inLoop C6_21, .inBlock 0, .code C6_56] ρ [] aw (RR prog f6 119 sh6 Q E)
  | 0, _, _, _, _, _, _, _, _, _, _, _, _, _, _, _, _ => fun H => H.elim
  | n + 1, ρ, names_0, s_3, twice_4, want_5, i_6, n_7, k_8, aw, h0, h3, h4, h5, h6, h7, h8 => fun H => S6_3s_ok Q E nx1 L1 _ (S6_3_ok Q E nx1 L1 n) ρ names_0 s_3 twice_4 want_5 i_6 n_7 k_8 aw h0 h3 h4 h5 h6 h7 h8 H
theorem S6_2s_ok (Q : Bool → AW → Prop) (E : List PanicEntry → AW → Prop)  (nx2 : Value → Value → Int → AW → Prop) (L2 : ∀ (ρ : Env) (want_5 : Value) (got_12 : Value) (i_13 : Int) (aw : AW) (h5 : ρ 5 = want_5) (h12 : ρ 12 = got_12) (h13 : ρ 13 = .int .i64 i_13), nx2 want_5 got_12 i_13 aw → AGo prog 119 [.code C6_81, .inLoop C6_81, .inBlock 4, .code C6_97] ρ [] aw (RR prog f6 119 sh6 Q E)) (ρ : Env) (want_5 : Value) (got_12 : Value) (i_13 : Int) (aw : AW) (h5 : ρ 5 = want_5) (h12 : ρ 12 = got_12) (h13 : ρ 13 = .int .i64 i_13) (H : S6_2s Q E  nx2 want_5 got_12 i_13 aw) :
    AGo prog 119 [.code C6_81, .inLoop C6_81, .inBlock 4, .code C6_97] ρ [] aw (RR prog f6 119 sh6 Q E) := by
  unfold S6_2s at H
  refine ago_seqE E6_81 ?_
  refine ago_seqE E6_82 ?_
  refine ago_regE E6_83 (l := [0, 1, 2, 3]) rfl ?_
  refine lk (dt := some 97) R6_25_N rfl rfl rfl (opv_move rfl rfl h13) ?_
  refine lk (dt := some 98) R6_25_N rfl rfl rfl (opv_move rfl rfl h5) ?_
  obtain ⟨q34, l35, c36, n33, hv37, hn38, H⟩ := H
  refine lk (dt := some 99) R6_25_N rfl rfl rfl (ov_len rfl rfl rfl underlying30 rfl hv37 hn38) ?_
  refine lk (dt := some 100) R6_25_N rfl rfl rfl (opv_lt rfl rfl rfl rfl rfl) ?_
  refine aops_nil ?_
  refine ago_condE  E6_84 rfl rfl (fun hb39 => ?_) (fun hb39 => ?_)
  · replace H := cnd_t H hb39
    refine ago_skipE E6_85 ?_
    refine ago_seqE E6_87 ?_
    refine ago_blockE E6_88 ?_
    refine ago_seqE E6_89 ?_
    obtain ⟨q41, l42, c43, n40, hv44, hn45, H⟩ := H
    obtain ⟨q47, l48, c49, n46, hv50, hn51, H⟩ := H
    rcases Bool.eq_false_or_eq_true (!decide (n40 = n46)) with hb52 | hb52
    · replace H := cnd_t H hb52
      refine ago_drawH (p := [0, 1, 2, 3, 4, 5, 6, 7, 8, 9, 10, 11, 12, 13, 14, 15]) (tl := []) (hv := [(0, got_12), (1, Value.int .i64 n40), (2, want_5), (3, Value.int .i64 n46), (4, Value.bool (!decide (n40 = n46))), (5, Value.bool (!decide (n40 = n46))), (6, undef), (7, undef), (8, undef), (9, undef), (10, undef), (11, undef), (12, undef), (13, undef), (14, undef), (15, Value.bool true)]) E6_90 mixed R6_27_N R6_27_O rfl (pv_cons rfl (pv_cons rfl (pv_cons rfl (pv_cons rfl (pv_cons rfl (pv_cons rfl (pv_cons rfl (pv_cons rfl (pv_cons rfl (pv_cons rfl (pv_cons rfl (pv_cons rfl (pv_cons rfl (pv_cons rfl (pv_cons rfl (pv_cons rfl (pv_nil _)))))))))))))))))
        (ffc (d := 103) (v := got_12) (hd_v rfl fun ρ hρ => ⟨rfl, opv_move rfl rfl ((hρ 12 (lmem rfl)).trans h12)⟩) rfl rfl
        (ffc (d := 104) (v := .int .i64 n40) (hd_v rfl fun ρ hρ => ⟨rfl, ov_len rfl rfl rfl underlying30 ((hρ 103 (lmem rfl)).trans rfl) hv44 hn45⟩) rfl rfl
        (ffc (d := 105) (v := want_5) (hd_v rfl fun ρ hρ => ⟨rfl, opv_move rfl rfl ((hρ 5 (lmem rfl)).trans h5)⟩) rfl rfl
        (ffc (d := 106) (v := .int .i64 n46) (hd_v rfl fun ρ hρ => ⟨rfl, ov_len rfl rfl rfl underlying30 ((hρ 105 (lmem rfl)).trans rfl) hv50 hn51⟩) rfl rfl
        (ffc (d := 107) (v := .bool (!decide (n40 = n46))) (hd_v rfl fun ρ hρ => ⟨rfl, opv_neI rfl rfl rfl ((hρ 104 (lmem rfl)).trans rfl) ((hρ 106 (lmem rfl)).trans rfl)⟩) rfl rfl
        (ffc (d := 108) (v := .bool (!decide (n40 = n46))) (hd_v rfl fun ρ hρ => ⟨rfl, opv_move rfl rfl ((hρ 107 (lmem rfl)).trans rfl)⟩) rfl rfl
        (ffc (d := 109) (v := undef) (hd_s rfl (fun ρ hρ => ⟨_, rfl, .inl ⟨_, ((hρ 108 (lmem rfl)).trans rfl), gq hb52 rfl⟩⟩) rfl) rfl rfl
        (ffc (d := 110) (v := undef) (hd_s rfl (fun ρ hρ => ⟨_, rfl, .inl ⟨_, ((hρ 108 (lmem rfl)).trans rfl), gq hb52 rfl⟩⟩) rfl) rfl rfl
        (ffc (d := 111) (v := undef) (hd_s rfl (fun ρ hρ => ⟨_, rfl, .inl ⟨_, ((hρ 108 (lmem rfl)).trans rfl), gq hb52 rfl⟩⟩) rfl) rfl rfl
        (ffc (d := 112) (v := undef) (hd_s rfl (fun ρ hρ => ⟨_, rfl, .inl ⟨_, ((hρ 108 (lmem rfl)).trans rfl), gq hb52 rfl⟩⟩) rfl) rfl rfl
        (ffc (d := 113) (v := undef) (hd_s rfl (fun ρ hρ => ⟨_, rfl, .inl ⟨_, ((hρ 108 (lmem rfl)).trans rfl), gq hb52 rfl⟩⟩) rfl) rfl rfl
        (ffc (d := 114) (v := undef) (hd_s rfl (fun ρ hρ => ⟨_, rfl, .inl ⟨_, ((hρ 108 (lmem rfl)).trans rfl), gq hb52 rfl⟩⟩) rfl) rfl rfl
        (ffc (d := 115) (v := undef) (hd_s rfl (fun ρ hρ => ⟨_, rfl, .inl ⟨_, ((hρ 108 (lmem rfl)).trans rfl), gq hb52 rfl⟩⟩) rfl) rfl rfl
        (ffc (d := 116) (v := undef) (hd_s rfl (fun ρ hρ => ⟨_, rfl, .inl ⟨_, ((hρ 108 (lmem rfl)).trans rfl), gq hb52 rfl⟩⟩) rfl) rfl rfl
        (ffc (d := 117) (v := undef) (hd_s rfl (fun ρ hρ => ⟨_, rfl, .inl ⟨_, ((hρ 108 (lmem rfl)).trans rfl), gq hb52 rfl⟩⟩) rfl) rfl rfl
        (ffc (d := 118) (v := .bool true) (hd_v rfl fun ρ hρ => ⟨rfl, ov_pickT rfl rfl rfl rfl ((hρ 108 (lmem rfl)).trans rfl) hb52 rfl⟩) rfl rfl
        ffn)))))))))))))))) ?_
      refine lt_end ?_
      refine ago_condE  E6_91 rfl rfl (fun h => ?_) (fun h => tf h)
      refine ago_seqE E6_92 ?_
      refine ago_regE E6_93 (l := [0]) rfl ?_
      refine lk (dt := some 2) R6_28_N rfl rfl rfl (opv_assign rfl rfl rfl) ?_
      refine aops_nil ?_
      exact ago_retE E6_94 (r := false) (ares_1 rfl (oneT rfl)) rfl H
    · replace H := cnd_f H hb52
      obtain ⟨b55, i56, l57, c58, p54, hp59, h060, hj61, hv62, H⟩ := H
      obtain ⟨b63, i64, x66, hp65, hg67, H⟩ := H
      obtain ⟨b69, i70, l71, c72, p68, hp73, h074, hj75, hv76, H⟩ := H
      obtain ⟨b77, i78, x80, hp79, hg81, H⟩ := H
      refine ago_drawH (p := [0, 1, 2, 3, 4, 5, 6, 7, 8, 9, 10, 11, 12, 13, 14, 15]) (tl := []) (hv := [(0, got_12), (1, Value.int .i64 n40), (2, want_5), (3, Value.int .i64 n46), (4, Value.bool (!decide (n40 = n46))), (5, Value.bool (!decide (n40 = n46))), (6, got_12), (7, Value.int .i64 i_13), (8, p54), (9, Value.string x66), (10, want_5), (11, Value.int .i64 i_13), (12, p68), (13, Value.string x80), (14, Value.bool (!decide (x66 = x80))), (15, Value.bool (!decide (x66 = x80)))]) E6_90 mixed R6_27_N R6_27_O rfl (pv_cons rfl (pv_cons rfl (pv_cons rfl (pv_cons rfl (pv_cons rfl (pv_cons rfl (pv_cons rfl (pv_cons rfl (pv_cons rfl (pv_cons rfl (pv_cons rfl (pv_cons rfl (pv_cons rfl (pv_cons rfl (pv_cons rfl (pv_cons rfl (pv_nil _)))))))))))))))))
        (ffc (d := 103) (v := got_12) (hd_v rfl fun ρ hρ => ⟨rfl, opv_move rfl rfl ((hρ 12 (lmem rfl)).trans h12)⟩) rfl rfl
        (ffc (d := 104) (v := .int .i64 n40) (hd_v rfl fun ρ hρ => ⟨rfl, ov_len rfl rfl rfl underlying30 ((hρ 103 (lmem rfl)).trans rfl) hv44 hn45⟩) rfl rfl
        (ffc (d := 105) (v := want_5) (hd_v rfl fun ρ hρ => ⟨rfl, opv_move rfl rfl ((hρ 5 (lmem rfl)).trans h5)⟩) rfl rfl
        (ffc (d := 106) (v := .int .i64 n46) (hd_v rfl fun ρ hρ => ⟨rfl, ov_len rfl rfl rfl underlying30 ((hρ 105 (lmem rfl)).trans rfl) hv50 hn51⟩) rfl rfl
        (ffc (d := 107) (v := .bool (!decide (n40 = n46))) (hd_v rfl fun ρ hρ => ⟨rfl, opv_neI rfl rfl rfl ((hρ 104 (lmem rfl)).trans rfl) ((hρ 106 (lmem rfl)).trans rfl)⟩) rfl rfl
        (ffc (d := 108) (v := .bool (!decide (n40 = n46))) (hd_v rfl fun ρ hρ => ⟨rfl, opv_move rfl rfl ((hρ 107 (lmem rfl)).trans rfl)⟩) rfl rfl
        (ffc (d := 109) (v := got_12) (hd_v rfl fun ρ hρ => ⟨⟨_, rfl, .inl ⟨_, ((hρ 108 (lmem rfl)).trans rfl), gq hb52 rfl⟩⟩, opv_move rfl rfl ((hρ 12 (lmem rfl)).trans h12)⟩) rfl rfl
        (ffc (d := 110) (v := .int .i64 i_13) (hd_v rfl fun ρ hρ => ⟨⟨_, rfl, .inl ⟨_, ((hρ 108 (lmem rfl)).trans rfl), gq hb52 rfl⟩⟩, opv_move rfl rfl ((hρ 13 (lmem rfl)).trans h13)⟩) rfl rfl
        (ffc (d := 111) (v := p54) (hd_v rfl fun ρ hρ => ⟨⟨_, rfl, .inl ⟨_, ((hρ 108 (lmem rfl)).trans rfl), gq hb52 rfl⟩⟩, ov_ixS rfl rfl rfl underlying30 sz9 ((hρ 109 (lmem rfl)).trans rfl) ((hρ 110 (lmem rfl)).trans rfl) hp59 h060 hj61 hv62⟩) rfl rfl
        (ffc (d := 112) (v := .string x66) (hd_v rfl fun ρ hρ => ⟨⟨_, rfl, .inl ⟨_, ((hρ 108 (lmem rfl)).trans rfl), gq hb52 rfl⟩⟩, ov_ldS rfl underlying9 rfl ((hρ 111 (lmem rfl)).trans rfl) hp65 hg67⟩) rfl rfl
        (ffc (d := 113) (v := want_5) (hd_v rfl fun ρ hρ => ⟨⟨_, rfl, .inl ⟨_, ((hρ 108 (lmem rfl)).trans rfl), gq hb52 rfl⟩⟩, opv_move rfl rfl ((hρ 5 (lmem rfl)).trans h5)⟩) rfl rfl
        (ffc (d := 114) (v := .int .i64 i_13) (hd_v rfl fun ρ hρ => ⟨⟨_, rfl, .inl ⟨_, ((hρ 108 (lmem rfl)).trans rfl), gq hb52 rfl⟩⟩, opv_move rfl rfl ((hρ 13 (lmem rfl)).trans h13)⟩) rfl rfl
        (ffc (d := 115) (v := p68) (hd_v rfl fun ρ hρ => ⟨⟨_, rfl, .inl ⟨_, ((hρ 108 (lmem rfl)).trans rfl), gq hb52 rfl⟩⟩, ov_ixS rfl rfl rfl underlying30 sz9 ((hρ 113 (lmem rfl)).trans rfl) ((hρ 114 (lmem rfl)).trans rfl) hp73 h074 hj75 hv76⟩) rfl rfl
        (ffc (d := 116) (v := .string x80) (hd_v rfl fun ρ hρ => ⟨⟨_, rfl, .inl ⟨_, ((hρ 108 (lmem rfl)).trans rfl), gq hb52 rfl⟩⟩, ov_ldS rfl underlying9 rfl ((hρ 115 (lmem rfl)).trans rfl) hp79 hg81⟩) rfl rfl
        (ffc (d := 117) (v := .bool (!decide (x66 = x80))) (hd_v rfl fun ρ hρ => ⟨⟨_, rfl, .inl ⟨_, ((hρ 108 (lmem rfl)).trans rfl), gq hb52 rfl⟩⟩, opv_neS rfl rfl rfl ((hρ 112 (lmem rfl)).trans rfl) ((hρ 116 (lmem rfl)).trans rfl)⟩) rfl rfl
        (ffc (d := 118) (v := .bool (!decide (x66 = x80))) (hd_v rfl fun ρ hρ => ⟨rfl, ov_pickF rfl rfl rfl rfl ((hρ 108 (lmem rfl)).trans rfl) hb52 ((hρ 117 (lmem rfl)).trans rfl)⟩) rfl rfl
        ffn)))))))))))))))) ?_
      refine lt_end ?_
      refine ago_condE  E6_91 rfl rfl (fun hb82 => ?_) (fun hb82 => ?_)
      · replace H := cnd_t H hb82
        refine ago_seqE E6_92 ?_
        refine ago_regE E6_93 (l := [0]) rfl ?_
        refine lk (dt := some 2) R6_28_N rfl rfl rfl (opv_assign rfl rfl rfl) ?_
        refine aops_nil ?_
        exact ago_retE E6_94 (r := false) (ares_1 rfl (oneT rfl)) rfl H
      replace H := cnd_f H hb82
      refine ago_skipE E6_95 ?_
      refine ago_inBlock ?_
      refine ago_cut (fun ρ => ρ 5 = want_5 ∧ ρ 12 = got_12 ∧ ρ 13 = .int .i64 i_13 ∧ True) ⟨h5, h12, h13, trivial⟩ (fun ρ ⟨h5, h12, h13, _⟩ => ?_)
      refine ago_regE E6_96 (l := [0, 1, 2]) rfl ?_
      refine lk (dt := some 101) R6_26_N rfl rfl rfl (opv_move rfl rfl h13) ?_
      refine lk (dt := some 102) R6_26_N rfl rfl rfl (opv_add rfl rfl rfl rfl rfl) ?_
      refine lk (dt := some 13) R6_26_N rfl rfl rfl (opv_assign rfl rfl rfl) ?_
      refine aops_nil ?_
      refine ago_inLoop ?_
      exact L2 _ want_5 got_12 (IntKind.i64.wrap (i_13 + 1)) aw h5 h12 rfl H
  replace H := cnd_f H hb39
  refine ago_exitE E6_86 rfl ?_
  refine ago_seqE E6_97 ?_
  refine ago_regE E6_98 (l := [0]) rfl ?_
  refine lk (dt := some 2) R6_29_N rfl rfl rfl (opv_assign rfl rfl rfl) ?_
  refine aops_nil ?_
  exact ago_retE E6_99 (r := true) (ares_1 rfl (oneT rfl)) rfl H
theorem S6_2_ok (Q : Bool → AW → Prop) (E : List PanicEntry → AW → Prop)  : ∀ (n : Nat) (ρ : Env) (want_5 : Value) (got_12 : Value) (i_13 : Int) (aw : AW) (h5 : ρ 5 = want_5) (h12 : ρ 12 = got_12) (h13 : ρ 13 = .int .i64 i_13), S6_2 Q E  n want_5 got_12 i_13 aw →
    AGo prog 119 [.code C6_81, .inLoop C6_81, .inBlock 4, .code C6_97] ρ [] aw (RR prog f6 119 sh6 Q E)
  | 0, _, _, _, _, _, _, _, _ => fun H => H.elim
  | n + 1, ρ, want_5, got_12, i_13, aw, h5, h12, h13 => fun H => S6_2s_ok Q E  _ (S6_2_ok Q E  n) ρ want_5 got_12 i_13 aw h5 h12 h13 H
theorem S6_1s_ok (Q : Bool → AW → Prop) (E : List PanicEntry → AW → Prop)  (nx1 : Value → ByteArray → Bool → Value → Int → AW → Prop) (L1 : ∀ (ρ : Env) (names_0 : Value) (s_3 : ByteArray) (twice_4 : Bool) (want_5 : Value) (i_6 : Int) (aw : AW) (h0 : ρ 0 = names_0) (h3 : ρ 3 = .string s_3) (h4 : ρ 4 = .bool twice_4) (h5 : ρ 5 = want_5) (h6 : ρ 6 = .int .i64 i_6), nx1 names_0 s_3 twice_4 want_5 i_6 aw → AGo prog 119 [.code C6_21, .inLoop C6_21, .inBlock 0, .code C6_56] ρ [] aw (RR prog f6 119 sh6 Q E)) (ρ : Env) (names_0 : Value) (s_3 : ByteArray) (twice_4 : Bool) (want_5 : Value) (i_6 : Int) (aw : AW) (h0 : ρ 0 = names_0) (h3 : ρ 3 = .string s_3) (h4 : ρ 4 = .bool twice_4) (h5 : ρ 5 = want_5) (h6 : ρ 6 = .int .i64 i_6) (H : S6_1s Q E  nx1 names_0 s_3 twice_4 want_5 i_6 aw) :
    AGo prog 119 [.code C6_21, .inLoop C6_21, .inBlock 0, .code C6_56] ρ [] aw (RR prog f6 119 sh6 Q E) := by
  unfold S6_1s at H
  refine ago_seqE E6_21 ?_
  refine ago_seqE E6_22 ?_
  refine ago_regE E6_23 (l := [0, 1, 2, 3]) rfl ?_
  refine lk (dt := some 27) R6_7_N rfl rfl rfl (opv_move rfl rfl h6) ?_
  refine lk (dt := some 28) R6_7_N rfl rfl rfl (opv_move rfl rfl h0) ?_
  obtain ⟨q84, l85, c86, n83, hv87, hn88, H⟩ := H
  refine lk (dt := some 29) R6_7_N rfl rfl rfl (ov_len rfl rfl rfl underlying41 rfl hv87 hn88) ?_
  refine lk (dt := some 30) R6_7_N rfl rfl rfl (opv_lt rfl rfl rfl rfl rfl) ?_
  refine aops_nil ?_
  refine ago_condE  E6_24 rfl rfl (fun hb89 => ?_) (fun hb89 => ?_)
  · replace H := cnd_t H hb89
    refine ago_skipE E6_25 ?_
    refine ago_seqE E6_27 ?_
    refine ago_blockE E6_28 ?_
    refine ago_seqE E6_29 ?_
    refine ago_regE E6_30 (l := [0, 1, 2, 3, 4, 5, 6, 7, 8]) rfl ?_
    refine lk (dt := some 33) R6_9_N rfl rfl rfl (opv_move rfl rfl h0) ?_
    refine lk (dt := some 34) R6_9_N rfl rfl rfl (opv_move rfl rfl h6) ?_
    obtain ⟨b91, i92, l93, c94, p90, hp95, h096, hj97, hv98, H⟩ := H
    refine lk (dt := some 35) R6_9_N rfl rfl rfl (ov_ixS rfl rfl rfl underlying41 sz5 rfl rfl hp95 h096 hj97 hv98) ?_
    obtain ⟨b99, i100, x102, hp101, hg103, H⟩ := H
    refine lk (dt := some 36) R6_9_N rfl rfl rfl (ov_ldI rfl underlying5 rfl rfl hp101 hg103) ?_
    refine lk (dt := some 37) R6_9_N rfl rfl rfl (opv_rem rfl rfl rfl rfl rfl (by decide)) ?_
    refine lk (dt := some 38) R6_9_N rfl rfl rfl (opv_add rfl rfl rfl rfl rfl) ?_
    obtain ⟨p104, aw105, hp106, ha107, H⟩ := H
    refine lk (dt := some 39) R6_9_N rfl rfl rfl (ov_bsA (r := [.int .u8 (IntKind.u8.wrap (97 + (Int.tmod x102 26)))]) (vs := [.int .u8 (IntKind.u8.wrap (97 + (Int.tmod x102 26)))]) rfl rfl underlying41 sz5 z5 rfl rfl rfl rfl rfl (mp_cons rfl rfl) (.one rfl .nil) hp106 ha107) ?_
    obtain ⟨l113, n112, s108, hs109, hq110, hv111, H⟩ := H
    have hl114 := srcB_len hs109
    refine lk (dt := some 40) R6_9_N rfl rfl rfl (ov_toS rfl rfl underlying41 underlying9 underlying5 rfl hs109 hq110 hv111) ?_
    refine lk (dt := some 7) R6_9_N rfl rfl rfl (opv_assign rfl rfl rfl) ?_
    refine aops_nil ?_
    refine ago_seqE E6_31 ?_
    refine ago_seqE E6_32 ?_
    refine ago_cut (fun ρ => ρ 0 = names_0 ∧ ρ 3 = .string s_3 ∧ ρ 4 = .bool twice_4 ∧ ρ 5 = want_5 ∧ ρ 6 = .int .i64 i_6 ∧ ρ 7 = .string s108 ∧ True) ⟨h0, h3, h4, h5, h6, rfl, trivial⟩ (fun ρ ⟨h0, h3, h4, h5, h6, h7, _⟩ => ?_)
    refine ago_regE E6_33 (l := [0]) rfl ?_
    refine lk (dt := some 8) R6_10_N rfl rfl rfl (opv_assign rfl rfl rfl) ?_
    refine aops_nil ?_
    refine ago_blockE E6_34 ?_
    refine ago_loopE E6_35 ?_
    obtain ⟨n, H⟩ := H
    exact S6_3_ok Q E nx1 L1 n _ names_0 s_3 twice_4 want_5 i_6 s108 0 aw105 h0 h3 h4 h5 h6 h7 rfl H
  replace H := cnd_f H hb89
  refine ago_exitE E6_26 rfl ?_
  refine ago_seqE E6_56 ?_
  refine ago_regE E6_57 (l := [0, 1, 2, 3, 4, 5, 6, 7, 8, 9, 10]) rfl ?_
  refine lk (dt := some 68) R6_18_N rfl rfl rfl (opv_move rfl rfl h3) ?_
  obtain ⟨hz115, H⟩ := H
  refine lk (dt := some 69) R6_18_N rfl rfl rfl (opv_cat rfl rfl rfl rfl rfl hz115) ?_
  obtain ⟨hz116, H⟩ := H
  refine lk (dt := some 70) R6_18_N rfl rfl rfl (opv_cat rfl rfl rfl rfl rfl hz116) ?_
  refine lk_call (dt := some 71) R6_18_N rfl rfl rfl (opc_of rfl rfl is11 (ma_cons rfl rfl)) H (fun _ _ h => ⟨rfl, h⟩) fun r117 aw118 H => ?_
  refine lk (dt := some 67) R6_18_N rfl rfl rfl (opv_move rfl rfl rfl) ?_
  refine lk (dt := some 72) R6_18_N rfl rfl rfl (opv_extract rfl rfl rfl rfl) ?_
  refine lk (dt := some 73) R6_18_N rfl rfl rfl (opv_extract rfl rfl rfl rfl) ?_
  refine lk (dt := some 74) R6_18_N rfl rfl rfl (opv_extract rfl rfl rfl rfl) ?_
  refine lk (dt := some 9) R6_18_N rfl rfl rfl (opv_assign rfl rfl rfl) ?_
  refine lk (dt := some 10) R6_18_N rfl rfl rfl (opv_assign rfl rfl rfl) ?_
  refine lk (dt := some 11) R6_18_N rfl rfl rfl (opv_assign rfl rfl rfl) ?_
  refine aops_nil ?_
  refine ago_seqE E6_58 ?_
  refine ago_seqE E6_59 ?_
  refine ago_cut (fun ρ => ρ 4 = .bool twice_4 ∧ ρ 5 = want_5 ∧ ρ 9 = r117.1 ∧ ρ 10 = .int .i64 r117.2.1 ∧ ρ 11 = .int .i64 r117.2.2 ∧ True) ⟨h4, h5, rfl, rfl, rfl, trivial⟩ (fun ρ ⟨h4, h5, h9, h10, h11, _⟩ => ?_)
  refine ago_regE E6_60 (l := [0]) rfl ?_
  refine lk (dt := some 75) R6_19_N rfl rfl rfl (opv_move rfl rfl h4) ?_
  refine aops_nil ?_
  refine ago_condE  E6_61 rfl rfl (fun hb119 => ?_) (fun hb119 => ?_)
  · replace H := cnd_t H hb119
    refine ago_seqE E6_62 ?_
    refine ago_regE E6_63 (l := [0, 1, 2, 3, 4, 5, 6]) rfl ?_
    refine lk (dt := some 76) R6_20_N rfl rfl rfl (opv_move rfl rfl h11) ?_
    refine lk (dt := some 77) R6_20_N rfl rfl rfl (opv_eqI rfl rfl rfl rfl rfl) ?_
    refine lk (dt := some 78) R6_20_N rfl rfl rfl (opv_move rfl rfl rfl) ?_
    rcases Bool.eq_false_or_eq_true (decide (r117.2.2 = 7)) with hb120 | hb120
    · replace H := cnd_t H hb120
      refine lk (dt := some 79) R6_20_N rfl rfl ⟨_, rfl, .inl ⟨_, rfl, gq hb120 rfl⟩⟩ (opv_move rfl rfl h10) ?_
      refine lk (dt := some 80) R6_20_N rfl rfl ⟨_, rfl, .inl ⟨_, rfl, gq hb120 rfl⟩⟩ (opv_eqI rfl rfl rfl rfl rfl) ?_
      refine lk (dt := some 81) R6_20_N rfl rfl rfl (ov_pickT rfl rfl rfl rfl rfl hb120 rfl) ?_
      refine lk (dt := some 2) R6_20_N rfl rfl rfl (opv_assign rfl rfl rfl) ?_
      refine aops_nil ?_
      exact ago_retE E6_64 (r := (decide (r117.2.1 = 13))) (ares_1 rfl (oneT rfl)) rfl H
    · replace H := cnd_f H hb120
      refine lk_skip (dt := some 79) R6_20_N rfl rfl ⟨_, rfl, .inl ⟨_, rfl, gq hb120 rfl⟩⟩ ?_
      refine lk_skip (dt := some 80) R6_20_N rfl rfl ⟨_, rfl, .inl ⟨_, rfl, gq hb120 rfl⟩⟩ ?_
      refine lk (dt := some 81) R6_20_N rfl rfl rfl (ov_pickF rfl rfl rfl rfl rfl hb120 rfl) ?_
      refine lk (dt := some 2) R6_20_N rfl rfl rfl (opv_assign rfl rfl rfl) ?_
      refine aops_nil ?_
      exact ago_retE E6_64 (r := false) (ares_1 rfl (oneT rfl)) rfl H
  replace H := cnd_f H hb119
  refine ago_skipE E6_65 ?_
  refine ago_seqE E6_66 ?_
  refine ago_seqE E6_67 ?_
  refine ago_regE E6_68 (l := [0, 1, 2, 3, 4, 5, 6]) rfl ?_
  refine lk (dt := some 82) R6_21_N rfl rfl rfl (opv_move rfl rfl h11) ?_
  refine lk (dt := some 83) R6_21_N rfl rfl rfl (opv_neI rfl rfl rfl rfl rfl) ?_
  refine lk (dt := some 84) R6_21_N rfl rfl rfl (opv_move rfl rfl rfl) ?_
  rcases Bool.eq_false_or_eq_true (!decide (r117.2.2 = 0)) with hb121 | hb121
  · replace H := cnd_t H hb121
    refine lk_skip (dt := some 85) R6_21_N rfl rfl ⟨_, rfl, .inl ⟨_, rfl, gq hb121 rfl⟩⟩ ?_
    refine lk_skip (dt := some 86) R6_21_N rfl rfl ⟨_, rfl, .inl ⟨_, rfl, gq hb121 rfl⟩⟩ ?_
    refine lk_skip (dt := some 87) R6_21_N rfl rfl ⟨_, rfl, .inl ⟨_, rfl, gq hb121 rfl⟩⟩ ?_
    refine lk (dt := some 88) R6_21_N rfl rfl rfl (ov_pickT rfl rfl rfl rfl rfl hb121 rfl) ?_
    refine aops_nil ?_
    refine ago_condE  E6_69 rfl rfl (fun h => ?_) (fun h => tf h)
    refine ago_seqE E6_70 ?_
    refine ago_regE E6_71 (l := [0]) rfl ?_
    refine lk (dt := some 2) R6_22_N rfl rfl rfl (opv_assign rfl rfl rfl) ?_
    refine aops_nil ?_
    exact ago_retE E6_72 (r := false) (ares_1 rfl (oneT rfl)) rfl H
  · replace H := cnd_f H hb121
    refine lk (dt := some 85) R6_21_N rfl rfl ⟨_, rfl, .inl ⟨_, rfl, gq hb121 rfl⟩⟩ (opv_move rfl rfl h9) ?_
    obtain ⟨q124, l125, c126, n123, hv127, hn128, H⟩ := H
    refine lk (dt := some 86) R6_21_N rfl rfl ⟨_, rfl, .inl ⟨_, rfl, gq hb121 rfl⟩⟩ (ov_len rfl rfl rfl underlying23 rfl hv127 hn128) ?_
    refine lk (dt := some 87) R6_21_N rfl rfl ⟨_, rfl, .inl ⟨_, rfl, gq hb121 rfl⟩⟩ (opv_neI rfl rfl rfl rfl rfl) ?_
    refine lk (dt := some 88) R6_21_N rfl rfl rfl (ov_pickF rfl rfl rfl rfl rfl hb121 rfl) ?_
    refine aops_nil ?_
    refine ago_condE  E6_69 rfl rfl (fun hb129 => ?_) (fun hb129 => ?_)
    · replace H := cnd_t H hb129
      refine ago_seqE E6_70 ?_
      refine ago_regE E6_71 (l := [0]) rfl ?_
      refine lk (dt := some 2) R6_22_N rfl rfl rfl (opv_assign rfl rfl rfl) ?_
      refine aops_nil ?_
      exact ago_retE E6_72 (r := false) (ares_1 rfl (oneT rfl)) rfl H
    replace H := cnd_f H hb129
    refine ago_skipE E6_73 ?_
    refine ago_seqE E6_74 ?_
    refine ago_regE E6_75 (l := [0, 1, 2, 3, 4, 5, 6, 7, 8]) rfl ?_
    refine lk (dt := some 89) R6_23_N rfl rfl rfl (opv_move rfl rfl h9) ?_
    obtain ⟨b131, i132, l133, c134, p130, hp135, h0136, hj137, hv138, H⟩ := H
    refine lk (dt := some 90) R6_23_N rfl rfl rfl (ov_ixS rfl rfl rfl underlying23 sz47 rfl rfl hp135 h0136 hj137 hv138) ?_
    obtain ⟨b140, i141, p139, hp142, hv143, H⟩ := H
    refine lk (dt := some 91) R6_23_N rfl rfl rfl (ov_fldA rfl rfl underlying47 rfl sz35 (by decide) rfl hp142 rfl hv143) ?_
    obtain ⟨b145, i146, p144, hp147, hv148, H⟩ := H
    refine lk (dt := some 92) R6_23_N rfl rfl rfl (ov_fldA rfl rfl underlying35 rfl sz32 (by decide) rfl hp147 rfl hv148) ?_
    obtain ⟨b149, i150, x152, hp151, hg153, H⟩ := H
    refine lk (dt := some 93) R6_23_N rfl rfl rfl (ov_ldV rfl underlying32 rfl rfl rfl hp151 hg153) ?_
    obtain ⟨b155, i156, l157, c158, p154, hp159, h0160, hj161, hv162, H⟩ := H
    refine lk (dt := some 94) R6_23_N rfl rfl rfl (ov_ixS rfl rfl rfl underlying32 sz44 rfl rfl hp159 h0160 hj161 hv162) ?_
    obtain ⟨b163, i164, hp165, c166, hg170, c167, hg171, c168, hg172, c169, hg173, H⟩ := H
    refine lk (dt := some 95) R6_23_N rfl rfl rfl (ov_ldN rfl underlying44 rfl sz44 rfl rfl hp165 (getN_cons hg170 (getN_cons hg171 (getN_cons hg172 (getN_cons hg173 getN_nil))))) ?_
    refine lk_call (dt := some 96) R6_23_N rfl rfl rfl (opc_of rfl rfl is16 (ma_cons rfl rfl)) H (fun _ _ h => ⟨rfl, h⟩) fun r174 aw175 H => ?_
    refine lk (dt := some 12) R6_23_N rfl rfl rfl (opv_assign rfl rfl rfl) ?_
    refine aops_nil ?_
    refine ago_seqE E6_76 ?_
    refine ago_seqE E6_77 ?_
    refine ago_cut (fun ρ => ρ 5 = want_5 ∧ ρ 12 = r174 ∧ True) ⟨h5, rfl, trivial⟩ (fun ρ ⟨h5, h12, _⟩ => ?_)
    refine ago_regE E6_78 (l := [0]) rfl ?_
    refine lk (dt := some 13) R6_24_N rfl rfl rfl (opv_assign rfl rfl rfl) ?_
    refine aops_nil ?_
    refine ago_blockE E6_79 ?_
    refine ago_loopE E6_80 ?_
    obtain ⟨n, H⟩ := H
    exact S6_2_ok Q E  n _ want_5 r174 0 aw175 h5 h12 rfl H
theorem S6_1_ok (Q : Bool → AW → Prop) (E : List PanicEntry → AW → Prop)  : ∀ (n : Nat) (ρ : Env) (names_0 : Value) (s_3 : ByteArray) (twice_4 : Bool) (want_5 : Value) (i_6 : Int) (aw : AW) (h0 : ρ 0 = names_0) (h3 : ρ 3 = .string s_3) (h4 : ρ 4 = .bool twice_4) (h5 : ρ 5 = want_5) (h6 : ρ 6 = .int .i64 i_6), S6_1 Q E  n names_0 s_3 twice_4 want_5 i_6 aw →
    AGo prog 119 [.code C6_21, .inLoop C6_21, .inBlock 0, .code C6_56] ρ [] aw (RR prog f6 119 sh6 Q E)
  | 0, _, _, _, _, _, _, _, _, _, _, _, _ => fun H => H.elim
  | n + 1, ρ, names_0, s_3, twice_4, want_5, i_6, aw, h0, h3, h4, h5, h6 => fun H => S6_1s_ok Q E  _ (S6_1_ok Q E  n) ρ names_0 s_3 twice_4 want_5 i_6 aw h0 h3 h4 h5 h6 H
theorem S6_0_ok (Q : Bool → AW → Prop) (E : List PanicEntry → AW → Prop)  (ρ : Env) (names_0 : Value) (aw : AW) (h0 : ρ 0 = names_0) (H : S6_0 Q E  names_0 aw) :
    AGo prog 119 [.code C6_0] ρ [] aw (RR prog f6 119 sh6 Q E) := by
  unfold S6_0 at H
  refine ago_seqE E6_0 ?_
  refine ago_regE E6_1 (l := [0]) rfl ?_
  refine lk (dt := some 2) R6_0_N rfl rfl rfl (opv_assign rfl rfl rfl) ?_
  refine aops_nil ?_
  refine ago_seqE E6_2 ?_
  refine ago_seqE E6_3 ?_
  refine ago_regE E6_4 (l := [0, 1, 2, 3, 4, 5, 6, 7, 8, 9, 10, 11]) rfl ?_
  refine lk_call (dt := some 14) R6_1_N rfl rfl rfl (opc_of rfl rfl is10 rfl) H (fun _ _ h => ⟨rfl, h⟩) fun r176 aw177 H => ?_
  refine lk (dt := some 15) R6_1_N rfl rfl rfl (opv_not rfl rfl rfl) ?_
  refine lk (dt := some 16) R6_1_N rfl rfl rfl (opv_move rfl rfl rfl) ?_
  rcases Bool.eq_false_or_eq_true (!r176) with hb178 | hb178
  · replace H := cnd_t H hb178
    refine lk_skip (dt := some 17) R6_1_N rfl rfl ⟨_, rfl, .inl ⟨_, rfl, gq hb178 rfl⟩⟩ ?_
    refine lk_skip (dt := some 18) R6_1_N rfl rfl ⟨_, rfl, .inl ⟨_, rfl, gq hb178 rfl⟩⟩ ?_
    refine lk_skip (dt := some 19) R6_1_N rfl rfl ⟨_, rfl, .inl ⟨_, rfl, gq hb178 rfl⟩⟩ ?_
    refine lk (dt := some 20) R6_1_N rfl rfl rfl (ov_pickT rfl rfl rfl rfl rfl hb178 rfl) ?_
    refine lk (dt := some 21) R6_1_N rfl rfl rfl (opv_move rfl rfl rfl) ?_
    refine lk_skip (dt := some 22) R6_1_N rfl rfl ⟨_, rfl, .inl ⟨_, rfl, gq rfl rfl⟩⟩ ?_
    refine lk_skip (dt := some 23) R6_1_N rfl rfl ⟨_, rfl, .inl ⟨_, rfl, gq rfl rfl⟩⟩ ?_
    refine lk_skip (dt := some 24) R6_1_N rfl rfl ⟨_, rfl, .inl ⟨_, rfl, gq rfl rfl⟩⟩ ?_
    refine lk (dt := some 25) R6_1_N rfl rfl rfl (ov_pickT rfl rfl rfl rfl rfl rfl rfl) ?_
    refine aops_nil ?_
    refine ago_condE  E6_5 rfl rfl (fun h => ?_) (fun h => tf h)
    refine ago_seqE E6_6 ?_
    refine ago_regE E6_7 (l := [0, 1]) rfl ?_
    refine lk_call (dt := some 26) R6_2_N rfl rfl rfl (opc_of rfl rfl is10 rfl) H (fun _ _ h => ⟨rfl, h⟩) fun r180 aw181 H => ?_
    refine lk (dt := some 2) R6_2_N rfl rfl rfl (opv_assign rfl rfl rfl) ?_
    refine aops_nil ?_
    exact ago_retE E6_8 (r := r180) (ares_1 rfl (oneT rfl)) rfl H
  · replace H := cnd_f H hb178
    refine lk (dt := some 17) R6_1_N rfl rfl ⟨_, rfl, .inl ⟨_, rfl, gq hb178 rfl⟩⟩ (opv_move rfl rfl h0) ?_
    obtain ⟨q183, l184, c185, n182, hv186, hn187, H⟩ := H
    refine lk (dt := some 18) R6_1_N rfl rfl ⟨_, rfl, .inl ⟨_, rfl, gq hb178 rfl⟩⟩ (ov_len rfl rfl rfl underlying41 rfl hv186 hn187) ?_
    refine lk (dt := some 19) R6_1_N rfl rfl ⟨_, rfl, .inl ⟨_, rfl, gq hb178 rfl⟩⟩ (opv_gt rfl rfl rfl rfl rfl) ?_
    refine lk (dt := some 20) R6_1_N rfl rfl rfl (ov_pickF rfl rfl rfl rfl rfl hb178 rfl) ?_
    refine lk (dt := some 21) R6_1_N rfl rfl rfl (opv_move rfl rfl rfl) ?_
    rcases Bool.eq_false_or_eq_true (decide (20 < n182)) with hb188 | hb188
    · replace H := cnd_t H hb188
      refine lk_skip (dt := some 22) R6_1_N rfl rfl ⟨_, rfl, .inl ⟨_, rfl, gq hb188 rfl⟩⟩ ?_
      refine lk_skip (dt := some 23) R6_1_N rfl rfl ⟨_, rfl, .inl ⟨_, rfl, gq hb188 rfl⟩⟩ ?_
      refine lk_skip (dt := some 24) R6_1_N rfl rfl ⟨_, rfl, .inl ⟨_, rfl, gq hb188 rfl⟩⟩ ?_
      refine lk (dt := some 25) R6_1_N rfl rfl rfl (ov_pickT rfl rfl rfl rfl rfl hb188 rfl) ?_
      refine aops_nil ?_
      refine ago_condE  E6_5 rfl rfl (fun h => ?_) (fun h => tf h)
      refine ago_seqE E6_6 ?_
      refine ago_regE E6_7 (l := [0, 1]) rfl ?_
      refine lk_call (dt := some 26) R6_2_N rfl rfl rfl (opc_of rfl rfl is10 rfl) H (fun _ _ h => ⟨rfl, h⟩) fun r190 aw191 H => ?_
      refine lk (dt := some 2) R6_2_N rfl rfl rfl (opv_assign rfl rfl rfl) ?_
      refine aops_nil ?_
      exact ago_retE E6_8 (r := r190) (ares_1 rfl (oneT rfl)) rfl H
    · replace H := cnd_f H hb188
      refine lk (dt := some 22) R6_1_N rfl rfl ⟨_, rfl, .inl ⟨_, rfl, gq hb188 rfl⟩⟩ (opv_move rfl rfl h0) ?_
      obtain ⟨q193, l194, c195, n192, hv196, hn197, H⟩ := H
      refine lk (dt := some 23) R6_1_N rfl rfl ⟨_, rfl, .inl ⟨_, rfl, gq hb188 rfl⟩⟩ (ov_len rfl rfl rfl underlying41 rfl hv196 hn197) ?_
      refine lk (dt := some 24) R6_1_N rfl rfl ⟨_, rfl, .inl ⟨_, rfl, gq hb188 rfl⟩⟩ (opv_lt rfl rfl rfl rfl rfl) ?_
      refine lk (dt := some 25) R6_1_N rfl rfl rfl (ov_pickF rfl rfl rfl rfl rfl hb188 rfl) ?_
      refine aops_nil ?_
      refine ago_condE  E6_5 rfl rfl (fun hb198 => ?_) (fun hb198 => ?_)
      · replace H := cnd_t H hb198
        refine ago_seqE E6_6 ?_
        refine ago_regE E6_7 (l := [0, 1]) rfl ?_
        refine lk_call (dt := some 26) R6_2_N rfl rfl rfl (opc_of rfl rfl is10 rfl) H (fun _ _ h => ⟨rfl, h⟩) fun r199 aw200 H => ?_
        refine lk (dt := some 2) R6_2_N rfl rfl rfl (opv_assign rfl rfl rfl) ?_
        refine aops_nil ?_
        exact ago_retE E6_8 (r := r199) (ares_1 rfl (oneT rfl)) rfl H
      replace H := cnd_f H hb198
      refine ago_skipE E6_9 ?_
      refine ago_seqE E6_10 ?_
      refine ago_cut (fun ρ => ρ 0 = names_0 ∧ True) ⟨h0, trivial⟩ (fun ρ ⟨h0, _⟩ => ?_)
      refine ago_regE E6_11 (l := [0]) rfl ?_
      refine lk (dt := some 3) R6_3_N rfl rfl rfl (opv_assign rfl rfl rfl) ?_
      refine aops_nil ?_
      refine ago_seqE E6_12 ?_
      refine ago_regE E6_13 (l := [0]) rfl ?_
      refine lk (dt := some 4) R6_4_N rfl rfl rfl (opv_assign rfl rfl rfl) ?_
      refine aops_nil ?_
      refine ago_seqE E6_14 ?_
      refine ago_regE E6_15 (l := [0]) rfl ?_
      refine lk (dt := some 5) R6_5_N rfl rfl rfl (opv_assign rfl rfl rfl) ?_
      refine aops_nil ?_
      refine ago_seqE E6_16 ?_
      refine ago_seqE E6_17 ?_
      refine ago_regE E6_18 (l := [0]) rfl ?_
      refine lk (dt := some 6) R6_6_N rfl rfl rfl (opv_assign rfl rfl rfl) ?_
      refine aops_nil ?_
      refine ago_blockE E6_19 ?_
      refine ago_loopE E6_20 ?_
      obtain ⟨n, H⟩ := H
      exact S6_1_ok Q E  n _ names_0 (⟨#[]⟩ : ByteArray) false (.slice none 0 0) 0 aw177 h0 rfl rfl rfl rfl H
theorem F6_ok {Q : Bool → AW → Prop} {E : List PanicEntry → AW → Prop} (names_0 : Value) (aw : AW) (H : S6_0 Q E names_0 aw) : CallP prog 6 [names_0] aw sh6 Q E :=
  callP_of func6 C6_is rfl (Nat.le_of_ble_eq_true rfl) (S6_0_ok Q E _ names_0 aw rfl H)
end
end Go.Proofs.Tryz
